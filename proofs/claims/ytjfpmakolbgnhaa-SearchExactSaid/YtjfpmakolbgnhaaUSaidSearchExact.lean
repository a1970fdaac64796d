/- The call leakresponselaw34.SearchExact returns true for all arguments, and these read afterwards as they did. Conditions: none. -/
import Derived.Test.YtjfpmakolbgnhaaRows
import Derived.Test.YtjfpmakolbgnhaaUw_SearchExact
import Derived.Test.YtjfpmakolbgnhaaUqC
import Derived.Test.YtjfpmakolbgnhaaVmW
set_option linter.unusedSimpArgs false
set_option linter.unusedVariables false
namespace Go.Vl
open Go Go.Proofs
theorem cons_of {ds : List D} {n : Nat} (h : ds.length = n + 1) : ∃ d es, ds = d :: es ∧ es.length = n := by
  cases ds with
  | nil => cases h
  | cons d es => exact ⟨d, es, rfl, Nat.succ.inj h⟩
theorem shp_65 {m : Nat} {ds : List D} (h : Shp Try.prog m 65 ds) : ∃ x : api_Consumer, ds = api_Consumer_row x := by
  obtain ⟨m', hl, hf⟩ := shp_struct Try.underlying65 h
  have hl : ds.length = 3 := hl.trans (by kernel_rfl)
  have c3 : Try.prog.cellsOf 3 = 1 := by kernel_rfl
  have c4 : Try.prog.cellsOf 4 = 1 := by kernel_rfl
  obtain ⟨d0, es0, e, hl0⟩ := cons_of hl
  obtain ⟨d1, es1, rfl, hl1⟩ := cons_of hl0
  obtain ⟨d2, es2, rfl, hl2⟩ := cons_of hl1
  obtain rfl := List.eq_nil_of_length_eq_zero hl2
  subst e
  simp [c3, c4] at hf
  obtain ⟨g0, g1, g2⟩ := hf
  obtain ⟨n0, e0⟩ := shp_int Try.underlying3 g0
  obtain ⟨n1, e1⟩ := shp_bool Try.underlying4 g1
  obtain ⟨n2, e2⟩ := shp_bool Try.underlying4 g2
  refine ⟨⟨n0, n1, n2⟩, ?_⟩
  simp [iRow, bRow, sRow, slRow] at e0 e1 e2 ⊢
  simp [e0, e1, e2]
theorem shp_29 {m : Nat} {ds : List D} (h : Shp Try.prog m 29 ds) : ∃ x : api_Fleet, ds = api_Fleet_row x := by
  obtain ⟨m', hl, hf⟩ := shp_struct Try.underlying29 h
  have hl : ds.length = 2 := hl.trans (by kernel_rfl)
  have c3 : Try.prog.cellsOf 3 = 1 := by kernel_rfl
  have c27 : Try.prog.cellsOf 27 = 1 := by kernel_rfl
  obtain ⟨d0, es0, e, hl0⟩ := cons_of hl
  obtain ⟨d1, es1, rfl, hl1⟩ := cons_of hl0
  obtain rfl := List.eq_nil_of_length_eq_zero hl1
  subst e
  simp [c3, c27] at hf
  obtain ⟨g0, g1⟩ := hf
  obtain ⟨n0, e0⟩ := shp_int Try.underlying3 g0
  obtain ⟨n1, e1⟩ := shp_slice Try.underlying27 (f := api_Consumer_row) (fun _ _ h => shp_65 h) g1
  refine ⟨⟨n0, n1⟩, ?_⟩
  simp [iRow, bRow, sRow, slRow] at e0 e1 ⊢
  simp [e0, e1]
theorem shp_53 {m : Nat} {ds : List D} (h : Shp Try.prog m 53 ds) : ∃ x : api_Unit, ds = api_Unit_row x := by
  obtain ⟨m', hl, hf⟩ := shp_struct Try.underlying53 h
  have hl : ds.length = 3 := hl.trans (by kernel_rfl)
  have c3 : Try.prog.cellsOf 3 = 1 := by kernel_rfl
  have c4 : Try.prog.cellsOf 4 = 1 := by kernel_rfl
  obtain ⟨d0, es0, e, hl0⟩ := cons_of hl
  obtain ⟨d1, es1, rfl, hl1⟩ := cons_of hl0
  obtain ⟨d2, es2, rfl, hl2⟩ := cons_of hl1
  obtain rfl := List.eq_nil_of_length_eq_zero hl2
  subst e
  simp [c3, c4] at hf
  obtain ⟨g0, g1, g2⟩ := hf
  obtain ⟨n0, e0⟩ := shp_bool Try.underlying4 g0
  obtain ⟨n1, e1⟩ := shp_int Try.underlying3 g1
  obtain ⟨n2, e2⟩ := shp_int Try.underlying3 g2
  refine ⟨⟨n0, n1, n2⟩, ?_⟩
  simp [iRow, bRow, sRow, slRow] at e0 e1 e2 ⊢
  simp [e0, e1, e2]
theorem shp_33 {m : Nat} {ds : List D} (h : Shp Try.prog m 33 ds) : ∃ x : api_Rotation, ds = api_Rotation_row x := by
  obtain ⟨m', hl, hf⟩ := shp_struct Try.underlying33 h
  have hl : ds.length = 3 := hl.trans (by kernel_rfl)
  have c3 : Try.prog.cellsOf 3 = 1 := by kernel_rfl
  have c31 : Try.prog.cellsOf 31 = 1 := by kernel_rfl
  obtain ⟨d0, es0, e, hl0⟩ := cons_of hl
  obtain ⟨d1, es1, rfl, hl1⟩ := cons_of hl0
  obtain ⟨d2, es2, rfl, hl2⟩ := cons_of hl1
  obtain rfl := List.eq_nil_of_length_eq_zero hl2
  subst e
  simp [c3, c31] at hf
  obtain ⟨g0, g1, g2⟩ := hf
  obtain ⟨n0, e0⟩ := shp_int Try.underlying3 g0
  obtain ⟨n1, e1⟩ := shp_int Try.underlying3 g1
  obtain ⟨n2, e2⟩ := shp_slice Try.underlying31 (f := api_Unit_row) (fun _ _ h => shp_53 h) g2
  refine ⟨⟨n0, n1, n2⟩, ?_⟩
  simp [iRow, bRow, sRow, slRow] at e0 e1 e2 ⊢
  simp [e0, e1, e2]
end Go.Vl
namespace Go.Proofs.Ytjfpmakolbgnhaa.searchExact
open Go.ChangeShapes Go.WideShapes Go.ChangeAt Go.RowKit
set_option linter.unusedVariables false

theorem own : ownKnob Try.prog.godebug = none := by kernel_rfl
theorem laidOut : laidOutB Try.prog = true := by kernel_rfl

set_option maxRecDepth 100000 in
theorem lifted (os : Os) (started : os.Started) (H : Type) (enc : TypeId × Value → H) :
    ReturnsInHanded {} Try.checked os 6 .any (Rows.searchExactSpec.pre6 enc Try.prog Try.f6 Rows.searchExactRow.domain false) (Rows.searchExactSpec.post enc Try.prog Try.f6 false true false false) := by
  refine returnsInHanded_of_change (C := Try.checked) own started (by kernel_rfl) Try.func6
    (ChangeSpec.witness6 (enc := enc) (C := Try.checked) false ⟨#[], #[.slice none 0 0, .agg #[.int .i64 0, .slice none 0 0], .agg #[.int .i64 0, .int .i64 0, .slice none 0 0]], []⟩ 8 (by kernel_rfl) (by kernel_rfl) (by kernel_rfl) (by kernel_rfl)) ?_
  intro W base args ds gs before hval0 hW hcnd _
  have hval : ∀ (j : Nat) t v, Try.f6.params[j]? = some t → args[j]? = some v → Value.okWide Try.prog W .any base t v := hval0
  have hW' := hW
  obtain ⟨p, q, hA0, hV, rfl, hfz, hnd⟩ := hW
  have hA : DataW.TrodAll enc Try.prog W 0 (fun _ => true) true Try.f6.params.toList args.toList ds p := hA0
  rw [Try.params6] at hA hval
  obtain ⟨v0, vs0, d0, ds0, p0, q0, hargs, rfl, rfl, h0, r0⟩ := trodAll_cons hA
  obtain ⟨v1, vs1, d1, ds1, p1, q1, rfl, rfl, rfl, h1, r1⟩ := trodAll_cons r0
  obtain ⟨v2, vs2, d2, ds2, p2, q2, rfl, rfl, rfl, h2, r2⟩ := trodAll_cons r1
  obtain ⟨rfl, rfl, rfl⟩ := trodAll_nil r2
  obtain rfl : args = #[v0, v1, v2] := by cases args; simp_all
  obtain ⟨rfl, rfl⟩ := trodVars_none hV
  obtain ⟨z0, s0, A0, B0⟩ := Vl.in_any (P := Try.prog) (pl := Vl.ioPl [] []) 2 (by simp [Vl.plainB, Vl.plainB.go, Try.underlying3, Try.underlying22, show Try.prog.cellsOf 3 = 1 from by kernel_rfl, show Try.prog.cellsOf 22 = 1 from by kernel_rfl]) (hval 0 22 v0 rfl rfl) h0
  obtain ⟨a0, rfl⟩ := Vl.shp_slice Try.underlying22 (f := (Vl.iRow .i64)) (fun _ _ h => Vl.shp_int Try.underlying3 h) s0
  obtain ⟨x0, e0, R0⟩ := B0 (fun fs h => by rw [Try.underlying22] at h; cases h)
  simp only [Vl.iRow, Vl.bRow, Vl.sRow, Vl.slRow, List.cons.injEq, and_true] at e0; subst e0
  obtain ⟨z1, s1, A1, B1⟩ := Vl.in_any (P := Try.prog) (pl := Vl.ioPl [] []) 4 (by simp [Vl.plainB, Vl.plainB.go, Try.underlying3, Try.underlying4, Try.underlying27, Try.underlying29, Try.underlying65, show Try.prog.cellsOf 3 = 1 from by kernel_rfl, show Try.prog.cellsOf 4 = 1 from by kernel_rfl, show Try.prog.cellsOf 27 = 1 from by kernel_rfl, show Try.prog.cellsOf 29 = 2 from by kernel_rfl, show Try.prog.cellsOf 65 = 3 from by kernel_rfl]) (hval 1 29 v1 rfl rfl) h1
  obtain ⟨a1, rfl⟩ := Vl.shp_29 s1
  have R1 := A1 ⟨_, Try.underlying29⟩
  obtain ⟨z2, s2, A2, B2⟩ := Vl.in_any (P := Try.prog) (pl := Vl.ioPl [] []) 4 (by simp [Vl.plainB, Vl.plainB.go, Try.underlying3, Try.underlying4, Try.underlying31, Try.underlying33, Try.underlying53, show Try.prog.cellsOf 3 = 1 from by kernel_rfl, show Try.prog.cellsOf 4 = 1 from by kernel_rfl, show Try.prog.cellsOf 31 = 1 from by kernel_rfl, show Try.prog.cellsOf 33 = 3 from by kernel_rfl, show Try.prog.cellsOf 53 = 3 from by kernel_rfl]) (hval 2 33 v2 rfl rfl) h2
  obtain ⟨a2, rfl⟩ := Vl.shp_33 s2
  have R2 := A2 ⟨_, Try.underlying33⟩
  refine ((Vl.law34_SearchExact_ok (Vl.SearchExact_law a0 a1 a2)).run W #[v0, v1, v2] rfl (fun i x v hx hv => ?_)).mono fun e W' ⟨v, he, hr, hb⟩ => ?_
  · match i, hx, hv with
    | 0, hx, hv => simp at hx hv; subst hx hv; exact R0
    | 1, hx, hv => simp at hx hv; subst hx hv; exact by simpa using R1
    | 2, hx, hv => simp at hx hv; subst hx hv; exact by simpa using R2
  · obtain rfl := hr.bool_inv
    exact ⟨_, he, Vl.post_true laidOut (by kernel_rfl) rfl Try.underlying4 rfl hW' rfl rfl rfl hb⟩

theorem closed : joinedFacts Try.pinned.checked.prog 6 Try.f6 Rows.searchExactSpec Rows.searchExactRow = true := by kernel_rfl
theorem inst : Try.f6.isInstance Try.pinned.checked.prog Rows.searchExactRow.origin Rows.searchExactRow.targs := of_decide_eq_true (by kernel_rfl)
theorem wraps : Try.f6.isWrapper Try.pinned.checked.prog Rows.searchExactRow.wrapper Rows.searchExactRow.mainSum := by
  unfold Func.isWrapper; first | (rw [if_pos (by decide +kernel)]; kernel_rfl) | (rw [if_neg (by decide +kernel)]; exact ⟨rfl, rfl⟩)
theorem named : Try.pinned.checked.prog.funcNamed Rows.searchExactRow.func = some 6 := by kernel_rfl
theorem over : Rows.searchExactRow.holds Try.pinned (OpenSpec.ofChange Rows.searchExactSpec) :=
  OpenClaim.holds_of_wide 6 Try.f6 rfl rfl rfl rfl rfl rfl rfl ⟨rfl, rfl, rfl, rfl, rfl⟩ rfl rfl rfl rfl rfl named Try.func6 closed inst wraps
    (fun os started H enc _ => lifted os started H enc)

theorem proved : Rows.SearchExactSaid :=
  over
#print axioms proved
end Go.Proofs.Ytjfpmakolbgnhaa.searchExact
