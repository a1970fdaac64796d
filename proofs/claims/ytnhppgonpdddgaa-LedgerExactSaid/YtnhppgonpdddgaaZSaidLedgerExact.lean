/- The call leakresponselaw42.LedgerExact returns true for all arguments, and these read afterwards as they did. Conditions: none. -/
import Derived.Test.YtnhppgonpdddgaaRows
import Derived.Test.YtnhppgonpdddgaaZw_LedgerExact
import Derived.Test.YtnhppgonpdddgaaZlC
import Derived.Test.YtnhppgonpdddgaaVmW
set_option linter.unusedSimpArgs false
set_option linter.unusedVariables false
namespace Go.Vl
open Go Go.Proofs
theorem cons_of {ds : List D} {n : Nat} (h : ds.length = n + 1) : ∃ d es, ds = d :: es ∧ es.length = n := by
  cases ds with
  | nil => cases h
  | cons d es => exact ⟨d, es, rfl, Nat.succ.inj h⟩
theorem shp_42 {m : Nat} {ds : List D} (h : Shp Try.prog m 42 ds) : ∃ x : api_Record, ds = api_Record_row x := by
  obtain ⟨m', hl, hf⟩ := shp_struct Try.underlying42 h
  have hl : ds.length = 4 := hl.trans (by kernel_rfl)
  have c3 : Try.prog.cellsOf 3 = 1 := by kernel_rfl
  obtain ⟨d0, es0, e, hl0⟩ := cons_of hl
  obtain ⟨d1, es1, rfl, hl1⟩ := cons_of hl0
  obtain ⟨d2, es2, rfl, hl2⟩ := cons_of hl1
  obtain ⟨d3, es3, rfl, hl3⟩ := cons_of hl2
  obtain rfl := List.eq_nil_of_length_eq_zero hl3
  subst e
  simp [c3] at hf
  obtain ⟨g0, g1, g2, g3⟩ := hf
  obtain ⟨n0, e0⟩ := shp_int Try.underlying3 g0
  obtain ⟨n1, e1⟩ := shp_int Try.underlying3 g1
  obtain ⟨n2, e2⟩ := shp_int Try.underlying3 g2
  obtain ⟨n3, e3⟩ := shp_int Try.underlying3 g3
  refine ⟨⟨n0, n1, n2, n3⟩, ?_⟩
  simp [iRow, bRow, sRow, slRow] at e0 e1 e2 e3 ⊢
  simp [e0, e1, e2, e3]
end Go.Vl
namespace Go.Proofs.Ytnhppgonpdddgaa.ledgerExact
open Go.ChangeShapes Go.WideShapes Go.ChangeAt Go.RowKit
set_option linter.unusedVariables false

theorem own : ownKnob Try.prog.godebug = none := by kernel_rfl
theorem laidOut : laidOutB Try.prog = true := by kernel_rfl

set_option maxRecDepth 100000 in
theorem lifted (os : Os) (started : os.Started) (H : Type) (enc : TypeId × Value → H) :
    ReturnsInHanded {} Try.checked os 5 .any (Rows.ledgerExactSpec.pre6 enc Try.prog Try.f5 Rows.ledgerExactRow.domain false) (Rows.ledgerExactSpec.post enc Try.prog Try.f5 false true false false) := by
  refine returnsInHanded_of_change (C := Try.checked) own started (by kernel_rfl) Try.func5
    (ChangeSpec.witness6 (enc := enc) (C := Try.checked) false ⟨#[], #[.slice none 0 0, .slice none 0 0, .agg #[.int .i64 0, .int .i64 0, .int .i64 0, .int .i64 0], .int .i64 0, .int .i64 0, .int .i64 0, .int .i64 0], []⟩ 8 (by kernel_rfl) (by kernel_rfl) (by kernel_rfl) (by kernel_rfl)) ?_
  intro W base args ds gs before hval0 hW hcnd _
  have hval : ∀ (j : Nat) t v, Try.f5.params[j]? = some t → args[j]? = some v → Value.okWide Try.prog W .any base t v := hval0
  have hW' := hW
  obtain ⟨p, q, hA0, hV, rfl, hfz, hnd⟩ := hW
  have hA : DataW.TrodAll enc Try.prog W 0 (fun _ => true) true Try.f5.params.toList args.toList ds p := hA0
  rw [Try.params5] at hA hval
  obtain ⟨v0, vs0, d0, ds0, p0, q0, hargs, rfl, rfl, h0, r0⟩ := trodAll_cons hA
  obtain ⟨v1, vs1, d1, ds1, p1, q1, rfl, rfl, rfl, h1, r1⟩ := trodAll_cons r0
  obtain ⟨v2, vs2, d2, ds2, p2, q2, rfl, rfl, rfl, h2, r2⟩ := trodAll_cons r1
  obtain ⟨v3, vs3, d3, ds3, p3, q3, rfl, rfl, rfl, h3, r3⟩ := trodAll_cons r2
  obtain ⟨v4, vs4, d4, ds4, p4, q4, rfl, rfl, rfl, h4, r4⟩ := trodAll_cons r3
  obtain ⟨v5, vs5, d5, ds5, p5, q5, rfl, rfl, rfl, h5, r5⟩ := trodAll_cons r4
  obtain ⟨v6, vs6, d6, ds6, p6, q6, rfl, rfl, rfl, h6, r6⟩ := trodAll_cons r5
  obtain ⟨rfl, rfl, rfl⟩ := trodAll_nil r6
  obtain rfl : args = #[v0, v1, v2, v3, v4, v5, v6] := by cases args; simp_all
  obtain ⟨rfl, rfl⟩ := trodVars_none hV
  obtain ⟨z0, s0, A0, B0⟩ := Vl.in_any (P := Try.prog) (pl := Vl.ioPl [] []) 2 (by simp [Vl.plainB, Vl.plainB.go, Try.underlying3, Try.underlying22, show Try.prog.cellsOf 3 = 1 from by kernel_rfl, show Try.prog.cellsOf 22 = 1 from by kernel_rfl]) (hval 0 22 v0 rfl rfl) h0
  obtain ⟨a0, rfl⟩ := Vl.shp_slice Try.underlying22 (f := (Vl.iRow .i64)) (fun _ _ h => Vl.shp_int Try.underlying3 h) s0
  obtain ⟨x0, e0, R0⟩ := B0 (fun fs h => by rw [Try.underlying22] at h; cases h)
  simp only [Vl.iRow, Vl.bRow, Vl.sRow, Vl.slRow, List.cons.injEq, and_true] at e0; subst e0
  obtain ⟨z1, s1, A1, B1⟩ := Vl.in_any (P := Try.prog) (pl := Vl.ioPl [] []) 3 (by simp [Vl.plainB, Vl.plainB.go, Try.underlying3, Try.underlying32, Try.underlying42, show Try.prog.cellsOf 3 = 1 from by kernel_rfl, show Try.prog.cellsOf 32 = 1 from by kernel_rfl, show Try.prog.cellsOf 42 = 4 from by kernel_rfl]) (hval 1 32 v1 rfl rfl) h1
  obtain ⟨a1, rfl⟩ := Vl.shp_slice Try.underlying32 (f := Vl.api_Record_row) (fun _ _ h => Vl.shp_42 h) s1
  obtain ⟨x1, e1, R1⟩ := B1 (fun fs h => by rw [Try.underlying32] at h; cases h)
  simp only [Vl.iRow, Vl.bRow, Vl.sRow, Vl.slRow, List.cons.injEq, and_true] at e1; subst e1
  obtain ⟨z2, s2, A2, B2⟩ := Vl.in_any (P := Try.prog) (pl := Vl.ioPl [] []) 2 (by simp [Vl.plainB, Vl.plainB.go, Try.underlying3, Try.underlying42, show Try.prog.cellsOf 3 = 1 from by kernel_rfl, show Try.prog.cellsOf 42 = 4 from by kernel_rfl]) (hval 2 42 v2 rfl rfl) h2
  obtain ⟨a2, rfl⟩ := Vl.shp_42 s2
  have R2 := A2 ⟨_, Try.underlying42⟩
  obtain ⟨z3, s3, A3, B3⟩ := Vl.in_any (P := Try.prog) (pl := Vl.ioPl [] []) 1 (by simp [Vl.plainB, Vl.plainB.go, Try.underlying3, show Try.prog.cellsOf 3 = 1 from by kernel_rfl]) (hval 3 3 v3 rfl rfl) h3
  obtain ⟨a3, rfl⟩ := Vl.shp_int Try.underlying3 s3
  obtain ⟨x3, e3, R3⟩ := B3 (fun fs h => by rw [Try.underlying3] at h; cases h)
  simp only [Vl.iRow, Vl.bRow, Vl.sRow, Vl.slRow, List.cons.injEq, and_true] at e3; subst e3
  obtain ⟨z4, s4, A4, B4⟩ := Vl.in_any (P := Try.prog) (pl := Vl.ioPl [] []) 1 (by simp [Vl.plainB, Vl.plainB.go, Try.underlying3, show Try.prog.cellsOf 3 = 1 from by kernel_rfl]) (hval 4 3 v4 rfl rfl) h4
  obtain ⟨a4, rfl⟩ := Vl.shp_int Try.underlying3 s4
  obtain ⟨x4, e4, R4⟩ := B4 (fun fs h => by rw [Try.underlying3] at h; cases h)
  simp only [Vl.iRow, Vl.bRow, Vl.sRow, Vl.slRow, List.cons.injEq, and_true] at e4; subst e4
  obtain ⟨z5, s5, A5, B5⟩ := Vl.in_any (P := Try.prog) (pl := Vl.ioPl [] []) 1 (by simp [Vl.plainB, Vl.plainB.go, Try.underlying3, show Try.prog.cellsOf 3 = 1 from by kernel_rfl]) (hval 5 3 v5 rfl rfl) h5
  obtain ⟨a5, rfl⟩ := Vl.shp_int Try.underlying3 s5
  obtain ⟨x5, e5, R5⟩ := B5 (fun fs h => by rw [Try.underlying3] at h; cases h)
  simp only [Vl.iRow, Vl.bRow, Vl.sRow, Vl.slRow, List.cons.injEq, and_true] at e5; subst e5
  obtain ⟨z6, s6, A6, B6⟩ := Vl.in_any (P := Try.prog) (pl := Vl.ioPl [] []) 1 (by simp [Vl.plainB, Vl.plainB.go, Try.underlying3, show Try.prog.cellsOf 3 = 1 from by kernel_rfl]) (hval 6 3 v6 rfl rfl) h6
  obtain ⟨a6, rfl⟩ := Vl.shp_int Try.underlying3 s6
  obtain ⟨x6, e6, R6⟩ := B6 (fun fs h => by rw [Try.underlying3] at h; cases h)
  simp only [Vl.iRow, Vl.bRow, Vl.sRow, Vl.slRow, List.cons.injEq, and_true] at e6; subst e6
  refine ((Vl.law42_LedgerExact_ok (Vl.LedgerExact_law a0 a1 a2 a3 a4 a5 a6)).run W #[v0, v1, v2, v3, v4, v5, v6] rfl (fun i x v hx hv => ?_)).mono fun e W' ⟨v, he, hr, hb⟩ => ?_
  · match i, hx, hv with
    | 0, hx, hv => simp at hx hv; subst hx hv; exact R0
    | 1, hx, hv => simp at hx hv; subst hx hv; exact R1
    | 2, hx, hv => simp at hx hv; subst hx hv; exact by simpa using R2
    | 3, hx, hv => simp at hx hv; subst hx hv; exact R3
    | 4, hx, hv => simp at hx hv; subst hx hv; exact R4
    | 5, hx, hv => simp at hx hv; subst hx hv; exact R5
    | 6, hx, hv => simp at hx hv; subst hx hv; exact R6
  · obtain rfl := hr.bool_inv
    exact ⟨_, he, Vl.post_true laidOut (by kernel_rfl) rfl Try.underlying4 rfl hW' rfl rfl rfl hb⟩

theorem closed : joinedFacts Try.pinned.checked.prog 5 Try.f5 Rows.ledgerExactSpec Rows.ledgerExactRow = true := by kernel_rfl
theorem inst : Try.f5.isInstance Try.pinned.checked.prog Rows.ledgerExactRow.origin Rows.ledgerExactRow.targs := of_decide_eq_true (by kernel_rfl)
theorem wraps : Try.f5.isWrapper Try.pinned.checked.prog Rows.ledgerExactRow.wrapper Rows.ledgerExactRow.mainSum := by
  unfold Func.isWrapper; first | (rw [if_pos (by decide +kernel)]; kernel_rfl) | (rw [if_neg (by decide +kernel)]; exact ⟨rfl, rfl⟩)
theorem named : Try.pinned.checked.prog.funcNamed Rows.ledgerExactRow.func = some 5 := by kernel_rfl
theorem over : Rows.ledgerExactRow.holds Try.pinned (OpenSpec.ofChange Rows.ledgerExactSpec) :=
  OpenClaim.holds_of_wide 5 Try.f5 rfl rfl rfl rfl rfl rfl rfl ⟨rfl, rfl, rfl, rfl, rfl⟩ rfl rfl rfl rfl rfl named Try.func5 closed inst wraps
    (fun os started H enc _ => lifted os started H enc)

theorem proved : Rows.LedgerExactSaid :=
  over
#print axioms proved
end Go.Proofs.Ytnhppgonpdddgaa.ledgerExact
