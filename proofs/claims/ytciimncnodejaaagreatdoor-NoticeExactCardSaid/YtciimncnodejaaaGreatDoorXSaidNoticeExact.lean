/- The call leakresponselaw41.NoticeExact returns true for all arguments, and these read afterwards as they did. Conditions: none. -/
import Derived.Test.YtciimncnodejaaaGreatDoorTie
import Derived.Test.YtciimncnodejaaaGreatDoorCards
import Derived.Lib.LaidTab
import Derived.Handed
import Derived.ProofKit
import Derived.Test.YtciimncnodejaaaGreatDoorRows
import Derived.Test.YtciimncnodejaaaGreatDoorXw_NoticeExact
import Derived.Test.YtciimncnodejaaaGreatDoorXpD
import Derived.Test.YtciimncnodejaaaGreatDoorVmW
import Derived.Test.YtciimncnodejaaaGreatDoorVmZh
set_option linter.unusedSimpArgs false
set_option linter.unusedVariables false
namespace Go.Vl
open Go Go.Proofs
theorem cons_of {ds : List D} {n : Nat} (h : ds.length = n + 1) : ∃ d es, ds = d :: es ∧ es.length = n := by
  cases ds with
  | nil => cases h
  | cons d es => exact ⟨d, es, rfl, Nat.succ.inj h⟩
theorem shp_64 {m : Nat} {ds : List D} (h : Shp Tryz.prog m 64 ds) : ∃ x : api_Member, ds = api_Member_row x := by
  obtain ⟨m', hl, hf⟩ := shp_struct Tryz.underlying64 h
  have hl : ds.length = 4 := hl.trans (by kernel_rfl)
  have c3 : Tryz.prog.cellsOf 3 = 1 := by kernel_rfl
  obtain ⟨d0, es0, e, hl0⟩ := cons_of hl
  obtain ⟨d1, es1, rfl, hl1⟩ := cons_of hl0
  obtain ⟨d2, es2, rfl, hl2⟩ := cons_of hl1
  obtain ⟨d3, es3, rfl, hl3⟩ := cons_of hl2
  obtain rfl := List.eq_nil_of_length_eq_zero hl3
  subst e
  simp [c3] at hf
  obtain ⟨g0, g1, g2, g3⟩ := hf
  obtain ⟨n0, e0⟩ := shp_int Tryz.underlying3 g0
  obtain ⟨n1, e1⟩ := shp_int Tryz.underlying3 g1
  obtain ⟨n2, e2⟩ := shp_int Tryz.underlying3 g2
  obtain ⟨n3, e3⟩ := shp_int Tryz.underlying3 g3
  refine ⟨⟨n0, n1, n2, n3⟩, ?_⟩
  simp [iRow, bRow, sRow, slRow] at e0 e1 e2 e3 ⊢
  simp [e0, e1, e2, e3]
theorem shp_25 {m : Nat} {ds : List D} (h : Shp Tryz.prog m 25 ds) : ∃ x : api_Directory, ds = api_Directory_row x := by
  obtain ⟨m', hl, hf⟩ := shp_struct Tryz.underlying25 h
  have hl : ds.length = 2 := hl.trans (by kernel_rfl)
  have c22 : Tryz.prog.cellsOf 22 = 1 := by kernel_rfl
  have c23 : Tryz.prog.cellsOf 23 = 1 := by kernel_rfl
  obtain ⟨d0, es0, e, hl0⟩ := cons_of hl
  obtain ⟨d1, es1, rfl, hl1⟩ := cons_of hl0
  obtain rfl := List.eq_nil_of_length_eq_zero hl1
  subst e
  simp [c22, c23] at hf
  obtain ⟨g0, g1⟩ := hf
  obtain ⟨n0, e0⟩ := shp_slice Tryz.underlying22 (f := (iRow .i64)) (fun _ _ h => shp_int Tryz.underlying3 h) g0
  obtain ⟨n1, e1⟩ := shp_slice Tryz.underlying23 (f := api_Member_row) (fun _ _ h => shp_64 h) g1
  refine ⟨⟨n0, n1⟩, ?_⟩
  simp [iRow, bRow, sRow, slRow] at e0 e1 ⊢
  simp [e0, e1]
theorem shp_66 {m : Nat} {ds : List D} (h : Shp Tryz.prog m 66 ds) : ∃ x : api_Steward, ds = api_Steward_row x := by
  obtain ⟨m', hl, hf⟩ := shp_struct Tryz.underlying66 h
  have hl : ds.length = 3 := hl.trans (by kernel_rfl)
  have c3 : Tryz.prog.cellsOf 3 = 1 := by kernel_rfl
  obtain ⟨d0, es0, e, hl0⟩ := cons_of hl
  obtain ⟨d1, es1, rfl, hl1⟩ := cons_of hl0
  obtain ⟨d2, es2, rfl, hl2⟩ := cons_of hl1
  obtain rfl := List.eq_nil_of_length_eq_zero hl2
  subst e
  simp [c3] at hf
  obtain ⟨g0, g1, g2⟩ := hf
  obtain ⟨n0, e0⟩ := shp_int Tryz.underlying3 g0
  obtain ⟨n1, e1⟩ := shp_int Tryz.underlying3 g1
  obtain ⟨n2, e2⟩ := shp_int Tryz.underlying3 g2
  refine ⟨⟨n0, n1, n2⟩, ?_⟩
  simp [iRow, bRow, sRow, slRow] at e0 e1 e2 ⊢
  simp [e0, e1, e2]
theorem shp_40 {m : Nat} {ds : List D} (h : Shp Tryz.prog m 40 ds) : ∃ x : api_Case, ds = api_Case_row x := by
  obtain ⟨m', hl, hf⟩ := shp_struct Tryz.underlying40 h
  have hl : ds.length = 5 := hl.trans (by kernel_rfl)
  have c3 : Tryz.prog.cellsOf 3 = 1 := by kernel_rfl
  obtain ⟨d0, es0, e, hl0⟩ := cons_of hl
  obtain ⟨d1, es1, rfl, hl1⟩ := cons_of hl0
  obtain ⟨d2, es2, rfl, hl2⟩ := cons_of hl1
  obtain ⟨d3, es3, rfl, hl3⟩ := cons_of hl2
  obtain ⟨d4, es4, rfl, hl4⟩ := cons_of hl3
  obtain rfl := List.eq_nil_of_length_eq_zero hl4
  subst e
  simp [c3] at hf
  obtain ⟨g0, g1, g2, g3, g4⟩ := hf
  obtain ⟨n0, e0⟩ := shp_int Tryz.underlying3 g0
  obtain ⟨n1, e1⟩ := shp_int Tryz.underlying3 g1
  obtain ⟨n2, e2⟩ := shp_int Tryz.underlying3 g2
  obtain ⟨n3, e3⟩ := shp_int Tryz.underlying3 g3
  obtain ⟨n4, e4⟩ := shp_int Tryz.underlying3 g4
  refine ⟨⟨n0, n1, n2, n3, n4⟩, ?_⟩
  simp [iRow, bRow, sRow, slRow] at e0 e1 e2 e3 e4 ⊢
  simp [e0, e1, e2, e3, e4]
end Go.Vl
namespace Go.Proofs.YtciimncnodejaaaGreatDoor.noticeExact
open Go.ChangeShapes Go.WideShapes Go.ChangeAt Go.RowKit
set_option linter.unusedVariables false

theorem own : ownKnob Tryz.prog.godebug = none := by kernel_rfl
theorem laidOut : laidOutB Tryz.prog = true := by kernel_rfl

theorem gName : Tryz.prog.globalNamed "leakresponse/notice.deadlines" = some 0 := by kernel_rfl
theorem gType : (Tryz.prog.globals[0]?).map (·.type) = some 67 := by kernel_rfl
theorem gOf : Vl.globOf Tryz.prog 0 = [40, 16, 4, 1] := by kernel_rfl
/-- The settled world, but the listed variable holds what the program's text lays. -/
noncomputable def tabWorld (os : Os) : World :=
  let w0 := World.holding Tryz.prog os ⟨#[], #[], []⟩
  { w0 with heap := w0.heap.modify 0 fun
      | .cells _ t frozen => .cells #[.int .i64 40, .int .i64 16, .int .i64 4, .int .i64 1] t frozen
      | o => o }
theorem laid_met (os : Os) (args : Array Value) : laidMet Tryz.prog Rows.noticeExactRow.laid ((tabWorld os).forCall (fun _ _ => 0) ⟨#[], args, []⟩).memory :=
  laidMet_of_run (ps := [.cell 0 0, .cell 0 1, .cell 0 2, .cell 0 3]) 8 (by kernel_rfl) (by kernel_rfl) (by kernel_rfl)
theorem glob {W : World} (h : laidMet Tryz.prog Rows.noticeExactRow.laid W) : Vl.GlobAt Tryz.prog W (· < W.heap.size) := by
  have hT : Lib.TabIs Tryz.prog W "leakresponse/notice.deadlines" .i64 [40, 16, 4, 1] := Lib.tabIs_of_head gName gType Tryz.underlying67 Tryz.underlying3 (by kernel_rfl) (by kernel_rfl) h
  refine Vl.globAt_one (g := 0) (by kernel_rfl) gOf fun i x hx => ?_
  have hi : i < [40, 16, 4, 1].length := (List.getElem?_eq_some_iff.1 hx).1
  rw [hT.cell gName i hi]
  simp only [List.getD, hx, Option.getD_some]
set_option maxRecDepth 100000 in
theorem lifted (os : Os) (started : os.Started) (H : Type) (enc : TypeId × Value → H) :
    ReturnsInHanded {} Tryz.checked os 3 .any (fun w args => (Rows.noticeExactSpec.pre enc Tryz.prog Tryz.f3 Rows.noticeExactRow.domain false w args ∧ laidMet Tryz.prog Rows.noticeExactRow.laid w) ∧ sizedMet enc Tryz.prog Tryz.f3 (OpenSpec.ofChange Rows.noticeExactSpec) false w args) (Rows.noticeExactSpec.post enc Tryz.prog Tryz.f3 false true false false) := by
  refine returnsInHanded_of_change_and (C := Tryz.checked) (X := fun w _ => laidMet Tryz.prog Rows.noticeExactRow.laid w) (fun _ _ _ hh h => h.of_heap hh) own started (by kernel_rfl) Tryz.func3
    (ChangeSpec.witness_at (enc := enc) (C := Tryz.checked) (os := os) (X := fun w _ => laidMet Tryz.prog Rows.noticeExactRow.laid w) false (tabWorld os) #[.slice none 0 0, .agg #[.slice none 0 0, .slice none 0 0], .slice none 0 0, .slice none 0 0, .int .i64 0, .int .i64 0] 8 rfl (by kernel_rfl) (by kernel_rfl) (by kernel_rfl) (by kernel_rfl) (by kernel_rfl) (laid_met os _)) ?_
  intro W base args ds gs before hval0 hW hcnd _ hL _
  have hgl : Vl.GlobAt Tryz.prog W (· < W.heap.size) := glob hL
  have hval : ∀ (j : Nat) t v, Tryz.f3.params[j]? = some t → args[j]? = some v → Value.okWide Tryz.prog W .any base t v := hval0
  have hW' := hW
  obtain ⟨p, q, hA0, hV, rfl, hfz, hnd⟩ := hW
  have hA : DataW.TrodAll enc Tryz.prog W 0 (fun _ => true) true Tryz.f3.params.toList args.toList ds p := hA0
  rw [Tryz.params3] at hA hval
  obtain ⟨v0, vs0, d0, ds0, p0, q0, hargs, rfl, rfl, h0, r0⟩ := trodAll_cons hA
  obtain ⟨v1, vs1, d1, ds1, p1, q1, rfl, rfl, rfl, h1, r1⟩ := trodAll_cons r0
  obtain ⟨v2, vs2, d2, ds2, p2, q2, rfl, rfl, rfl, h2, r2⟩ := trodAll_cons r1
  obtain ⟨v3, vs3, d3, ds3, p3, q3, rfl, rfl, rfl, h3, r3⟩ := trodAll_cons r2
  obtain ⟨v4, vs4, d4, ds4, p4, q4, rfl, rfl, rfl, h4, r4⟩ := trodAll_cons r3
  obtain ⟨v5, vs5, d5, ds5, p5, q5, rfl, rfl, rfl, h5, r5⟩ := trodAll_cons r4
  obtain ⟨rfl, rfl, rfl⟩ := trodAll_nil r5
  obtain rfl : args = #[v0, v1, v2, v3, v4, v5] := by cases args; simp_all
  obtain ⟨rfl, rfl⟩ := trodVars_none hV
  obtain ⟨z0, s0, A0, B0⟩ := Vl.in_any (P := Tryz.prog) (pl := Vl.ioPl [] []) 2 (by simp [Vl.plainB, Vl.plainB.go, Tryz.underlying3, Tryz.underlying22, show Tryz.prog.cellsOf 3 = 1 from by kernel_rfl, show Tryz.prog.cellsOf 22 = 1 from by kernel_rfl]) (hval 0 22 v0 rfl rfl) h0
  obtain ⟨a0, rfl⟩ := Vl.shp_slice Tryz.underlying22 (f := (Vl.iRow .i64)) (fun _ _ h => Vl.shp_int Tryz.underlying3 h) s0
  obtain ⟨x0, e0, R0⟩ := B0 (fun fs h => by rw [Tryz.underlying22] at h; cases h)
  simp only [Vl.iRow, Vl.bRow, Vl.sRow, Vl.slRow, List.cons.injEq, and_true] at e0; subst e0
  obtain ⟨z1, s1, A1, B1⟩ := Vl.in_any (P := Tryz.prog) (pl := Vl.ioPl [] []) 4 (by simp [Vl.plainB, Vl.plainB.go, Tryz.underlying3, Tryz.underlying22, Tryz.underlying23, Tryz.underlying25, Tryz.underlying64, show Tryz.prog.cellsOf 3 = 1 from by kernel_rfl, show Tryz.prog.cellsOf 22 = 1 from by kernel_rfl, show Tryz.prog.cellsOf 23 = 1 from by kernel_rfl, show Tryz.prog.cellsOf 25 = 2 from by kernel_rfl, show Tryz.prog.cellsOf 64 = 4 from by kernel_rfl]) (hval 1 25 v1 rfl rfl) h1
  obtain ⟨a1, rfl⟩ := Vl.shp_25 s1
  have R1 := A1 ⟨_, Tryz.underlying25⟩
  obtain ⟨z2, s2, A2, B2⟩ := Vl.in_any (P := Tryz.prog) (pl := Vl.ioPl [] []) 3 (by simp [Vl.plainB, Vl.plainB.go, Tryz.underlying3, Tryz.underlying26, Tryz.underlying66, show Tryz.prog.cellsOf 3 = 1 from by kernel_rfl, show Tryz.prog.cellsOf 26 = 1 from by kernel_rfl, show Tryz.prog.cellsOf 66 = 3 from by kernel_rfl]) (hval 2 26 v2 rfl rfl) h2
  obtain ⟨a2, rfl⟩ := Vl.shp_slice Tryz.underlying26 (f := Vl.api_Steward_row) (fun _ _ h => Vl.shp_66 h) s2
  obtain ⟨x2, e2, R2⟩ := B2 (fun fs h => by rw [Tryz.underlying26] at h; cases h)
  simp only [Vl.iRow, Vl.bRow, Vl.sRow, Vl.slRow, List.cons.injEq, and_true] at e2; subst e2
  obtain ⟨z3, s3, A3, B3⟩ := Vl.in_any (P := Tryz.prog) (pl := Vl.ioPl [] []) 3 (by simp [Vl.plainB, Vl.plainB.go, Tryz.underlying3, Tryz.underlying27, Tryz.underlying40, show Tryz.prog.cellsOf 3 = 1 from by kernel_rfl, show Tryz.prog.cellsOf 27 = 1 from by kernel_rfl, show Tryz.prog.cellsOf 40 = 5 from by kernel_rfl]) (hval 3 27 v3 rfl rfl) h3
  obtain ⟨a3, rfl⟩ := Vl.shp_slice Tryz.underlying27 (f := Vl.api_Case_row) (fun _ _ h => Vl.shp_40 h) s3
  obtain ⟨x3, e3, R3⟩ := B3 (fun fs h => by rw [Tryz.underlying27] at h; cases h)
  simp only [Vl.iRow, Vl.bRow, Vl.sRow, Vl.slRow, List.cons.injEq, and_true] at e3; subst e3
  obtain ⟨z4, s4, A4, B4⟩ := Vl.in_any (P := Tryz.prog) (pl := Vl.ioPl [] []) 1 (by simp [Vl.plainB, Vl.plainB.go, Tryz.underlying3, show Tryz.prog.cellsOf 3 = 1 from by kernel_rfl]) (hval 4 3 v4 rfl rfl) h4
  obtain ⟨a4, rfl⟩ := Vl.shp_int Tryz.underlying3 s4
  obtain ⟨x4, e4, R4⟩ := B4 (fun fs h => by rw [Tryz.underlying3] at h; cases h)
  simp only [Vl.iRow, Vl.bRow, Vl.sRow, Vl.slRow, List.cons.injEq, and_true] at e4; subst e4
  obtain ⟨z5, s5, A5, B5⟩ := Vl.in_any (P := Tryz.prog) (pl := Vl.ioPl [] []) 1 (by simp [Vl.plainB, Vl.plainB.go, Tryz.underlying3, show Tryz.prog.cellsOf 3 = 1 from by kernel_rfl]) (hval 5 3 v5 rfl rfl) h5
  obtain ⟨a5, rfl⟩ := Vl.shp_int Tryz.underlying3 s5
  obtain ⟨x5, e5, R5⟩ := B5 (fun fs h => by rw [Tryz.underlying3] at h; cases h)
  simp only [Vl.iRow, Vl.bRow, Vl.sRow, Vl.slRow, List.cons.injEq, and_true] at e5; subst e5
  refine ((Vl.law41_NoticeExact_ok (Vl.noticeExact_plain a0 a1 a2 a3 a4 a5)).run W #[v0, v1, v2, v3, v4, v5] rfl (fun i x v hx hv => ?_) hgl).mono fun e W' ⟨v, he, hr, hb⟩ => ?_
  · match i, hx, hv with
    | 0, hx, hv => simp at hx hv; subst hx hv; exact R0
    | 1, hx, hv => simp at hx hv; subst hx hv; exact by simpa using R1
    | 2, hx, hv => simp at hx hv; subst hx hv; exact R2
    | 3, hx, hv => simp at hx hv; subst hx hv; exact R3
    | 4, hx, hv => simp at hx hv; subst hx hv; exact R4
    | 5, hx, hv => simp at hx hv; subst hx hv; exact R5
  · obtain rfl := hr.bool_inv
    exact ⟨_, he, Vl.post_true laidOut (by kernel_rfl) rfl Tryz.underlying4 rfl hW' rfl rfl rfl hb⟩

theorem closed : joinedFacts Tryz.pinned.checked.prog 3 Tryz.f3 Rows.noticeExactSpec Rows.noticeExactRow = true := by kernel_rfl
theorem inst : Tryz.f3.isInstance Tryz.pinned.checked.prog Rows.noticeExactRow.origin Rows.noticeExactRow.targs := of_decide_eq_true (by kernel_rfl)
theorem wraps : Tryz.f3.isWrapper Tryz.pinned.checked.prog Rows.noticeExactRow.wrapper Rows.noticeExactRow.mainSum := by
  unfold Func.isWrapper; first | (rw [if_pos (by decide +kernel)]; kernel_rfl) | (rw [if_neg (by decide +kernel)]; exact ⟨rfl, rfl⟩)
theorem named : Tryz.pinned.checked.prog.funcNamed Rows.noticeExactRow.func = some 3 := by kernel_rfl
theorem over : Rows.noticeExactRow.holds Tryz.pinned (OpenSpec.ofChange Rows.noticeExactSpec) :=
  OpenClaim.holds_of_wide 3 Tryz.f3 rfl rfl rfl rfl rfl rfl rfl ⟨rfl, rfl, rfl, rfl, rfl⟩ rfl rfl rfl rfl rfl named Tryz.func3 closed inst wraps
    (fun os started H enc _ => lifted os started H enc)

theorem wants : ∀ (j : Nat) (t : TypeId), Tryz.f3.params[j]? = some t → Tryz.pinned.checked.prog.wantsStandIn t = false := fun j t ht => by
  have h : (Tryz.f3.params.all fun t => !Tryz.pinned.checked.prog.wantsStandIn t) = true := by kernel_rfl
  have := (Array.all_eq_true.1 h) j (Array.getElem?_eq_some_iff.1 ht).1
  rw [(Array.getElem?_eq_some_iff.1 ht).2] at this
  simpa using this
theorem proved : Rows.NoticeExactCardSaid :=
  Claim7.holds_tied_plain_at .later [] [.data] true Rows.noticeExactCard.stood.harness Rows.noticeExactCard.stood.looks over (fun _ h => by cases h) (by kernel_rfl) (fun _ h => by cases h) noticeExact_row_tie rfl ⟨rfl, rfl⟩ (by kernel_rfl) rfl
    (fun f fn hf hfn => by
      obtain rfl : f = 3 := (Option.some.inj (named.symm.trans hf)).symm
      obtain rfl : fn = Tryz.f3 := (Option.some.inj (Tryz.func3.symm.trans hfn)).symm
      exact ⟨by kernel_rfl, wants⟩)
    (by kernel_rfl)
#print axioms proved
end Go.Proofs.YtciimncnodejaaaGreatDoor.noticeExact
