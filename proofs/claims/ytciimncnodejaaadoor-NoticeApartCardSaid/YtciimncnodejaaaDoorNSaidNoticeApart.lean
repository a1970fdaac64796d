/- The call leakresponselaw41.NoticeApart returns true for all arguments, and these read afterwards as they did. Conditions: none. -/
import Derived.Test.YtciimncnodejaaaDoorTie
import Derived.Test.YtciimncnodejaaaDoorCards
import Derived.Lib.LaidTab
import Derived.Handed
import Derived.ProofKit
import Derived.Test.YtciimncnodejaaaDoorRows
import Derived.Test.YtciimncnodejaaaDoorNw_NoticeApart
import Derived.Test.YtciimncnodejaaaDoorNpU
import Derived.Test.YtciimncnodejaaaDoorVmW
import Derived.Test.YtciimncnodejaaaDoorVmZh
set_option linter.unusedSimpArgs false
set_option linter.unusedVariables false
namespace Go.Vl
open Go Go.Proofs
end Go.Vl
namespace Go.Proofs.YtciimncnodejaaaDoor.noticeApart
open Go.ChangeShapes Go.WideShapes Go.ChangeAt Go.RowKit
set_option linter.unusedVariables false

theorem own : ownKnob Tryd.prog.godebug = none := by kernel_rfl
theorem laidOut : laidOutB Tryd.prog = true := by kernel_rfl

theorem gName : Tryd.prog.globalNamed "leakresponse/notice.deadlines" = some 0 := by kernel_rfl
theorem gType : (Tryd.prog.globals[0]?).map (·.type) = some 77 := by kernel_rfl
theorem gOf : Vl.globOf Tryd.prog 0 = [40, 16, 4, 1] := by kernel_rfl
/-- The settled world, but the listed variable holds what the program's text lays. -/
noncomputable def tabWorld (os : Os) : World :=
  let w0 := World.holding Tryd.prog os ⟨#[], #[], []⟩
  { w0 with heap := w0.heap.modify 0 fun
      | .cells _ t frozen => .cells #[.int .i64 40, .int .i64 16, .int .i64 4, .int .i64 1] t frozen
      | o => o }
theorem laid_met (os : Os) (args : Array Value) : laidMet Tryd.prog Rows.noticeApartRow.laid ((tabWorld os).forCall (fun _ _ => 0) ⟨#[], args, []⟩).memory :=
  laidMet_of_run (ps := [.cell 0 0, .cell 0 1, .cell 0 2, .cell 0 3]) 8 (by kernel_rfl) (by kernel_rfl) (by kernel_rfl)
theorem glob {W : World} (h : laidMet Tryd.prog Rows.noticeApartRow.laid W) : Vl.GlobAt Tryd.prog W (· < W.heap.size) := by
  have hT : Lib.TabIs Tryd.prog W "leakresponse/notice.deadlines" .i64 [40, 16, 4, 1] := Lib.tabIs_of_head gName gType Tryd.underlying77 Tryd.underlying3 (by kernel_rfl) (by kernel_rfl) h
  refine Vl.globAt_one (g := 0) (by kernel_rfl) gOf fun i x hx => ?_
  have hi : i < [40, 16, 4, 1].length := (List.getElem?_eq_some_iff.1 hx).1
  rw [hT.cell gName i hi]
  simp only [List.getD, hx, Option.getD_some]
set_option maxRecDepth 100000 in
theorem lifted (os : Os) (started : os.Started) (H : Type) (enc : TypeId × Value → H) :
    ReturnsInHanded {} Tryd.checked os 6 .any (fun w args => (Rows.noticeApartSpec.pre enc Tryd.prog Tryd.f6 Rows.noticeApartRow.domain false w args ∧ laidMet Tryd.prog Rows.noticeApartRow.laid w) ∧ sizedMet enc Tryd.prog Tryd.f6 (OpenSpec.ofChange Rows.noticeApartSpec) false w args) (Rows.noticeApartSpec.post enc Tryd.prog Tryd.f6 false true false false) := by
  refine returnsInHanded_of_change_and (C := Tryd.checked) (X := fun w _ => laidMet Tryd.prog Rows.noticeApartRow.laid w) (fun _ _ _ hh h => h.of_heap hh) own started (by kernel_rfl) Tryd.func6
    (ChangeSpec.witness_at (enc := enc) (C := Tryd.checked) (os := os) (X := fun w _ => laidMet Tryd.prog Rows.noticeApartRow.laid w) false (tabWorld os) #[.slice none 0 0] 8 rfl (by kernel_rfl) (by kernel_rfl) (by kernel_rfl) (by kernel_rfl) (by kernel_rfl) (laid_met os _)) ?_
  intro W base args ds gs before hval0 hW hcnd _ hL _
  have hgl : Vl.GlobAt Tryd.prog W (· < W.heap.size) := glob hL
  have hval : ∀ (j : Nat) t v, Tryd.f6.params[j]? = some t → args[j]? = some v → Value.okWide Tryd.prog W .any base t v := hval0
  have hW' := hW
  obtain ⟨p, q, hA0, hV, rfl, hfz, hnd⟩ := hW
  have hA : DataW.TrodAll enc Tryd.prog W 0 (fun _ => true) true Tryd.f6.params.toList args.toList ds p := hA0
  rw [Tryd.params6] at hA hval
  obtain ⟨v0, vs0, d0, ds0, p0, q0, hargs, rfl, rfl, h0, r0⟩ := trodAll_cons hA
  obtain ⟨rfl, rfl, rfl⟩ := trodAll_nil r0
  obtain rfl : args = #[v0] := by cases args; simp_all
  obtain ⟨rfl, rfl⟩ := trodVars_none hV
  obtain ⟨z0, s0, A0, B0⟩ := Vl.in_any (P := Tryd.prog) (pl := Vl.ioPl [] []) 2 (by simp [Vl.plainB, Vl.plainB.go, Tryd.underlying3, Tryd.underlying22, show Tryd.prog.cellsOf 3 = 1 from by kernel_rfl, show Tryd.prog.cellsOf 22 = 1 from by kernel_rfl]) (hval 0 22 v0 rfl rfl) h0
  obtain ⟨a0, rfl⟩ := Vl.shp_slice Tryd.underlying22 (f := (Vl.iRow .i64)) (fun _ _ h => Vl.shp_int Tryd.underlying3 h) s0
  obtain ⟨x0, e0, R0⟩ := B0 (fun fs h => by rw [Tryd.underlying22] at h; cases h)
  simp only [Vl.iRow, Vl.bRow, Vl.sRow, Vl.slRow, List.cons.injEq, and_true] at e0; subst e0
  refine ((Vl.law41_NoticeApart_ok (Vl.noticeApart_plain a0)).run W #[v0] rfl (fun i x v hx hv => ?_) hgl).mono fun e W' ⟨v, he, hr, hb⟩ => ?_
  · match i, hx, hv with
    | 0, hx, hv => simp at hx hv; subst hx hv; exact R0
  · obtain rfl := hr.bool_inv
    exact ⟨_, he, Vl.post_true laidOut (by kernel_rfl) rfl Tryd.underlying4 rfl hW' rfl rfl rfl hb⟩

theorem closed : joinedFacts Tryd.pinned.checked.prog 6 Tryd.f6 Rows.noticeApartSpec Rows.noticeApartRow = true := by kernel_rfl
theorem inst : Tryd.f6.isInstance Tryd.pinned.checked.prog Rows.noticeApartRow.origin Rows.noticeApartRow.targs := of_decide_eq_true (by kernel_rfl)
theorem wraps : Tryd.f6.isWrapper Tryd.pinned.checked.prog Rows.noticeApartRow.wrapper Rows.noticeApartRow.mainSum := by
  unfold Func.isWrapper; first | (rw [if_pos (by decide +kernel)]; kernel_rfl) | (rw [if_neg (by decide +kernel)]; exact ⟨rfl, rfl⟩)
theorem named : Tryd.pinned.checked.prog.funcNamed Rows.noticeApartRow.func = some 6 := by kernel_rfl
theorem over : Rows.noticeApartRow.holds Tryd.pinned (OpenSpec.ofChange Rows.noticeApartSpec) :=
  OpenClaim.holds_of_wide 6 Tryd.f6 rfl rfl rfl rfl rfl rfl rfl ⟨rfl, rfl, rfl, rfl, rfl⟩ rfl rfl rfl rfl rfl named Tryd.func6 closed inst wraps
    (fun os started H enc _ => lifted os started H enc)

theorem wants : ∀ (j : Nat) (t : TypeId), Tryd.f6.params[j]? = some t → Tryd.pinned.checked.prog.wantsStandIn t = false := fun j t ht => by
  have h : (Tryd.f6.params.all fun t => !Tryd.pinned.checked.prog.wantsStandIn t) = true := by kernel_rfl
  have := (Array.all_eq_true.1 h) j (Array.getElem?_eq_some_iff.1 ht).1
  rw [(Array.getElem?_eq_some_iff.1 ht).2] at this
  simpa using this
theorem proved : Rows.NoticeApartCardSaid :=
  Claim7.holds_tied_plain_at .later [] [.data] true Rows.noticeApartCard.stood.harness Rows.noticeApartCard.stood.looks over (fun _ h => by cases h) (by kernel_rfl) (fun _ h => by cases h) noticeApart_row_tie rfl ⟨rfl, rfl⟩ (by kernel_rfl) rfl
    (fun f fn hf hfn => by
      obtain rfl : f = 6 := (Option.some.inj (named.symm.trans hf)).symm
      obtain rfl : fn = Tryd.f6 := (Option.some.inj (Tryd.func6.symm.trans hfn)).symm
      exact ⟨by kernel_rfl, wants⟩)
    (by kernel_rfl)
#print axioms proved
end Go.Proofs.YtciimncnodejaaaDoor.noticeApart
