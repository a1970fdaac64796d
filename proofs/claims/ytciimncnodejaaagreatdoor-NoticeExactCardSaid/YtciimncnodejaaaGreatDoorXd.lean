/- The deadlines of the given program: an array that nobody writes. Conditions: none. -/
import Derived.Test.YtciimncnodejaaaGreatDoorTyX
import Derived.Test.YtciimncnodejaaaGreatDoorVmLz
import Derived.Test.YtciimncnodejaaaGreatDoorVmZg
set_option linter.unusedSimpArgs false
set_option linter.unusedVariables false
namespace Go.Vl
open Go Go.Proofs
noncomputable def notice_Deadline (a0 : Int) : Option Int := some (if a0 < 1 then 0 else if 4 < a0 then 0 else ([40, 16, 4, 1] : List Int).getD (a0 - 1).toNat 0)
theorem globN : globOf Tryz.prog 0 = [40, 16, 4, 1] := by kernel_rfl
set_option maxHeartbeats 1000000 in
theorem notice_Deadline_ok {a0 r : Int} (h0 : notice_Deadline a0 = some r) : FnOK Tryz.prog 11 [] [.d (.int .i64 a0)] (.d (.int .i64 r)) [] := by
  unfold notice_Deadline at h0
  refine fn_ok (nt := 13) (rs := [.tmp 2]) Tryz.func11 rfl Tryz.ntmps11 rfl (by simp) (by decide) rfl fun K => ?_
  refine kr [0, 2] (by simp; rfl) ?_
  by_cases h1 : a0 < 1
  · rw [if_pos h1] at h0
    refine tr_seq ?_
    refine kc ?_
    refine ko [0, 2, 8] 6 (by simp [h1]; rfl) ?_
    refine tops_nil ?_
    refine tr_cond (b := true) (by simp) (fun _ => ?_) (fun h => by cases h)
    refine kr [2] (by simp; rfl) ?_
    cases h0
    exact tr_ret ⟨[], by simp, rfl, by simp⟩
  · rw [if_neg h1] at h0
    by_cases h2 : 4 < a0
    · rw [if_pos h2] at h0
      refine tr_seq ?_
      refine kc ?_
      refine ko [0, 2, 8] 6 (by simp [h1, h2]; rfl) ?_
      refine tops_nil ?_
      refine tr_cond (b := true) (by simp) (fun _ => ?_) (fun h => by cases h)
      refine kr [2] (by simp; rfl) ?_
      cases h0
      exact tr_ret ⟨[], by simp, rfl, by simp⟩
    · rw [if_neg h2] at h0
      refine tr_seq ?_
      refine kc ?_
      refine ko [0, 2, 8] 6 (by simp [h1, h2]; rfl) ?_
      refine tops_nil ?_
      refine tr_cond (b := false) (by simp) (fun h => by cases h) (fun _ => ?_)
      refine tr_skip ?_
      refine kc ?_
      have ew : IntKind.i64.wrap (a0 - 1) = a0 - 1 := wrapI (by omega) (by omega)
      refine ko [0, 2, 10] 2 (by simp [ew]; rfl) ?_
      obtain rfl | rfl | rfl | rfl : a0 = 1 ∨ a0 = 2 ∨ a0 = 3 ∨ a0 = 4 := by omega
      all_goals
        refine tops_glob (g := 0) (d := 11) (k := .i64) (by simp) rfl rfl (by simp) (by rw [globN]; decide) (by simp; rfl) (by rw [globN]; simp [indexPA, offA]; rfl) ?_
        refine ko [2] 2 (by simp; rfl) ?_
        refine tops_nil ?_
        cases h0
        exact tr_ret ⟨[], by simp, rfl, by simp⟩
end Go.Vl
