/- Plain laws of steps: both texts agree on all fleets, states and steps. Conditions: none. -/
import Derived.Test.YtclmnpkhopioiabSxW
set_option linter.unusedSimpArgs false
set_option linter.unusedVariables false
namespace Go.Vl
open Go

theorem rrun_l0 (l : List api_Step) (f : api_Fleet) : ref33_Run_l0 l f = steps_Run_l0 l f := by
  funext s
  unfold ref33_Run_l0 steps_Run_l0
  simp only [apply_sp, rapply_sp]
theorem rrun_eq (f : api_Fleet) (s : api_Rotation) (l : List api_Step) : ref33_Run f s l = steps_Run f s l := by
  unfold ref33_Run steps_Run steps_check
  rw [right_sp, rright_sp, rrun_l0]
  by_cases hr : RightOk f s
  · simp only [hr, decide_true, Option.bind_some]
    by_cases h : 120 < (l.length : Int) <;> simp [h]
  · simp [hr]
theorem rfault_l0 (l : List api_Step) (f : api_Fleet) : ref33_Fault_l0 l f = steps_Fault_l0 l f := by
  funext s
  unfold ref33_Fault_l0 steps_Fault_l0
  simp only [apply_sp, rapply_sp, holds_sp, rsafe0_sp]
theorem rfault_eq (f : api_Fleet) (s : api_Rotation) (l : List api_Step) : ref33_Fault f s l = steps_Fault f s l := by
  unfold ref33_Fault steps_Fault steps_check
  rw [right_sp, rright_sp, rfault_l0]
  by_cases hr : RightOk f s
  · simp only [hr, decide_true, Option.bind_some]
    by_cases h : 120 < (l.length : Int) <;> simp [h]
  · simp [hr]
theorem fault_any (f : api_Fleet) (s : api_Rotation) {l : List api_Step} (hl : l.length ≤ 120) : ∃ r, steps_Fault f s l = some r := by
  by_cases hr : RightOk f s
  · exact ⟨_, fault_sp hr hl⟩
  · refine ⟨(0, 36), ?_⟩
    unfold steps_Fault steps_check
    rw [right_sp]; simp [hr]
theorem safe_not {f : api_Fleet} {s : api_Rotation} (h : ¬ RightOk f s) (x : api_Step) : safeP f s x = false := by
  unfold safeP applyP
  rw [if_pos h]; simp
theorem choicesC_nil {sf : api_Step → Bool} {n : Nat} (h : ∀ x, sf x = false) : choicesC sf n = [] := by
  cases hc : choicesC sf n with
  | nil => rfl
  | cons x l =>
    have := (mem_choicesC (sf := sf) (n := n) (x := x)).1 (by rw [hc]; exact List.mem_cons_self ..)
    rw [h x] at this; simp at this
theorem choices_same (f : api_Fleet) (s : api_Rotation) : choicesC (safeP f s) f.Consumers.length = choicesC (safeP f s) s.Units.length := by
  by_cases hr : RightOk f s
  · rw [hr.2.2.2.1]
  · rw [choicesC_nil (safe_not hr), choicesC_nil (safe_not hr)]
theorem choices_len (f : api_Fleet) (s : api_Rotation) : (choicesC (safeP f s) s.Units.length).length ≤ 64 := by
  by_cases hr : RightOk f s
  · exact choicesC_len hr.len.2
  · rw [choicesC_nil (safe_not hr)]; simp
theorem apply_len (f : api_Fleet) (s : api_Rotation) (x : api_Step) : (applyP f s x).1.Units.length ≤ 1000000 := by
  by_cases h0 : (applyP f s x).2 = 0
  · have hr : RightOk f s := by
      apply Decidable.byContradiction
      intro hr
      unfold applyP at h0
      rw [if_pos hr] at h0; simp at h0
    have := (apply_right hr h0).1.len
    omega
  · unfold applyP at h0 ⊢
    split
    · simp [zeroR]
    · rename_i h1; rw [if_neg h1] at h0
      split
      · simp [zeroR]
      · rename_i h2; rw [if_neg h2] at h0
        split
        · simp [zeroR]
        · rename_i h3; rw [if_neg h3] at h0; simp at h0
theorem make_SafeSteps_any {m : make_Tape} (h : TOk m) {f : api_Fleet} {s : api_Rotation} (hc : f.Consumers.length ≤ 100) {n : Int} (hn : n ≤ 100) : ∃ l m', make_SafeSteps m f s n = some (l, m') ∧ (l.length : Int) ≤ max n 0 ∧ TOk m' := by
  by_cases hr : RightOk f s
  · obtain ⟨l, m', h1, h2, _, h3⟩ := make_SafeSteps_ex h hr (n := n) (by omega)
    exact ⟨l, m', h1, h2, h3⟩
  · have : iter (make_SafeSteps_l0 n f) (0, m.L, m.at_, s.Known, s.Valid, s.Units, []) = some (if 0 < n then .inr ([], m) else .inl (m.L, m.at_, [])) := by
      refine iter_out ?_
      unfold make_SafeSteps_l0
      simp only
      by_cases h0 : 0 < n
      · rw [if_pos (by simpa using h0), rchoices_sp hc, if_pos h0]
        simp only [Option.bind_some]
        rw [show (⟨s.Known, s.Valid, s.Units⟩ : api_Rotation) = s from rfl, choicesC_nil (safe_not hr), if_pos (by simp)]
      · rw [if_neg (by simpa using h0), if_neg h0]
    unfold make_SafeSteps
    rw [this]
    by_cases h0 : 0 < n
    · rw [if_pos h0]; exact ⟨[], m, rfl, by simp; omega, h⟩
    · rw [if_neg h0]; exact ⟨[], m, rfl, by simp; omega, h⟩

end Go.Vl
