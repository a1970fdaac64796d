/- Plain laws of steps: both texts agree on all fleets, states and steps. Conditions: none. -/
import Derived.Test.YtclmnpkhopioiaaRxW
set_option linter.unusedSimpArgs false
set_option linter.unusedVariables false
namespace Go.Vl
open Go

theorem rrun_l0 (l : List api_Step) (f : api_Fleet) : ref33_Run_l0 l f = steps_Run_l0 l f := by
  funext s
  unfold ref33_Run_l0 steps_Run_l0
  simp only [apply_sp, rapply_sp]
theorem rrun_eq (f : api_Fleet) (s : api_Rotation) (l : List api_Step) : ref33_Run f s l = steps_Run f s l := by
  unfold ref33_Run steps_Run steps_check
  rw [right_sp, rright_sp, rrun_l0]
  by_cases hr : RightOk f s
  · simp only [hr, decide_true, Option.bind_some]
    by_cases h : 120 < (l.length : Int) <;> simp [h]
  · simp [hr]
theorem rfault_l0 (l : List api_Step) (f : api_Fleet) : ref33_Fault_l0 l f = steps_Fault_l0 l f := by
  funext s
  unfold ref33_Fault_l0 steps_Fault_l0
  simp only [apply_sp, rapply_sp, holds_sp, rsafe0_sp]
theorem rfault_eq (f : api_Fleet) (s : api_Rotation) (l : List api_Step) : ref33_Fault f s l = steps_Fault f s l := by
  unfold ref33_Fault steps_Fault steps_check
  rw [right_sp, rright_sp, rfault_l0]
  by_cases hr : RightOk f s
  · simp only [hr, decide_true, Option.bind_some]
    by_cases h : 120 < (l.length : Int) <;> simp [h]
  · simp [hr]
theorem run_any (f : api_Fleet) (s : api_Rotation) {l : List api_Step} (hl : l.length ≤ 120) : ∃ r, steps_Run f s l = some r ∧ ref32_All r.1 r.1 = some true := by
  by_cases hr : RightOk f s
  · refine ⟨_, run_sp hr hl, ?_⟩
    by_cases h0 : (runP f s l).2 = 0
    · obtain ⟨q1, q2⟩ := runP_right l s hr h0
      exact all_self (fun r hm => by have := (q2 r hm).len; omega) (by omega)
    · rw [runP_err l s h0]
      exact all_self (fun r h => by cases h) (by simp)
  · refine ⟨([], 36), ?_, all_self (fun r h => by cases h) (by simp)⟩
    unfold steps_Run steps_check
    rw [right_sp]; simp [hr]
theorem fault_any (f : api_Fleet) (s : api_Rotation) {l : List api_Step} (hl : l.length ≤ 120) : ∃ r, steps_Fault f s l = some r := by
  by_cases hr : RightOk f s
  · exact ⟨_, fault_sp hr hl⟩
  · refine ⟨(0, 36), ?_⟩
    unfold steps_Fault steps_check
    rw [right_sp]; simp [hr]
theorem safe_not {f : api_Fleet} {s : api_Rotation} (h : ¬ RightOk f s) (x : api_Step) : safeP f s x = false := by
  unfold safeP applyP
  rw [if_pos h]; simp
theorem choicesC_nil {sf : api_Step → Bool} {n : Nat} (h : ∀ x, sf x = false) : choicesC sf n = [] := by
  cases hc : choicesC sf n with
  | nil => rfl
  | cons x l =>
    have := (mem_choicesC (sf := sf) (n := n) (x := x)).1 (by rw [hc]; exact List.mem_cons_self ..)
    rw [h x] at this; simp at this
theorem choices_same (f : api_Fleet) (s : api_Rotation) : choicesC (safeP f s) f.Consumers.length = choicesC (safeP f s) s.Units.length := by
  by_cases hr : RightOk f s
  · rw [hr.2.2.2.1]
  · rw [choicesC_nil (safe_not hr), choicesC_nil (safe_not hr)]
theorem choices_len (f : api_Fleet) (s : api_Rotation) : (choicesC (safeP f s) s.Units.length).length ≤ 64 := by
  by_cases hr : RightOk f s
  · exact choicesC_len hr.len.2
  · rw [choicesC_nil (safe_not hr)]; simp
theorem same_steps {l : List api_Step} (hl : l.length ≤ 1000) : ref33_Same l l = some true := by
  unfold ref33_Same
  rw [if_neg (by simp), iter_all l.length (fun _ => true) (fun i hi => ?_) ?_]
  · simp
  · unfold ref33_Same_l0
    rw [if_neg (by simp)]
  · unfold ref33_Same_l0
    rw [if_pos (by simp; omega), idx_lt hi]
    simp only [Option.bind_some]
    rw [if_neg (by simp), w64 (by omega) (by omega)]; rfl
theorem apply_len (f : api_Fleet) (s : api_Rotation) (x : api_Step) : (applyP f s x).1.Units.length ≤ 1000000 := by
  by_cases h0 : (applyP f s x).2 = 0
  · have hr : RightOk f s := by
      apply Decidable.byContradiction
      intro hr
      unfold applyP at h0
      rw [if_pos hr] at h0; simp at h0
    have := (apply_right hr h0).1.len
    omega
  · unfold applyP at h0 ⊢
    split
    · simp [zeroR]
    · rename_i h1; rw [if_neg h1] at h0
      split
      · simp [zeroR]
      · rename_i h2; rw [if_neg h2] at h0
        split
        · simp [zeroR]
        · rename_i h3; rw [if_neg h3] at h0; simp at h0
theorem apply_same (f : api_Fleet) (s : api_Rotation) (x : api_Step) : ref32_Same (applyP f s x).1 (applyP f s x).1 = some true := by
  obtain ⟨r, h1, h2⟩ := same_sp (a := (applyP f s x).1) (b := (applyP f s x).1) (apply_len f s x)
  rw [h1, h2.2 rfl]
theorem make_SafeSteps_any {m : make_Tape} (h : TOk m) {f : api_Fleet} {s : api_Rotation} (hc : f.Consumers.length ≤ 100) {n : Int} (hn : n ≤ 100) : ∃ l m', make_SafeSteps m f s n = some (l, m') ∧ (l.length : Int) ≤ max n 0 ∧ TOk m' := by
  by_cases hr : RightOk f s
  · obtain ⟨l, m', h1, h2, _, h3⟩ := make_SafeSteps_ex h hr (n := n) (by omega)
    exact ⟨l, m', h1, h2, h3⟩
  · have : iter (make_SafeSteps_l0 n f) (0, m.L, m.at_, s.Known, s.Valid, s.Units, []) = some (if 0 < n then .inr ([], m) else .inl (m.L, m.at_, [])) := by
      refine iter_out ?_
      unfold make_SafeSteps_l0
      simp only
      by_cases h0 : 0 < n
      · rw [if_pos (by simpa using h0), rchoices_sp hc, if_pos h0]
        simp only [Option.bind_some]
        rw [show (⟨s.Known, s.Valid, s.Units⟩ : api_Rotation) = s from rfl, choicesC_nil (safe_not hr), if_pos (by simp)]
      · rw [if_neg (by simpa using h0), if_neg h0]
    unfold make_SafeSteps
    rw [this]
    by_cases h0 : 0 < n
    · rw [if_pos h0]; exact ⟨[], m, rfl, by simp; omega, h⟩
    · rw [if_neg h0]; exact ⟨[], m, rfl, by simp; omega, h⟩

theorem exact_l4 {l : List api_Step} (hl : l.length = 2) (f : api_Fleet) (s : api_Rotation) : iter (law33_StepsExact_l4 l f s) 0 = some (.inl ()) := by
  rw [iter_all 2 (fun _ => true) (fun i hi => ?_) ?_]
  · simp
  · unfold law33_StepsExact_l4
    rw [if_neg (by simp)]
  · unfold law33_StepsExact_l4
    rw [if_pos (by simp; omega), ck_t (by omega), Option.bind_some, idx_lt (by omega), w64 (by omega) (by omega)]
    unfold ref33_Possible
    simp only [Option.bind_some, apply_sp, rapply_sp, apply_same, possible_sp, safe_sp, rsafe_sp]
    simp
theorem exact_l3 {ls : List (List api_Step)} (hl : ls.length = 3) (h : ∀ l ∈ ls, l.length ≤ 100) (f : api_Fleet) (s : api_Rotation) : iter (law33_StepsExact_l3 ls f s) 0 = some (.inl ()) := by
  rw [iter_all 3 (fun _ => true) (fun i hi => ?_) ?_]
  · simp
  · unfold law33_StepsExact_l3
    rw [if_neg (by simp)]
  · unfold law33_StepsExact_l3
    have hi' : i < ls.length := by omega
    have h1 := h _ (List.getElem_mem hi')
    obtain ⟨r, e1, e2⟩ := run_any f s (l := ls[i]) (by omega)
    obtain ⟨q, e3⟩ := fault_any f s (l := ls[i]) (by omega)
    rw [if_pos (by simp; omega), ck_t (by omega), Option.bind_some, idx_lt hi', w64 (by omega) (by omega)]
    simp only [Option.bind_some, rrun_eq, rfault_eq, e1, e3, e2]
    simp
theorem exact_l2 (f : api_Fleet) (s : api_Rotation) {t : make_Tape} (ht : TOk t) : ∃ e, iter (law33_StepsExact_l2 f s) (0, t.L, t.at_) = some e ∧ ∃ v, e = .inl v ∧ TOk ⟨v.1, v.2⟩ := by
  refine iter_ex (body := law33_StepsExact_l2 f s) (fun q : Int × List Int × Int => 0 ≤ q.1 ∧ q.1 ≤ 10 ∧ TOk ⟨q.2.1, q.2.2⟩) (fun q => (10 - q.1).toNat) _ ?_ ⟨by simp, by simp, ht⟩
  rintro ⟨j, L, at_⟩ ⟨g1, g0, g2⟩
  simp only at g1 g0 g2 ⊢
  unfold law33_StepsExact_l2
  by_cases hj : j ≤ 9
  · left
    simp only
    obtain ⟨v, m2, e2, _, _, t2⟩ := between_ex g2 (a := -1) (b := 4) (by omega) (by omega) (by omega)
    rw [if_pos (by simpa using hj), e2]
    simp only [Option.bind_some]
    rw [exact_l4 rfl]
    simp only [Option.bind_some]
    rw [w64 (by omega) (by omega)]
    exact ⟨_, rfl, ⟨by simp only; omega, by simp only; omega, t2⟩, by simp; omega⟩
  · right
    simp only
    rw [if_neg (by simpa using hj)]
    exact ⟨_, rfl, _, rfl, g2⟩
theorem exact_l1 {l11 : List api_Rotation} (h2 : l11.length = 2) (hs : ∀ s ∈ l11, s.Units.length ≤ 10) {f : api_Fleet} (hf : f.Consumers.length ≤ 10) (x : api_Step) {y5 : (List api_Step) × make_Tape} (h5 : y5.1.length ≤ 50) {a4 : List api_Step} (h4 : a4.length ≤ 50) {t : make_Tape} (ht : TOk t) :
    ∃ e, iter (law33_StepsExact_l1 l11 f x y5 a4) (0, t.L, t.at_) = some e ∧ ∃ v, e = .inl v ∧ TOk ⟨v.1, v.2⟩ := by
  refine iter_ex (body := law33_StepsExact_l1 l11 f x y5 a4) (fun q : Int × List Int × Int => 0 ≤ q.1 ∧ q.1 ≤ 2 ∧ TOk ⟨q.2.1, q.2.2⟩) (fun q => (2 - q.1).toNat) _ ?_ ⟨by simp, by simp, ht⟩
  rintro ⟨j, L, at_⟩ ⟨g1, g0, g2⟩
  simp only at g1 g0 g2 ⊢
  unfold law33_StepsExact_l1
  by_cases hj : j < 2
  · left
    simp only
    rw [if_pos (by simpa using hj), ck_t hj, Option.bind_some, idx_toNat g1 (by omega)]
    simp only [Option.bind_some]
    have hlen := hs _ (List.getElem_mem (l := l11) (n := j.toNat) (by omega))
    obtain ⟨e, he, v, rfl, t2⟩ := exact_l2 f (l11[j.toNat]'(by omega)) g2
    have he' : iter (law33_StepsExact_l2 f (l11[j.toNat]'(by omega))) (0, L, at_) = some (Sum.inl v) := he
    rw [he']
    simp only [Option.bind_some, apply_sp, rapply_sp, apply_same]
    rw [choices_sp (by omega), rchoices_sp (by omega), choices_same]
    simp only [Option.bind_some]
    have := choices_len f (l11[j.toNat]'(by omega))
    rw [same_steps (by omega)]
    obtain ⟨l, m3, e3, l3, t3⟩ := make_SafeSteps_any t2 (f := f) (s := l11[j.toNat]'(by omega)) (by omega) (n := 4) (by omega)
    simp only [Option.bind_some]
    rw [if_neg (by simp), if_neg (by simp)]
    simp only [Option.bind_some]
    rw [if_neg (by simp), e3]
    simp only [Option.bind_some]
    rw [exact_l3 rfl (fun l hl => ?_)]
    · simp only [Option.bind_some]
      rw [w64 (by omega) (by omega)]
      exact ⟨_, rfl, ⟨by simp only; omega, by simp only; omega, t3⟩, by simp; omega⟩
    · simp only [List.mem_cons, List.not_mem_nil, or_false] at hl
      rcases hl with rfl | rfl | rfl <;> omega
  · right
    simp only
    rw [if_neg (by simpa using hj)]
    exact ⟨_, rfl, _, rfl, g2⟩
theorem exact_l0 {l6 : List api_Fleet} (h2 : l6.length = 2) (hf : ∀ f ∈ l6, f.Consumers.length ≤ 10) {y4 : api_Rotation × make_Tape} (hy : y4.1.Units.length ≤ 10) {a2 : api_Rotation} (ha : a2.Units.length ≤ 10) (x : api_Step) {y5 : (List api_Step) × make_Tape} (h5 : y5.1.length ≤ 50) {a4 : List api_Step} (h4 : a4.length ≤ 50) {t : make_Tape} (ht : TOk t) :
    ∃ e, iter (law33_StepsExact_l0 l6 y4 a2 x y5 a4) (0, t.L, t.at_) = some e ∧ e = .inl () := by
  refine iter_ex (body := law33_StepsExact_l0 l6 y4 a2 x y5 a4) (fun q : Int × List Int × Int => 0 ≤ q.1 ∧ q.1 ≤ 2 ∧ TOk ⟨q.2.1, q.2.2⟩) (fun q => (2 - q.1).toNat) _ ?_ ⟨by simp, by simp, ht⟩
  rintro ⟨j, L, at_⟩ ⟨g1, g0, g2⟩
  simp only at g1 g0 g2 ⊢
  unfold law33_StepsExact_l0
  by_cases hj : j < 2
  · left
    simp only
    rw [if_pos (by simpa using hj), ck_t hj, Option.bind_some, idx_toNat g1 (by omega)]
    simp only [Option.bind_some]
    have hlen := hf _ (List.getElem_mem (l := l6) (n := j.toNat) (by omega))
    obtain ⟨e, he, v, rfl, t2⟩ := exact_l1 (l11 := [y4.1, a2]) rfl (fun s hs => by simp only [List.mem_cons, List.not_mem_nil, or_false] at hs; rcases hs with rfl | rfl <;> assumption) hlen x h5 h4 g2
    have he' : iter (law33_StepsExact_l1 [y4.1, a2] (l6[j.toNat]'(by omega)) x y5 a4) (0, L, at_) = some (Sum.inl v) := he
    rw [he']
    simp only [Option.bind_some]
    rw [w64 (by omega) (by omega)]
    exact ⟨_, rfl, ⟨by simp only; omega, by simp only; omega, t2⟩, by simp; omega⟩
  · right
    simp only
    rw [if_neg (by simpa using hj)]
    exact ⟨_, rfl, rfl⟩
theorem StepsExact_law (a : List Int) (f0 : api_Fleet) (s0 : api_Rotation) (x : api_Step) (l0 : List api_Step) : law33_StepsExact a f0 s0 x l0 = some true := by
  unfold law33_StepsExact
  simp only [Option.bind_some]
  by_cases h : 300 < (a.length : Int) ∨ 10 < (f0.Consumers.length : Int) ∨ 10 < (s0.Units.length : Int) ∨ 30 < (l0.length : Int)
  · rw [if_pos (by simpa using h), awake33]; rfl
  rw [if_neg (by simpa using h)]
  obtain ⟨f, m1, e1, hf, _, _, t1⟩ := make_Fleet_ex (tape0 (a := a) (by omega)) (most := 4) (by omega) (by omega)
  rw [e1]
  simp only [Option.bind_some]
  obtain ⟨s, m2, e2, hs, t2⟩ := make_State_ex t1 hf
  rw [e2]
  simp only [Option.bind_some]
  obtain ⟨l, m4, e4, hll, hlk, t4⟩ := make_Steps_ex t2 hf hs (n := 10) (by omega)
  rw [e4]
  simp only [Option.bind_some]
  have l8 := hs.len
  have c8 := hf.2.2.1
  obtain ⟨e, he, rfl⟩ := exact_l0 (l6 := [f, f0]) rfl (fun g hg => by simp only [List.mem_cons, List.not_mem_nil, or_false] at hg; rcases hg with rfl | rfl <;> omega) (y4 := (s, m2)) (by simp only; omega) (a2 := s0) (by omega) x (y5 := (l, m4)) (by simp only; omega) (a4 := l0) (by omega) t4
  rw [he]
  simp only [Option.bind_some, awake33]
end Go.Vl
