/- Plain laws of runs: what a run of steps under outcomes tries and passes. Conditions: none. -/
import Derived.Test.YtclmnpkhopioiaaRxX
set_option linter.unusedSimpArgs false
set_option linter.unusedVariables false
namespace Go.Vl
open Go

def thereP (o : Int) : Bool := o != 1 && o != 4
def nextO (os : List Int) (t : List api_Attempt) : Int := os.getD t.length 0
def tryP (x : api_Step) (s n : api_Rotation) (os : List Int) : Nat → List api_Attempt → List api_Rotation → Bool × List api_Attempt × List api_Rotation
  | 0, t, st => (false, t, st)
  | k + 1, t, st => if thereP (nextO os t) = true then (true, t ++ [⟨x, nextO os t, thereP (nextO os t)⟩], (if nextO os t = 4 then st ++ [n] else st) ++ [n])
      else tryP x s n os k (t ++ [⟨x, nextO os t, thereP (nextO os t)⟩]) ((if nextO os t = 4 then st ++ [n] else st) ++ [s])
theorem tryP_eq {x : api_Step} {s n : api_Rotation} {os : List Int} {k : Nat} {t : List api_Attempt} {st : List api_Rotation} : tryP x s n os (k + 1) t st = if thereP (nextO os t) = true then (true, t ++ [⟨x, nextO os t, thereP (nextO os t)⟩], (if nextO os t = 4 then st ++ [n] else st) ++ [n])
      else tryP x s n os k (t ++ [⟨x, nextO os t, thereP (nextO os t)⟩]) ((if nextO os t = 4 then st ++ [n] else st) ++ [s]) := rfl
theorem tryP_len (x : api_Step) (s n : api_Rotation) (os : List Int) : ∀ (k : Nat) (t : List api_Attempt) (st : List api_Rotation), (tryP x s n os k t st).2.1.length ≤ t.length + k ∧ (tryP x s n os k t st).2.2.length ≤ st.length + 2 * k := fun k => by
  induction k with
  | zero => intro t st; exact ⟨Nat.le_refl _, Nat.le_refl _⟩
  | succ k ih =>
    intro t st
    rw [tryP_eq]
    have hst : (if nextO os t = 4 then st ++ [n] else st).length ≤ st.length + 1 := by split <;> simp
    split
    · simp only [List.length_append, List.length_singleton]; omega
    · have := ih (t ++ [⟨x, nextO os t, thereP (nextO os t)⟩]) ((if nextO os t = 4 then st ++ [n] else st) ++ [s])
      simp only [List.length_append, List.length_singleton] at this ⊢
      omega
theorem fcopy_sp {s : api_Rotation} (h8 : s.Units.length ≤ 1000) : fleet_Copy s = some s := by
  unfold fleet_Copy slices_Clone_api_Unit
  rw [ck_t (by omega)]; rfl
theorem look_sp {r : runner_runner} {s : api_Rotation} (h8 : s.Units.length ≤ 1000) (hs : r.states.length ≤ 100000) : runner_runner_look_o0_6_7 r s = some ⟨r.fleet, r.state, r.outcomes, r.tried, r.states ++ [s]⟩ := by
  unfold runner_runner_look_o0_6_7
  rw [fcopy_sp h8]
  simp only [Option.bind_some]
  rw [ck_t (by simp; omega)]; rfl
theorem next_sp (r : runner_runner) (ht : r.tried.length ≤ 100000) : runner_runner_next_o0_6_7 r = some (nextO r.outcomes r.tried, r) := by
  unfold runner_runner_next_o0_6_7 nextO
  by_cases h : r.tried.length < r.outcomes.length
  · rw [if_pos (by simp; omega), idx_lt h]
    simp [List.getD, h]
  · rw [if_neg (by simp; omega)]
    simp [List.getD, h]
theorem there_sp (o : Int) : runner_there o = some (thereP o) := rfl
abbrev SRn : Type := Int × (List api_Consumer) × Int × Int × (List api_Unit) × (List Int) × (List api_Attempt) × (List api_Rotation)
def packR (f : api_Fleet) (s : api_Rotation) (os : List Int) (t : List api_Attempt) (st : List api_Rotation) : SRn := (f.Slots, f.Consumers, s.Known, s.Valid, s.Units, os, t, st)
def tryE (f : api_Fleet) (s n : api_Rotation) (os : List Int) (r : Bool × List api_Attempt × List api_Rotation) : SRn ⊕ (Int × runner_runner) := if r.1 = true then .inr (0, ⟨f, n, os, r.2.1, r.2.2⟩) else .inl (packR f s os r.2.1 r.2.2)
theorem try_loop {x : api_Step} {f : api_Fleet} {s n : api_Rotation} (hs : s.Units.length ≤ 1000) (hn : n.Units.length ≤ 1000) {os : List Int} {e : Int} : ∀ (k j : Nat) (t : List api_Attempt) (st : List api_Rotation), j + k = 6 → t.length ≤ 50000 + j → st.length ≤ 50000 + 2 * j →
    iter (runner_runner_step_o0_6_7_l0 x (n, e)) ((j : Int), packR f s os t st) = some (tryE f s n os (tryP x s n os k t st)) := fun k => by
  induction k with
  | zero =>
    intro j t st h _ _
    have : j = 6 := by omega
    subst this
    refine iter_out ?_
    unfold runner_runner_step_o0_6_7_l0
    rw [if_neg (by simp)]; rfl
  | succ k ih =>
    intro j t st h h1 h2
    have hj : j < 6 := by omega
    rw [tryP_eq]
    have hA : runner_runner_step_o0_6_7_l0 x (n, e) ((j : Int), packR f s os t st) = runner_runner_step_o0_6_7_j1 (nextO os t, ⟨f, s, os, t, st⟩) (n, e) ((j : Int), packR f s os t st) (f.Slots, f.Consumers, s.Known, s.Valid, s.Units, os, (if nextO os t = 4 then st ++ [n] else st), t ++ [⟨x, nextO os t, thereP (nextO os t)⟩]) := by
      conv => lhs; unfold runner_runner_step_o0_6_7_l0
      rw [if_pos (by simp; omega)]
      simp only [packR]
      rw [next_sp _ (by simp only; omega)]
      simp only [Option.bind_some, there_sp]
      rw [ck_t (by simp; omega)]
      simp only [Option.bind_some]
      by_cases h4 : nextO os t = 4
      · rw [if_pos (by simpa using h4), look_sp hn (by simp only; omega), if_pos h4]; rfl
      · rw [if_neg (by simpa using h4), if_neg h4]
    have hB : (if nextO os t = 4 then st ++ [n] else st).length ≤ st.length + 1 := by split <;> simp
    by_cases ht : thereP (nextO os t) = true
    · rw [if_pos ht]
      refine iter_out ?_
      rw [hA]
      unfold runner_runner_step_o0_6_7_j1
      simp only [there_sp, Option.bind_some]
      rw [if_pos ht, look_sp hn (by simp only; omega)]; rfl
    · rw [if_neg ht]
      have hgo : runner_runner_step_o0_6_7_l0 x (n, e) ((j : Int), packR f s os t st) = some (.go (((j + 1 : Nat) : Int), packR f s os (t ++ [⟨x, nextO os t, thereP (nextO os t)⟩]) ((if nextO os t = 4 then st ++ [n] else st) ++ [s]))) := by
        rw [hA]
        unfold runner_runner_step_o0_6_7_j1
        simp only [there_sp, Option.bind_some]
        rw [if_neg ht, look_sp hs (by simp only; omega)]
        simp only [Option.bind_some]
        rw [w64 (by omega) (by omega)]; rfl
      rw [iter_go hgo]
      exact ih (j + 1) _ _ (by omega) (by simp; omega) (by simp; omega)
theorem step_sp {x : api_Step} {f : api_Fleet} {s : api_Rotation} (hr : RightOk f s) {os : List Int} {t : List api_Attempt} {st : List api_Rotation} (ht : t.length ≤ 50000) (hst : st.length ≤ 50000) :
    runner_runner_step_o0_6_7 ⟨f, s, os, t, st⟩ x = some (if (applyP f s x).2 ≠ 0 then ((applyP f s x).2, ⟨f, s, os, t, st⟩) else
      if (tryP x s (applyP f s x).1 os 6 t st).1 = true then (0, ⟨f, (applyP f s x).1, os, (tryP x s (applyP f s x).1 os 6 t st).2.1, (tryP x s (applyP f s x).1 os 6 t st).2.2⟩)
      else (40, ⟨f, s, os, (tryP x s (applyP f s x).1 os 6 t st).2.1, (tryP x s (applyP f s x).1 os 6 t st).2.2⟩)) := by
  unfold runner_runner_step_o0_6_7
  simp only [apply_sp, Option.bind_some]
  by_cases h0 : (applyP f s x).2 = 0
  · rw [if_neg (by simpa using h0), if_neg (not_not_intro h0)]
    have hn := (apply_right hr h0).1.len
    have l8 := hr.len
    have := try_loop (x := x) (f := f) (s := s) (n := (applyP f s x).1) (by omega) (by omega) (os := os) (e := (applyP f s x).2) 6 0 t st (by omega) (by omega) (by omega)
    have e1 : iter (runner_runner_step_o0_6_7_l0 x (applyP f s x)) (0, f.Slots, f.Consumers, s.Known, s.Valid, s.Units, os, t, st) = some (tryE f s (applyP f s x).1 os (tryP x s (applyP f s x).1 os 6 t st)) := this
    rw [e1]
    simp only [Option.bind_some, tryE]
    by_cases h1 : (tryP x s (applyP f s x).1 os 6 t st).1 = true
    · rw [if_pos h1, if_pos h1]
    · rw [if_neg h1, if_neg h1]; rfl
  · rw [if_pos (by simpa using h0), if_pos h0]

/-! Whole runs -/
def runT (f : api_Fleet) (os : List Int) : List api_Step → api_Rotation → List api_Attempt → List api_Rotation → (api_Rotation × List api_Attempt × List api_Rotation) × Int
  | [], s, t, st => ((s, t, st), 0)
  | x :: l, s, t, st => if (applyP f s x).2 ≠ 0 then ((s, t, st), (applyP f s x).2) else
      if (tryP x s (applyP f s x).1 os 6 t st).1 = true then runT f os l (applyP f s x).1 (tryP x s (applyP f s x).1 os 6 t st).2.1 (tryP x s (applyP f s x).1 os 6 t st).2.2
      else ((s, (tryP x s (applyP f s x).1 os 6 t st).2.1, (tryP x s (applyP f s x).1 os 6 t st).2.2), 40)
theorem runT_eq {f : api_Fleet} {os : List Int} {x : api_Step} {l : List api_Step} {s : api_Rotation} {t : List api_Attempt} {st : List api_Rotation} : runT f os (x :: l) s t st = if (applyP f s x).2 ≠ 0 then ((s, t, st), (applyP f s x).2) else
      if (tryP x s (applyP f s x).1 os 6 t st).1 = true then runT f os l (applyP f s x).1 (tryP x s (applyP f s x).1 os 6 t st).2.1 (tryP x s (applyP f s x).1 os 6 t st).2.2
      else ((s, (tryP x s (applyP f s x).1 os 6 t st).2.1, (tryP x s (applyP f s x).1 os 6 t st).2.2), 40) := rfl
def runTE (f : api_Fleet) (os : List Int) (r : (api_Rotation × List api_Attempt × List api_Rotation) × Int) : SRn ⊕ ((Option runner_runner) × Int) := if r.2 = 0 then .inl (packR f r.1.1 os r.1.2.1 r.1.2.2) else .inr (some ⟨f, r.1.1, os, r.1.2.1, r.1.2.2⟩, r.2)
theorem runT_loop {f : api_Fleet} {os : List Int} {l : List api_Step} (hl : l.length ≤ 1000) : ∀ (m i : Nat) (s : api_Rotation) (t : List api_Attempt) (st : List api_Rotation), i + m = l.length → RightOk f s → t.length ≤ 6 * i → st.length ≤ 12 * i + 1 →
    iter (runner_run_l0 l) ((i : Int), packR f s os t st) = some (runTE f os (runT f os (l.drop i) s t st)) := fun m => by
  induction m with
  | zero =>
    intro i s t st h _ _ _
    have : i = l.length := by omega
    subst this
    rw [List.drop_length]
    refine iter_out ?_
    unfold runner_run_l0
    rw [if_neg (by simp)]; rfl
  | succ m ih =>
    intro i s t st h hr h1 h2
    have hi : i < l.length := by omega
    rw [List.drop_eq_getElem_cons hi, runT_eq]
    have hA : runner_run_l0 l ((i : Int), packR f s os t st) = (runner_runner_step_o0_6_7 ⟨f, s, os, t, st⟩ l[i]).bind fun y7 => if (y7.1 != 0) = true then some (.out (.inr ((some y7.2), y7.1)))
        else some (.go (IntKind.i64.wrap ((i : Int) + 1), y7.2.fleet.Slots, y7.2.fleet.Consumers, y7.2.state.Known, y7.2.state.Valid, y7.2.state.Units, y7.2.outcomes, y7.2.tried, y7.2.states)) := by
      unfold runner_run_l0
      rw [if_pos (by simp; omega), idx_lt hi]; rfl
    rw [step_sp hr (by omega) (by omega)] at hA
    simp only [Option.bind_some] at hA
    obtain ⟨q1, q2⟩ := tryP_len l[i] s (applyP f s l[i]).1 os 6 t st
    by_cases h0 : (applyP f s l[i]).2 = 0
    · rw [if_neg (not_not_intro h0)] at hA ⊢
      by_cases h3 : (tryP l[i] s (applyP f s l[i]).1 os 6 t st).1 = true
      · rw [if_pos h3] at hA ⊢
        simp only at hA
        rw [if_neg (by simp), w64 (by omega) (by omega)] at hA
        rw [iter_go hA]
        exact ih (i + 1) _ _ _ (by omega) (apply_right hr h0).1 (by omega) (by omega)
      · rw [if_neg h3] at hA ⊢
        simp only at hA
        rw [if_pos (by simp)] at hA
        refine (iter_out hA).trans ?_
        simp [runTE]
    · rw [if_pos h0] at hA ⊢
      simp only at hA
      rw [if_pos (by simpa using h0)] at hA
      refine (iter_out hA).trans ?_
      simp [runTE, h0]
def outOk (os : List Int) : Prop := ∀ o ∈ os, 0 ≤ o ∧ o ≤ 4
theorem outs_sp {os : List Int} (ho : outOk os) (hl : os.length ≤ 100000) : slices_ContainsFunc_int_at_runner_check_1 os = some false := by
  unfold slices_ContainsFunc_int_at_runner_check_1 slices_IndexFunc_int_at_runner_check_1
  have : iter (slices_IndexFunc_int_at_runner_check_1_l0 os) 0 = some (.inl ()) := by
    have := iter_find (body := slices_IndexFunc_int_at_runner_check_1_l0 os) os (fun _ => false) (Sum.inl ()) (Sum.inl ()) (fun i hi => ?_) ?_
    · rw [this]; simp
    · unfold slices_IndexFunc_int_at_runner_check_1_l0
      have := ho _ (List.getElem_mem hi)
      rw [if_pos (by simp; omega), idx_lt hi, w64 (by omega) (by omega)]
      simp only [Option.bind_some, runner_check_1, runner_outcome]
      rw [if_neg (by simp; omega), if_neg (by simp)]; rfl
    · unfold slices_IndexFunc_int_at_runner_check_1_l0
      rw [if_neg (by simp)]
  rw [this]
  simp
theorem rrun_sp {f : api_Fleet} {s : api_Rotation} (hr : RightOk f s) {l : List api_Step} (hl : l.length ≤ 120) {os : List Int} (ho : outOk os) (hos : os.length ≤ 100000) :
    runner_run f s l os = some (some ⟨f, (runT f os l s [] [s]).1.1, os, (runT f os l s [] [s]).1.2.1, (runT f os l s [] [s]).1.2.2⟩, (runT f os l s [] [s]).2) := by
  unfold runner_run runner_check
  rw [right_sp, decide_eq_true hr]
  simp only [Option.bind_some]
  rw [if_neg (by simp), if_neg (by simp; omega), outs_sp ho hos]
  simp only [Option.bind_some]
  rw [if_neg (by simp)]
  simp only [Option.bind_some]
  have l8 := hr.len
  rw [if_neg (by simp), fcopy_sp (by omega)]
  simp only [Option.bind_some]
  rw [look_sp (by omega) (by simp)]
  simp only [Option.bind_some, List.nil_append]
  have := runT_loop (f := f) (os := os) (l := l) (by omega) l.length 0 s [] [s] (by omega) hr (by simp) (by simp)
  rw [List.drop_zero] at this
  have e1 : iter (runner_run_l0 l) (0, f.Slots, f.Consumers, s.Known, s.Valid, s.Units, os, [], [s]) = some (runTE f os (runT f os l s [] [s])) := this
  rw [e1]
  simp only [Option.bind_some, runTE]
  by_cases h : (runT f os l s [] [s]).2 = 0
  · rw [if_pos h, h]; rfl
  · rw [if_neg h]
theorem Run_sp {f : api_Fleet} {s : api_Rotation} (hr : RightOk f s) {l : List api_Step} (hl : l.length ≤ 120) {os : List Int} (ho : outOk os) (hos : os.length ≤ 100000) :
    runner_Run f s l os = some ((runT f os l s [] [s]).1.1, (runT f os l s [] [s]).1.2.1, (runT f os l s [] [s]).2) := by
  unfold runner_Run
  rw [rrun_sp hr hl ho hos]; rfl
theorem States_sp {f : api_Fleet} {s : api_Rotation} (hr : RightOk f s) {l : List api_Step} (hl : l.length ≤ 120) {os : List Int} (ho : outOk os) (hos : os.length ≤ 100000) :
    runner_States f s l os = some ((runT f os l s [] [s]).1.2.2, (runT f os l s [] [s]).2) := by
  unfold runner_States
  rw [rrun_sp hr hl ho hos]; rfl
end Go.Vl
