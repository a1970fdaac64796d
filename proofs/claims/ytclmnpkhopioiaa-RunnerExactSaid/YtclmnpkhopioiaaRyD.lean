/- Plain laws of runs: both texts agree on all fleets, states, steps, outcomes and attempts. Conditions: none. -/
import Derived.Test.YtclmnpkhopioiaaRyC
set_option linter.unusedSimpArgs false
set_option linter.unusedVariables false
namespace Go.Vl
open Go

theorem rthere_sp {o : Int} (h0 : 0 ≤ o) (h4 : o ≤ 4) : ref37_there o = some (thereP o) := by
  have : o = 0 ∨ o = 1 ∨ o = 2 ∨ o = 3 ∨ o = 4 := by omega
  rcases this with rfl | rfl | rfl | rfl | rfl <;> rfl
theorem rright37_sp (o : Int) : ref37_right o = some (decide (0 ≤ o ∧ o ≤ 4)) := by
  unfold ref37_right; simp
instance (os : List Int) : Decidable (outOk os) := by unfold outOk; infer_instance
abbrev S5 : Type := Int × Int × Int × Int × (List api_Unit) × (List api_Rotation) × (List api_Attempt)
theorem rtry_step {os : List Int} (ho : outOk os) {x : api_Step} {s n : api_Rotation} {e : Int} {a i : Int} {st0 : List api_Rotation} {t0 : List api_Attempt} {j : Nat} (hj : j < 6) {t : List api_Attempt} {st : List api_Rotation} (ht : t.length ≤ 100000) (hst : st.length ≤ 200000) :
    ref37_run_l2 os x (n, e) (a, i, s.Known, s.Valid, s.Units, st0, t0) ((t.length : Int), false, (j : Int), st, t) =
      some (.go (((t.length + 1 : Nat) : Int), thereP (nextO os t), ((j + 1 : Nat) : Int), (if nextO os t = 4 then st ++ [n] else st) ++ [if thereP (nextO os t) = true then n else s], t ++ [⟨x, nextO os t, thereP (nextO os t)⟩])) := by
  have h3 : ref37_run_l2 os x (n, e) (a, i, s.Known, s.Valid, s.Units, st0, t0) ((t.length : Int), false, (j : Int), st, t) = ref37_run_j3 ((t.length : Int), false, (j : Int), st, t) x (n, e) (a, i, s.Known, s.Valid, s.Units, st0, t0) (nextO os t) := by
    unfold ref37_run_l2 nextO
    simp only [Option.bind_some]
    rw [if_pos (by simp; omega)]
    by_cases h : t.length < os.length
    · rw [if_pos (by simp; omega), idx_lt h]
      simp [List.getD, h]
    · rw [if_neg (by simp; omega)]
      simp [List.getD, h]
  obtain ⟨o0, o4⟩ := nextO_ok ho t
  rw [h3]
  unfold ref37_run_j3 ref37_run_j4
  rw [rthere_sp o0 o4]
  simp only [Option.bind_some]
  rw [ck_t (by simp; omega)]
  simp only [Option.bind_some]
  rw [w64 (x := (t.length : Int) + 1) (by omega) (by omega), w64 (x := (j : Int) + 1) (by omega) (by omega), ck_t (by simp; omega), ck_t (by simp; omega), ck_t (by simp; omega)]
  generalize nextO os t = o at o0 o4 ⊢
  have : o = 0 ∨ o = 1 ∨ o = 2 ∨ o = 3 ∨ o = 4 := by omega
  rcases this with rfl | rfl | rfl | rfl | rfl <;> simp [thereP]
theorem rtry_loop {os : List Int} (ho : outOk os) {x : api_Step} {s n : api_Rotation} {e : Int} {a i : Int} {st0 : List api_Rotation} {t0 : List api_Attempt} : ∀ (k j : Nat) (t : List api_Attempt) (st : List api_Rotation), j + k = 6 → t.length ≤ 50000 + j → st.length ≤ 50000 + 2 * j →
    iter (ref37_run_l2 os x (n, e) (a, i, s.Known, s.Valid, s.Units, st0, t0)) ((t.length : Int), false, (j : Int), st, t) =
      some (((tryP x s n os k t st).2.1.length : Int), (tryP x s n os k t st).1, (tryP x s n os k t st).2.2, (tryP x s n os k t st).2.1) := fun k => by
  induction k with
  | zero =>
    intro j t st h _ _
    have : j = 6 := by omega
    subst this
    refine iter_out ?_
    unfold ref37_run_l2
    simp only [Option.bind_some]
    rw [if_neg (by simp)]; rfl
  | succ k ih =>
    intro j t st h h1 h2
    have hB : (if nextO os t = 4 then st ++ [n] else st).length ≤ st.length + 1 := by split <;> simp
    rw [iter_go (rtry_step ho (by omega) (by omega) (by omega)), tryP_eq]
    by_cases ht : thereP (nextO os t) = true
    · rw [if_pos ht, if_pos ht]
      refine iter_out ?_
      unfold ref37_run_l2
      simp only [Option.bind_some]
      rw [ht, if_neg (by simp)]
      simp
    · rw [if_neg ht, if_neg ht]
      have := ih (j + 1) (t ++ [⟨x, nextO os t, thereP (nextO os t)⟩]) ((if nextO os t = 4 then st ++ [n] else st) ++ [s]) (by omega) (by simp; omega) (by simp; omega)
      rw [← this]
      have ht' : thereP (nextO os t) = false := by simpa using ht
      rw [List.length_append, List.length_singleton]
      rw [ht']
def rrunE (r : (api_Rotation × List api_Attempt × List api_Rotation) × Int) : (Int × Int × (List api_Unit) × (List api_Rotation) × (List api_Attempt)) ⊕ (api_Rotation × (List api_Attempt) × (List api_Rotation) × Int) :=
  if r.2 = 0 then .inl (r.1.1.Known, r.1.1.Valid, r.1.1.Units, r.1.2.2, r.1.2.1) else .inr (r.1.1, r.1.2.1, r.1.2.2, r.2)
theorem rrunT_loop {f : api_Fleet} {os : List Int} (ho : outOk os) {l : List api_Step} (hl : l.length ≤ 1000) : ∀ (m i : Nat) (s : api_Rotation) (t : List api_Attempt) (st : List api_Rotation), i + m = l.length → RightOk f s → t.length ≤ 6 * i → st.length ≤ 12 * i + 1 →
    iter (ref37_run_l1 l f os) ((t.length : Int), (i : Int), s.Known, s.Valid, s.Units, st, t) = some (rrunE (runT f os (l.drop i) s t st)) := fun m => by
  induction m with
  | zero =>
    intro i s t st h _ _ _
    have : i = l.length := by omega
    subst this
    rw [List.drop_length]
    refine iter_out ?_
    unfold ref37_run_l1
    simp only
    rw [if_neg (by simp)]; rfl
  | succ m ih =>
    intro i s t st h hr h1 h2
    have hi : i < l.length := by omega
    rw [List.drop_eq_getElem_cons hi, runT_eq]
    have hA : ref37_run_l1 l f os ((t.length : Int), (i : Int), s.Known, s.Valid, s.Units, st, t) = if ((applyP f s l[i]).2 != 0) = true then some (.out (.inr (s, t, st, (applyP f s l[i]).2))) else
        (iter (ref37_run_l2 os l[i] (applyP f s l[i]) ((t.length : Int), (i : Int), s.Known, s.Valid, s.Units, st, t)) ((t.length : Int), false, 0, st, t)).bind fun v8 =>
        if (!v8.2.1) = true then some (.out (.inr (s, v8.2.2.2, v8.2.2.1, 40))) else some (.go (v8.1, IntKind.i64.wrap ((i : Int) + 1), (applyP f s l[i]).1.Known, (applyP f s l[i]).1.Valid, (applyP f s l[i]).1.Units, v8.2.2.1, v8.2.2.2)) := by
      unfold ref37_run_l1
      simp only
      rw [if_pos (by simp; omega), idx_lt hi]
      simp only [Option.bind_some, rapply_sp]
    have hL := rtry_loop ho (x := l[i]) (s := s) (n := (applyP f s l[i]).1) (e := (applyP f s l[i]).2) (a := (t.length : Int)) (i := (i : Int)) (st0 := st) (t0 := t) 6 0 t st (by omega) (by omega) (by omega)
    have hL' : iter (ref37_run_l2 os l[i] (applyP f s l[i]) ((t.length : Int), (i : Int), s.Known, s.Valid, s.Units, st, t)) ((t.length : Int), false, 0, st, t) = _ := hL
    rw [hL'] at hA
    simp only [Option.bind_some] at hA
    obtain ⟨q1, q2⟩ := tryP_len l[i] s (applyP f s l[i]).1 os 6 t st
    by_cases h0 : (applyP f s l[i]).2 = 0
    · rw [if_neg (by simpa using h0)] at hA
      rw [if_neg (not_not_intro h0)]
      by_cases h3 : (tryP l[i] s (applyP f s l[i]).1 os 6 t st).1 = true
      · rw [if_pos h3]
        rw [if_neg (by simpa using h3), w64 (by omega) (by omega)] at hA
        rw [iter_go hA]
        exact ih (i + 1) _ _ _ (by omega) (apply_right hr h0).1 (by omega) (by omega)
      · rw [if_neg h3]
        rw [if_pos (by simpa using h3)] at hA
        refine (iter_out hA).trans ?_
        simp [rrunE]
    · rw [if_pos (by simpa using h0)] at hA
      rw [if_pos h0]
      refine (iter_out hA).trans ?_
      simp [rrunE, h0]
theorem outs_loop {os : List Int} (hl : os.length ≤ 100000) : iter (ref37_run_l0 os) 0 = some (if outOk os then .inl () else .inr (zeroR, [], [], 2)) := by
  have := iter_find (body := ref37_run_l0 os) os (fun o => !decide (0 ≤ o ∧ o ≤ 4)) (Sum.inr (zeroR, [], [], 2)) (Sum.inl ()) (fun i hi => ?_) ?_
  · rw [this]
    congr 1
    by_cases h : outOk os
    · rw [if_pos h, if_neg]
      simp only [List.any_eq_true, not_exists, not_and]
      intro o h1 h2
      have := h o h1
      simp [this] at h2
    · rw [if_neg h, if_pos]
      unfold outOk at h
      simp only [Classical.not_forall] at h
      obtain ⟨o, h1, h2⟩ := h
      rw [List.any_eq_true]
      exact ⟨o, h1, by rw [Bool.not_eq_true']; exact decide_eq_false h2⟩
  · unfold ref37_run_l0
    rw [if_pos (by simp; omega), idx_lt hi, w64 (by omega) (by omega)]
    simp only [Option.bind_some, rright37_sp]
    cases decide (0 ≤ os[i] ∧ os[i] ≤ 4) <;> rfl
  · unfold ref37_run_l0
    rw [if_neg (by simp)]
theorem outs_any {os : List Int} (hl : os.length ≤ 100000) : slices_ContainsFunc_int_at_runner_check_1 os = some (decide (¬ outOk os)) := by
  by_cases h : outOk os
  · rw [outs_sp h hl]; simp [h]
  have : ∃ e, iter (slices_IndexFunc_int_at_runner_check_1_l0 os) 0 = some e ∧ ∃ j : Int, 0 ≤ j ∧ e = .inr j := by
    refine iter_ex (body := slices_IndexFunc_int_at_runner_check_1_l0 os) (fun s : Int => 0 ≤ s ∧ s ≤ os.length ∧ ∀ i, (h : i < os.length) → (i : Int) < s → 0 ≤ os[i] ∧ os[i] ≤ 4) (fun s => (os.length - s).toNat) _ ?_ ⟨by omega, by omega, fun i _ h => by omega⟩
    rintro j ⟨g1, g2, g3⟩
    by_cases hj : j < os.length
    · obtain ⟨i, rfl⟩ : ∃ i : Nat, j = (i : Int) := ⟨j.toNat, by omega⟩
      have hi : i < os.length := by omega
      have hA : slices_IndexFunc_int_at_runner_check_1_l0 os (i : Int) = if (!decide (0 ≤ os[i] ∧ os[i] ≤ 4)) = true then some (.out (.inr (i : Int))) else some (.go ((i : Int) + 1)) := by
        unfold slices_IndexFunc_int_at_runner_check_1_l0
        rw [if_pos (by simp; omega), idx_lt hi, w64 (by omega) (by omega)]
        simp only [Option.bind_some, runner_check_1, runner_outcome, Bool.decide_and]
      by_cases hp : 0 ≤ os[i] ∧ os[i] ≤ 4
      · left
        rw [hA, if_neg (by simp [hp])]
        refine ⟨_, rfl, ⟨by omega, by omega, fun k h1 h2 => ?_⟩, by omega⟩
        by_cases e : k = i
        · subst e; exact hp
        · exact g3 k h1 (by omega)
      · right
        rw [hA, if_pos (by rw [Bool.not_eq_true']; exact decide_eq_false hp)]
        exact ⟨_, rfl, _, g1, rfl⟩
    · exfalso
      refine h fun o ho => ?_
      obtain ⟨i, hi, rfl⟩ := List.getElem_of_mem ho
      exact g3 i hi (by omega)
  obtain ⟨e, he, j, hj, rfl⟩ := this
  unfold slices_ContainsFunc_int_at_runner_check_1 slices_IndexFunc_int_at_runner_check_1
  rw [he]
  simp [h, hj]
def runA (f : api_Fleet) (s : api_Rotation) (l : List api_Step) (os : List Int) : api_Rotation × (List api_Attempt) × (List api_Rotation) × Int :=
  if ¬ RightOk f s then (zeroR, [], [], 36) else if 120 < l.length then (zeroR, [], [], 3) else if ¬ outOk os then (zeroR, [], [], 2) else
    ((runT f os l s [] [s]).1.1, (runT f os l s [] [s]).1.2.1, (runT f os l s [] [s]).1.2.2, (runT f os l s [] [s]).2)
theorem rrunA (f : api_Fleet) (s : api_Rotation) (l : List api_Step) {os : List Int} (hos : os.length ≤ 100000) : ref37_run f s l os = some (runA f s l os) := by
  unfold ref37_run runA
  rw [rright_sp]
  by_cases hr : RightOk f s
  case neg => simp [hr, zeroR]
  by_cases hl : 120 < l.length
  · have : (120 : Int) < l.length := by omega
    simp [hr, hl, this, zeroR]
  simp only [hr, hl, decide_true, Option.bind_some, not_true, if_false]
  rw [if_neg (by simp), if_neg (by simp; omega), outs_loop hos]
  by_cases ho : outOk os
  · simp only [ho, if_true, not_true, if_false, Option.bind_some]
    have := rrunT_loop (f := f) ho (l := l) (by omega) l.length 0 s [] [s] (by omega) hr (by simp) (by simp)
    rw [List.drop_zero] at this
    have e1 : iter (ref37_run_l1 l f os) (0, 0, s.Known, s.Valid, s.Units, [s], []) = _ := this
    rw [e1]
    simp only [Option.bind_some, rrunE]
    by_cases h : (runT f os l s [] [s]).2 = 0
    · rw [if_pos h, h]
    · rw [if_neg h]
  · simp [ho]
theorem runA_1 (f : api_Fleet) (s : api_Rotation) (l : List api_Step) {os : List Int} (hos : os.length ≤ 100000) : runner_Run f s l os = some ((runA f s l os).1, (runA f s l os).2.1, (runA f s l os).2.2.2) ∧ runner_States f s l os = some ((runA f s l os).2.2.1, (runA f s l os).2.2.2) := by
  by_cases hr : RightOk f s
  case neg =>
    unfold runner_Run runner_States runner_run runner_check runA
    rw [right_sp]
    simp [hr, zeroR]
  by_cases hl : 120 < l.length
  · have : (120 : Int) < l.length := by omega
    unfold runner_Run runner_States runner_run runner_check runA
    rw [right_sp]
    simp [hr, hl, this, zeroR]
  by_cases ho : outOk os
  · rw [Run_sp hr (by omega) ho hos, States_sp hr (by omega) ho hos]
    unfold runA
    rw [if_neg (not_not_intro hr), if_neg hl, if_neg (not_not_intro ho)]
    exact ⟨rfl, rfl⟩
  · have h1 : ¬ (120 : Int) < l.length := by omega
    unfold runner_Run runner_States runner_run runner_check runA
    rw [right_sp, outs_any hos]
    simp [hr, hl, h1, ho, zeroR]
theorem runT_rights {f : api_Fleet} {os : List Int} : ∀ (l : List api_Step) (s : api_Rotation) (t : List api_Attempt) (st : List api_Rotation), RightOk f s → (∀ r ∈ st, RightOk f r) → RightOk f (runT f os l s t st).1.1 ∧ ∀ r ∈ (runT f os l s t st).1.2.2, RightOk f r := fun l => by
  have htry : ∀ (x : api_Step) (s n : api_Rotation) (k : Nat) (t : List api_Attempt) (st : List api_Rotation), RightOk f s → RightOk f n → (∀ r ∈ st, RightOk f r) → ∀ r ∈ (tryP x s n os k t st).2.2, RightOk f r := fun x s n k => by
    induction k with
    | zero => intro t st _ _ h; exact h
    | succ k ih =>
      intro t st hs hn h
      have h1 : ∀ r ∈ (if nextO os t = 4 then st ++ [n] else st), RightOk f r := fun r hr => by
        split at hr
        · rcases List.mem_append.1 hr with hr | hr
          · exact h r hr
          · rw [List.mem_singleton] at hr; exact hr ▸ hn
        · exact h r hr
      rw [tryP_eq]
      split
      · intro r hr
        rcases List.mem_append.1 hr with hr | hr
        · exact h1 r hr
        · rw [List.mem_singleton] at hr; exact hr ▸ hn
      · refine ih _ _ hs hn fun r hr => ?_
        rcases List.mem_append.1 hr with hr | hr
        · exact h1 r hr
        · rw [List.mem_singleton] at hr; exact hr ▸ hs
  induction l with
  | nil => intro s t st hs h; exact ⟨hs, h⟩
  | cons x l ih =>
    intro s t st hs h
    rw [runT_eq]
    by_cases h0 : (applyP f s x).2 = 0
    · rw [if_neg (not_not_intro h0)]
      have hn := (apply_right hs h0).1
      have h2 := htry x s (applyP f s x).1 6 t st hs hn h
      split
      · exact ih _ _ _ hn h2
      · exact ⟨hs, h2⟩
    · rw [if_pos h0]; exact ⟨hs, h⟩
theorem runA_ok (f : api_Fleet) (s : api_Rotation) {l : List api_Step} (hl : l.length ≤ 50) (os : List Int) : (runA f s l os).1.Units.length ≤ 8 ∧ (runA f s l os).2.1.length ≤ 300 ∧ (runA f s l os).2.2.1.length ≤ 700 ∧ ∀ r ∈ (runA f s l os).2.2.1, r.Units.length ≤ 8 := by
  unfold runA
  split
  · exact ⟨by simp [zeroR], by simp, by simp, fun r h => by simp at h⟩
  · rename_i hr
    have hr : RightOk f s := Decidable.not_not.1 hr
    split
    · exact ⟨by simp [zeroR], by simp, by simp, fun r h => by simp at h⟩
    · split
      · exact ⟨by simp [zeroR], by simp, by simp, fun r h => by simp at h⟩
      · obtain ⟨h1, h2⟩ := runT_rights (f := f) (os := os) l s [] [s] hr (fun r h => by rw [List.mem_singleton] at h; exact h ▸ hr)
        obtain ⟨n1, n2⟩ := runT_len (f := f) (os := os) l s [] [s]
        simp only [List.length_nil, List.length_singleton] at n1 n2
        exact ⟨h1.len.2, by simp only; omega, by simp only; omega, fun r h => (h2 r h).len.2⟩
theorem same37 {l : List api_Attempt} (hl : l.length ≤ 1000) : ref37_Same l l = some true := by
  unfold ref37_Same
  rw [if_neg (by simp), iter_all l.length (fun _ => true) (fun i hi => ?_) ?_]
  · simp
  · unfold ref37_Same_l0
    rw [if_neg (by simp)]
  · unfold ref37_Same_l0
    rw [if_pos (by simp; omega), idx_lt hi]
    simp only [Option.bind_some]
    rw [if_neg (by simp), w64 (by omega) (by omega)]; rfl

/-! What is left -/
theorem rleft_l0 (tr : List api_Attempt) : ref37_Left_l0 tr = runner_Left_l0 tr := by
  funext s
  unfold ref37_Left_l0 runner_Left_l0
  simp only [rright37_sp, Option.bind_some, runner_outcome, there_sp]
  by_cases h : s < (tr.length : Int)
  · rw [if_pos (by simpa using h), if_pos (by simpa using h)]
    cases hx : idx tr s with
    | none => rfl
    | some x =>
      simp only [Option.bind_some]
      by_cases ho : 0 ≤ x.Outcome ∧ x.Outcome ≤ 4
      · rw [rthere_sp ho.1 ho.2]
        simp [ho]
      · have : (decide (0 ≤ x.Outcome) && decide (x.Outcome ≤ 4)) = false := by rw [← Bool.decide_and]; simp only [ho, decide_false]
        simp [ho, this]
  · rw [if_neg (by simpa using h), if_neg (by simpa using h)]
theorem rleft_eq {l : List api_Step} {tr : List api_Attempt} (hl : l.length ≤ 1000) : ref37_Left l tr = runner_Left l tr := by
  unfold ref37_Left runner_Left
  rw [rleft_l0, show ref37_Left_l1 tr l = runner_Left_l1 tr l from rfl]
  unfold slices_Clone_api_Step
  cases iter (runner_Left_l0 tr) 0 with
  | none => rfl
  | some q =>
    cases q with
    | inr r => rfl
    | inl v =>
      simp only [Option.bind_some]
      cases iter (runner_Left_l1 tr l) (0, 0) with
      | none => rfl
      | some q =>
        cases q with
        | inr r => rfl
        | inl v =>
          simp only [Option.bind_some]
          cases ck (0 ≤ v ∧ v ≤ (l.length : Int) ∧ (l.length : Int) ≤ (l.length : Int)) with
          | none => rfl
          | some u =>
            simp only [Option.bind_some]
            cases ck ((List.drop v.toNat l).length ≤ 268435456) <;> rfl
theorem left_ex {l : List api_Step} {tr : List api_Attempt} (hl : l.length ≤ 500) (htr : tr.length ≤ 100000) : ∃ r, runner_Left l tr = some r ∧ r.1.length ≤ 500 := by
  have h0 : ∃ e, iter (runner_Left_l0 tr) 0 = some e ∧ (e = .inl () ∨ e = .inr ([], 2)) := by
    refine iter_ex (body := runner_Left_l0 tr) (fun s : Int => 0 ≤ s ∧ s ≤ tr.length) (fun s => (tr.length - s).toNat) _ ?_ ⟨by omega, by omega⟩
    rintro j ⟨g1, g2⟩
    unfold runner_Left_l0
    by_cases hj : j < tr.length
    · rw [if_pos (by simpa using hj), idx_toNat g1 (by omega), w64 (by omega) (by omega)]
      simp only [Option.bind_some, runner_outcome, there_sp]
      generalize tr[j.toNat]'(by omega) = x
      cases (decide (0 ≤ x.Outcome) && decide (x.Outcome ≤ 4)) with
      | false => right; exact ⟨_, rfl, .inr rfl⟩
      | true =>
        cases hc : (x.There != thereP x.Outcome) with
        | true => right; exact ⟨.inr ([], 2), by simp [hc], .inr rfl⟩
        | false => left; exact ⟨j + 1, by simp [hc], ⟨by omega, by omega⟩, by omega⟩
    · right
      rw [if_neg (by simpa using hj)]
      exact ⟨_, rfl, .inl rfl⟩
  have h1 : ∃ e, iter (runner_Left_l1 tr l) (0, 0) = some e ∧ ((∃ v : Int, 0 ≤ v ∧ v ≤ l.length ∧ e = .inl v) ∨ e = .inr ([], 41)) := by
    refine iter_ex (body := runner_Left_l1 tr l) (fun s : Int × Int => 0 ≤ s.1 ∧ s.1 ≤ l.length ∧ 0 ≤ s.2 ∧ s.2 ≤ tr.length) (fun s => (tr.length - s.2).toNat) _ ?_ ⟨by simp, by simp, by simp, by simp⟩
    rintro ⟨i, j⟩ ⟨g1, g2, g3, g4⟩
    simp only at g1 g2 g3 g4 ⊢
    unfold runner_Left_l1
    simp only
    by_cases hj : j < tr.length
    · rw [if_pos (by simpa using hj), idx_toNat g3 (by omega), w64 (x := j + 1) (by omega) (by omega)]
      simp only [Option.bind_some]
      generalize tr[j.toNat]'(by omega) = x
      by_cases hi : (l.length : Int) ≤ i
      · right
        rw [if_pos (by simpa using hi)]
        exact ⟨_, rfl, .inr rfl⟩
      · rw [if_neg (by simpa using hi), idx_toNat g1 (by omega), w64 (x := i + 1) (by omega) (by omega)]
        simp only [Option.bind_some]
        generalize l[i.toNat]'(by omega) = y
        cases hc : (!((x.Step.Kind == y.Kind) && (x.Step.Unit == y.Unit))) with
        | true => right; exact ⟨.inr ([], 41), by simp, .inr rfl⟩
        | false =>
          left
          cases x.There with
          | true => exact ⟨(i + 1, j + 1), by simp, ⟨by simp only; omega, by simp only; omega, by simp only; omega, by simp only; omega⟩, by simp only; omega⟩
          | false => exact ⟨(i, j + 1), by simp, ⟨by simp only; omega, by simp only; omega, by simp only; omega, by simp only; omega⟩, by simp only; omega⟩
    · right
      rw [if_neg (by simpa using hj)]
      exact ⟨_, rfl, .inl ⟨i, g1, g2, rfl⟩⟩
  obtain ⟨e, he, h0⟩ := h0
  unfold runner_Left
  rw [he]
  rcases h0 with rfl | rfl
  · obtain ⟨e, he, h1⟩ := h1
    simp only [Option.bind_some, he]
    rcases h1 with ⟨v, v0, v1, rfl⟩ | rfl
    · simp only [Option.bind_some]
      rw [ck_t ⟨v0, v1, by omega⟩]
      simp only [Option.bind_some, slices_Clone_api_Step]
      rw [ck_t (by simp; omega)]
      exact ⟨_, rfl, by simp; omega⟩
    · exact ⟨_, rfl, by simp⟩
  · exact ⟨_, rfl, by simp⟩
theorem exact37_l4 {ls : List (List api_Attempt)} (h3 : ls.length = 3) (h : ∀ t ∈ ls, t.length ≤ 1000) {l : List api_Step} (hl : l.length ≤ 50) : iter (law37_RunnerExact_l4 ls l) 0 = some (.inl ()) := by
  rw [iter_all 3 (fun _ => true) (fun i hi => ?_) ?_]
  · simp
  · unfold law37_RunnerExact_l4
    rw [if_neg (by simp)]
  · unfold law37_RunnerExact_l4
    have hi' : i < ls.length := by omega
    have h1 := h _ (List.getElem_mem hi')
    obtain ⟨r, e1, e2⟩ := left_ex (l := l) (tr := ls[i]) (by omega) (by omega)
    rw [if_pos (by simp; omega), ck_t (by omega), Option.bind_some, idx_lt hi', w64 (by omega) (by omega)]
    simp only [Option.bind_some]
    rw [rleft_eq (by omega), e1]
    simp only [Option.bind_some]
    rw [same_steps (by omega)]
    simp
theorem exact37_l2 {ls : List (List Int)} (h3 : ls.length = 3) (h : ∀ o ∈ ls, o.length ≤ 2000) (f : api_Fleet) (s : api_Rotation) {l : List api_Step} (hl : l.length ≤ 50) {tr : List api_Attempt} (htr : tr.length ≤ 1000) {y3 : api_Fleet × make_Tape} (hf : FleetOk y3.1) {t : make_Tape} (ht : TOk t) :
    ∃ e, iter (law37_RunnerExact_l2 ls f s l tr y3) (0, t.L, t.at_) = some e ∧ ∃ v, e = .inl v ∧ TOk ⟨v.1, v.2⟩ := by
  refine iter_ex (body := law37_RunnerExact_l2 ls f s l tr y3) (fun q : Int × List Int × Int => 0 ≤ q.1 ∧ q.1 ≤ 3 ∧ TOk ⟨q.2.1, q.2.2⟩) (fun q => (3 - q.1).toNat) _ ?_ ⟨by simp, by simp, ht⟩
  rintro ⟨j, L, at_⟩ ⟨g1, g0, g2⟩
  simp only at g1 g0 g2 ⊢
  have J : ∀ (y23 : api_Rotation × (List api_Attempt) × Int) (bent : List api_Attempt) (m : make_Tape), j < 3 → y23.2.1.length ≤ 1000 → bent.length ≤ 1000 → TOk m → ∃ s', law37_RunnerExact_j3 y23 tr l (j, L, at_) (m.L, m.at_, bent) = some (.go s') ∧ (0 ≤ s'.1 ∧ s'.1 ≤ 3 ∧ TOk ⟨s'.2.1, s'.2.2⟩) ∧ (3 - s'.1).toNat < (3 - j).toNat := fun y23 bent m h3 h1 h2 hm => by
    unfold law37_RunnerExact_j3
    simp only [Option.bind_some]
    rw [exact37_l4 rfl (fun t ht => by simp only [List.mem_cons, List.not_mem_nil, or_false] at ht; rcases ht with rfl | rfl | rfl <;> assumption) hl]
    simp only [Option.bind_some]
    rw [w64 (by omega) (by omega)]
    exact ⟨_, rfl, ⟨by simp only; omega, by simp only; omega, hm⟩, by simp only; omega⟩
  unfold law37_RunnerExact_l2
  by_cases hj : j < 3
  case neg =>
    right
    simp only
    rw [if_neg (by simpa using hj)]
    exact ⟨_, rfl, _, rfl, g2⟩
  left
  simp only
  rw [if_pos (by simpa using hj), ck_t hj, Option.bind_some, idx_toNat g1 (by omega)]
  simp only [Option.bind_some]
  have ho := h _ (List.getElem_mem (l := ls) (n := j.toNat) (by omega))
  generalize ls[j.toNat]'(by omega) = os at ho ⊢
  obtain ⟨r1, r2⟩ := runA_1 f s l (os := os) (by omega)
  obtain ⟨k1, k2, k3, k4⟩ := runA_ok f s hl os
  unfold ref37_Run ref37_States
  rw [r1, r2, rrunA f s l (by omega)]
  simp only [Option.bind_some]
  generalize runA f s l os = R at k1 k2 k3 k4 ⊢
  obtain ⟨a, b, c, e⟩ := R
  simp only at k1 k2 k3 k4 ⊢
  rw [same_self (by omega), same37 (by omega), all_self (fun r hr => by have := k4 r hr; omega) (by omega)]
  simp only [Option.bind_some]
  rw [if_neg (by simp), if_neg (by simp), if_neg (by simp), if_neg (by simp)]
  simp only [Option.bind_some]
  rw [if_neg (by simp), ck_t (by omega)]
  simp only [Option.bind_some]
  by_cases hb : 0 < b.length
  · rw [if_pos (by simpa using hb)]
    obtain ⟨v, m1, e1, v0, v1, t1⟩ := next_ex g2 (n := (b.length : Int)) (by omega)
    rw [e1]
    simp only [Option.bind_some]
    rw [ck_t ⟨v0, by omega⟩]
    obtain ⟨w, m2, e2, w0, w1, t2⟩ := next_ex t1 (n := 3) (by omega)
    rw [e2]
    simp only [Option.bind_some]
    have hx : idx b v = some (b[v.toNat]'(by omega)) := idx_toNat v0 (by omega)
    rw [hx]
    simp only [Option.bind_some]
    by_cases c0 : w = 0
    · rw [if_pos (by simpa using c0)]
      obtain ⟨u, m3, e3, _, _, t3⟩ := between_ex t2 (a := -1) (b := 5) (by omega) (by omega) (by omega)
      rw [e3]
      exact J (a, b, e) _ m3 hj (by simp only; omega) (by simp; omega) t3
    · rw [if_neg (by simpa using c0)]
      by_cases c1 : w = 1
      · rw [if_pos (by simpa using c1)]
        exact J (a, b, e) _ m2 hj (by simp only; omega) (by simp; omega) t2
      · rw [if_neg (by simpa using c1)]
        obtain ⟨u, m3, e3, _, t3⟩ := make_Step_ex t2 hf
        rw [e3]
        exact J (a, b, e) _ m3 hj (by simp only; omega) (by simp; omega) t3
  · rw [if_neg (by simpa using hb)]
    exact J (a, b, e) _ ⟨L, at_⟩ hj (by simp only; omega) (by omega) g2
theorem exact37_l1 {ls : List (List api_Step)} (h2 : ls.length = 2) (h : ∀ l ∈ ls, l.length ≤ 50) {os : List Int} (hos : os.length ≤ 100) (f : api_Fleet) (s : api_Rotation) {tr : List api_Attempt} (htr : tr.length ≤ 1000) {y3 : api_Fleet × make_Tape} (hf : FleetOk y3.1) {t : make_Tape} (ht : TOk t) :
    ∃ e, iter (law37_RunnerExact_l1 ls os f s tr y3) (0, t.L, t.at_) = some e ∧ ∃ v, e = .inl v ∧ TOk ⟨v.1, v.2⟩ := by
  refine iter_ex (body := law37_RunnerExact_l1 ls os f s tr y3) (fun q : Int × List Int × Int => 0 ≤ q.1 ∧ q.1 ≤ 2 ∧ TOk ⟨q.2.1, q.2.2⟩) (fun q => (2 - q.1).toNat) _ ?_ ⟨by simp, by simp, ht⟩
  rintro ⟨j, L, at_⟩ ⟨g1, g0, g2⟩
  simp only at g1 g0 g2 ⊢
  unfold law37_RunnerExact_l1
  by_cases hj : j < 2
  case neg =>
    right
    simp only
    rw [if_neg (by simpa using hj)]
    exact ⟨_, rfl, _, rfl, g2⟩
  left
  simp only
  rw [if_pos (by simpa using hj), ck_t hj, Option.bind_some, idx_toNat g1 (by omega)]
  simp only [Option.bind_some]
  have hl := h _ (List.getElem_mem (l := ls) (n := j.toNat) (by omega))
  generalize ls[j.toNat]'(by omega) = l at hl ⊢
  obtain ⟨o, m1, e1, _, ol, t1⟩ := outcomes_ex g2 (n := 20) (by omega) (by omega)
  rw [e1]
  simp only [Option.bind_some]
  obtain ⟨e, he, v, rfl, t2⟩ := exact37_l2 (ls := [os, o, [1, 3, 1, 1, 3, 1, 3, 1]]) rfl (fun q hq => by
    simp only [List.mem_cons, List.not_mem_nil, or_false] at hq
    rcases hq with rfl | rfl | rfl
    · omega
    · omega
    · simp) f s hl htr hf t1
  rw [he]
  simp only [Option.bind_some]
  rw [w64 (by omega) (by omega)]
  exact ⟨_, rfl, ⟨by simp only; omega, by simp only; omega, t2⟩, by simp only; omega⟩
theorem exact37_l0 {l6 : List api_Fleet} (h6 : l6.length = 3) {y4 : api_Rotation × make_Tape} (a2 : api_Rotation) {y5 : (List api_Step) × make_Tape} (h5 : y5.1.length ≤ 50) {a3 : List api_Step} (h3 : a3.length ≤ 50) {a4 : List Int} (h4 : a4.length ≤ 100) {a5 : List api_Attempt} (ha5 : a5.length ≤ 1000) {y3 : api_Fleet × make_Tape} (hf : FleetOk y3.1) {t : make_Tape} (ht : TOk t) :
    ∃ e, iter (law37_RunnerExact_l0 l6 y4 a2 y5 a3 a4 a5 y3) (0, t.L, t.at_) = some e ∧ e = .inl () := by
  refine iter_ex (body := law37_RunnerExact_l0 l6 y4 a2 y5 a3 a4 a5 y3) (fun q : Int × List Int × Int => 0 ≤ q.1 ∧ q.1 ≤ 3 ∧ TOk ⟨q.2.1, q.2.2⟩) (fun q => (3 - q.1).toNat) _ ?_ ⟨by simp, by simp, ht⟩
  rintro ⟨j, L, at_⟩ ⟨g1, g0, g2⟩
  simp only at g1 g0 g2 ⊢
  unfold law37_RunnerExact_l0
  by_cases hj : j < 3
  case neg =>
    right
    simp only
    rw [if_neg (by simpa using hj)]
    exact ⟨_, rfl, rfl⟩
  left
  simp only
  rw [if_pos (by simpa using hj), ck_t hj, Option.bind_some, idx_toNat g1 (by omega)]
  simp only [Option.bind_some]
  rw [idx_toNat g1 (by simp; omega)]
  simp only [Option.bind_some]
  obtain ⟨e, he, v, rfl, t2⟩ := exact37_l1 (ls := [y5.1, a3]) rfl (fun q hq => by
    simp only [List.mem_cons, List.not_mem_nil, or_false] at hq
    rcases hq with rfl | rfl <;> assumption) h4 (l6[j.toNat]'(by omega)) ([y4.1, a2, a2][j.toNat]'(by simp; omega)) ha5 hf g2
  have he' : iter (law37_RunnerExact_l1 [y5.1, a3] a4 (l6[j.toNat]'(by omega)) ([y4.1, a2, a2][j.toNat]'(by simp; omega)) a5 y3) (0, L, at_) = some (Sum.inl v) := he
  rw [he']
  simp only [Option.bind_some]
  rw [w64 (by omega) (by omega)]
  exact ⟨_, rfl, ⟨by simp only; omega, by simp only; omega, t2⟩, by simp only; omega⟩
theorem RunnerExact_law (a : List Int) (f0 : api_Fleet) (s0 : api_Rotation) (l0 : List api_Step) (o0 : List Int) (tr0 : List api_Attempt) : law37_RunnerExact a f0 s0 l0 o0 tr0 = some true := by
  unfold law37_RunnerExact
  simp only [Option.bind_some]
  by_cases h : 300 < (a.length : Int) ∨ 10 < (f0.Consumers.length : Int) ∨ 10 < (s0.Units.length : Int) ∨ 20 < (l0.length : Int) ∨ 60 < (o0.length : Int) ∨ 30 < (tr0.length : Int)
  · rw [if_pos (by simpa using h), awake37]; rfl
  rw [if_neg (by simpa using h)]
  obtain ⟨f, m1, e1, hf, _, _, t1⟩ := make_Fleet_ex (tape0 (a := a) (by omega)) (most := 3) (by omega) (by omega)
  rw [e1]
  simp only [Option.bind_some]
  obtain ⟨s, m2, e2, hs, t2⟩ := make_State_ex t1 hf
  rw [e2]
  simp only [Option.bind_some]
  obtain ⟨l, m4, e4, hll, hlk, t4⟩ := make_Steps_ex t2 hf hs (n := 8) (by omega)
  rw [e4]
  simp only [Option.bind_some]
  obtain ⟨e, he, rfl⟩ := exact37_l0 (l6 := [f, f0, f]) rfl (y4 := (s, m2)) s0 (y5 := (l, m4)) (by simp only; omega) (a3 := l0) (by omega) (a4 := o0) (by omega) (a5 := tr0) (by omega) (y3 := (f, m1)) hf t4
  rw [he]
  simp only [Option.bind_some, awake37]
end Go.Vl
