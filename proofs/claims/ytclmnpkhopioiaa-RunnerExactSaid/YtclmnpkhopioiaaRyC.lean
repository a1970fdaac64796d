/- Plain laws of runs: what is left of a run leads to the same end. Conditions: none. -/
import Derived.Test.YtclmnpkhopioiaaRyB
set_option linter.unusedSimpArgs false
set_option linter.unusedVariables false
namespace Go.Vl
open Go

def attOk (a : api_Attempt) : Prop := 0 ≤ a.Outcome ∧ a.Outcome ≤ 4 ∧ a.There = thereP a.Outcome
theorem nextO_ok {os : List Int} (ho : outOk os) (t : List api_Attempt) : 0 ≤ nextO os t ∧ nextO os t ≤ 4 := by
  unfold nextO
  by_cases hl : t.length < os.length
  · have : os.getD t.length 0 = os[t.length] := by simp [List.getD, hl]
    rw [this]; exact ho _ (List.getElem_mem hl)
  · have : os.getD t.length 0 = 0 := by simp [List.getD, hl]
    rw [this]; omega
theorem try_att {x : api_Step} {s n : api_Rotation} {os : List Int} (ho : outOk os) : ∀ (k : Nat) (t : List api_Attempt) (st : List api_Rotation), (∀ a ∈ t, attOk a) → ∀ a ∈ (tryP x s n os k t st).2.1, attOk a := fun k => by
  induction k with
  | zero => intro t st h; exact h
  | succ k ih =>
    intro t st h
    have h2 : ∀ a ∈ t ++ [⟨x, nextO os t, thereP (nextO os t)⟩], attOk a := fun a ha => by
      rcases List.mem_append.1 ha with ha | ha
      · exact h a ha
      · rw [List.mem_singleton] at ha; subst ha; exact ⟨(nextO_ok ho t).1, (nextO_ok ho t).2, rfl⟩
    rw [tryP_eq]
    by_cases ht : thereP (nextO os t) = true
    · rw [if_pos ht]; exact h2
    · rw [if_neg ht]; exact ih _ _ h2
theorem run_att {f : api_Fleet} {os : List Int} (ho : outOk os) : ∀ (l : List api_Step) (s : api_Rotation) (t : List api_Attempt) (st : List api_Rotation), (∀ a ∈ t, attOk a) → ∀ a ∈ (runT f os l s t st).1.2.1, attOk a := fun l => by
  induction l with
  | nil => intro s t st h; exact h
  | cons x l ih =>
    intro s t st h
    rw [runT_eq]
    by_cases h0 : (applyP f s x).2 = 0
    · rw [if_neg (not_not_intro h0)]
      by_cases ht : (tryP x s (applyP f s x).1 os 6 t st).1 = true
      · rw [if_pos ht]; exact ih _ _ _ (try_att ho 6 t st h)
      · rw [if_neg ht]; exact try_att ho 6 t st h
    · rw [if_pos h0]; exact h
theorem run_left {f : api_Fleet} {os : List Int} {l : List api_Step} : ∀ (m i : Nat) (s : api_Rotation) (t : List api_Attempt) (st : List api_Rotation), i + m = l.length → RightOk f s → safeRun f s (l.drop i) →
    ∃ blk i' c', (runT f os (l.drop i) s t st).1.2.1 = t ++ blk ∧ chkR l blk i 0 i' c' ∧ i' ≤ l.length ∧ RightOk f (runT f os (l.drop i) s t st).1.1 ∧ safeRun f (runT f os (l.drop i) s t st).1.1 (l.drop i') ∧
      endS f (runT f os (l.drop i) s t st).1.1 (l.drop i') = endS f s (l.drop i) ∧ (((runT f os (l.drop i) s t st).2 = 0 ∧ i' = l.length) ∨ ((runT f os (l.drop i) s t st).2 = 40 ∧ i' < l.length)) := fun m => by
  induction m with
  | zero =>
    intro i s t st h hr hs
    have : i = l.length := by omega
    subst this
    refine ⟨[], l.length, 0, ?_, ⟨rfl, rfl⟩, Nat.le_refl _, ?_⟩
    · rw [List.drop_length]; simp [runT]
    · rw [List.drop_length]; exact ⟨hr, trivial, rfl, .inl ⟨rfl, rfl⟩⟩
  | succ m ih =>
    intro i s t st h hr hs
    have hi : i < l.length := by omega
    have hd := List.drop_eq_getElem_cons hi
    have hs0 := hs
    rw [hd] at hs ⊢
    have h0 := safe_possible hs.1
    rw [runT_eq, if_neg (not_not_intro h0)]
    obtain ⟨b1, e1, e2, e3⟩ := try_chk (l := l) (x := l[i]) (s := s) (n := (applyP f s l[i]).1) (os := os) (i := i) (List.getElem?_eq_getElem hi) 6 0 t st rfl
    by_cases ht : (tryP l[i] s (applyP f s l[i]).1 os 6 t st).1 = true
    · rw [if_pos ht]
      obtain ⟨b2, i', c', e4, e5, e6, e7, e8, e9, e10⟩ := ih (i + 1) (applyP f s l[i]).1 (tryP l[i] s (applyP f s l[i]).1 os 6 t st).2.1 (tryP l[i] s (applyP f s l[i]).1 os 6 t st).2.2 (by omega) (apply_right hr h0).1 hs.2
      exact ⟨b1 ++ b2, i', c', by rw [e4, e1, List.append_assoc], chk_append _ _ _ (e2 ht) e5, e6, e7, e8, e9, e10⟩
    · rw [if_neg ht]
      exact ⟨b1, i, 6, e1, e3 ht, by omega, hr, hs0, by rw [hd], .inr ⟨rfl, hi⟩⟩
theorem left_l0 {tr : List api_Attempt} (hl : tr.length ≤ 100000) (h : ∀ a ∈ tr, attOk a) : iter (runner_Left_l0 tr) 0 = some (.inl ()) := by
  have := iter_find (body := runner_Left_l0 tr) tr (fun _ => false) (Sum.inl ()) (Sum.inl ()) (fun i hi => ?_) ?_
  · rw [this]; simp
  · obtain ⟨h1, h2, h3⟩ := h _ (List.getElem_mem hi)
    unfold runner_Left_l0
    rw [if_pos (by simp; omega), idx_lt hi, w64 (by omega) (by omega)]
    simp only [Option.bind_some, runner_outcome, there_sp]
    rw [if_neg (by simp; omega)]
    simp only [Option.bind_some]
    rw [h3, if_neg (by simp), if_neg (by simp)]; rfl
  · unfold runner_Left_l0
    rw [if_neg (by simp)]
theorem left_l1 {tr : List api_Attempt} {l : List api_Step} (htr : tr.length ≤ 100000) (hl : l.length ≤ 1000) {i' c' : Nat} : ∀ (n k i c : Nat), k + n = tr.length → i ≤ k → chkR l (tr.drop k) i c i' c' →
    iter (runner_Left_l1 tr l) ((i : Int), (k : Int)) = some (.inl (i' : Int)) := fun n => by
  induction n with
  | zero =>
    intro k i c h _ hc
    have : k = tr.length := by omega
    subst this
    rw [List.drop_length] at hc
    obtain ⟨rfl, rfl⟩ := hc
    refine iter_out ?_
    unfold runner_Left_l1
    rw [if_neg (by simp)]
  | succ n ih =>
    intro k i c h hik hc
    have hk : k < tr.length := by omega
    rw [List.drop_eq_getElem_cons hk] at hc
    obtain ⟨h1, h2, h3⟩ := hc
    have hi : i < l.length := by
      apply Decidable.byContradiction
      intro hn
      rw [List.getElem?_eq_none (by omega)] at h1; cases h1
    rw [List.getElem?_eq_getElem hi, Option.some.injEq] at h1
    have hA : runner_Left_l1 tr l ((i : Int), (k : Int)) = some (.go (if tr[k].There = true then (((i + 1 : Nat) : Int), ((k + 1 : Nat) : Int)) else ((i : Int), ((k + 1 : Nat) : Int)))) := by
      unfold runner_Left_l1
      simp only
      rw [if_pos (by simp; omega), idx_lt hk]
      simp only [Option.bind_some]
      rw [if_neg (by simp; omega), idx_lt hi]
      simp only [Option.bind_some]
      rw [h1, if_neg (by simp), w64 (x := (i : Int) + 1) (by omega) (by omega), w64 (x := (k : Int) + 1) (by omega) (by omega)]
      by_cases ht : tr[k].There = true
      · rw [if_pos ht, if_pos ht]; rfl
      · rw [if_neg ht, if_neg ht]; rfl
    rw [iter_go hA]
    by_cases ht : tr[k].There = true
    · rw [if_pos ht] at h3 ⊢
      exact ih (k + 1) (i + 1) 0 (by omega) (by omega) h3
    · rw [if_neg ht] at h3 ⊢
      exact ih (k + 1) i (c + 1) (by omega) (by omega) h3
theorem left_sp {tr : List api_Attempt} {l : List api_Step} (htr : tr.length ≤ 100000) (hl : l.length ≤ 1000) (h : ∀ a ∈ tr, attOk a) {i' c' : Nat} (hi : i' ≤ l.length) (hc : chkR l tr 0 0 i' c') : runner_Left l tr = some (l.drop i', 0) := by
  unfold runner_Left
  rw [left_l0 htr h]
  simp only [Option.bind_some]
  have := left_l1 htr hl tr.length 0 0 0 (by omega) (Nat.le_refl _) (by rw [List.drop_zero]; exact hc)
  rw [show ((0 : Int), (0 : Int)) = (((0 : Nat) : Int), ((0 : Nat) : Int)) from rfl, this]
  simp only [Option.bind_some]
  rw [ck_t (by omega)]
  simp only [Option.bind_some, slices_Clone_api_Step]
  rw [ck_t (by simp; omega)]
  rfl
theorem left_o0 {t : make_Tape} (ht : TOk t) {n : Int} (h0 : 0 ≤ n) (hn : n ≤ 500) : ∃ e, iter law37_RunnerLeft_l0 (n, t.L, t.at_, []) = some e ∧ (TOk ⟨e.1, e.2.1⟩ ∧ outOk e.2.2 ∧ e.2.2.length ≤ 500) := by
  refine iter_ex (body := law37_RunnerLeft_l0) (fun q : SO => 0 ≤ q.1 ∧ q.1 ≤ 500 ∧ TOk ⟨q.2.1, q.2.2.1⟩ ∧ outOk q.2.2.2 ∧ (q.2.2.2.length : Int) + q.1 ≤ 500) (fun q => q.1.toNat) _ ?_ ⟨by simp only; omega, by simp only; omega, ht, mute_out muteNil, by simp; omega⟩
  rintro ⟨j, L, at_, os⟩ ⟨g1, g0, g2, g3, g4⟩
  simp only at g1 g0 g2 g3 g4 ⊢
  unfold law37_RunnerLeft_l0
  by_cases hj : 0 < j
  · left
    simp only
    obtain ⟨v, m2, e2, v1, t2⟩ := pick_ex g2 (l := [0, 2, 3]) (by simp) (by simp)
    rw [if_pos (by simpa using hj), e2]
    simp only [Option.bind_some]
    rw [ck_t (by simp; omega), w64 (by omega) (by omega)]
    refine ⟨_, rfl, ⟨by simp only; omega, by simp only; omega, t2, fun o ho => ?_, by simp; omega⟩, by simp; omega⟩
    rcases List.mem_append.1 ho with ho | ho
    · exact g3 o ho
    · rw [List.mem_singleton] at ho; subst ho; simp at v1; omega
  · right
    simp only
    rw [if_neg (by simpa using hj)]
    exact ⟨_, rfl, g2, g3, by simp only; omega⟩
theorem left_o1 {t : make_Tape} (ht : TOk t) {os : List Int} (ho : outOk os) (hl : os.length ≤ 500) : ∃ e, iter law37_RunnerLeft_l1 (0, t.L, t.at_, os) = some e ∧ (outOk e ∧ e.length ≤ 600) := by
  refine iter_ex (body := law37_RunnerLeft_l1) (fun q : SO => 0 ≤ q.1 ∧ q.1 ≤ 6 ∧ TOk ⟨q.2.1, q.2.2.1⟩ ∧ outOk q.2.2.2 ∧ (q.2.2.2.length : Int) ≤ 500 + q.1) (fun q => (6 - q.1).toNat) _ ?_ ⟨by simp only; omega, by simp only; omega, ht, ho, by simp only; omega⟩
  rintro ⟨j, L, at_, os⟩ ⟨g1, g0, g2, g3, g4⟩
  simp only at g1 g0 g2 g3 g4 ⊢
  unfold law37_RunnerLeft_l1
  by_cases hj : j < 6
  · left
    simp only
    obtain ⟨v, m2, e2, v1, t2⟩ := pick_ex g2 (l := [1, 4]) (by simp) (by simp)
    rw [if_pos (by simpa using hj), e2]
    simp only [Option.bind_some]
    rw [ck_t (by simp; omega), w64 (by omega) (by omega)]
    refine ⟨_, rfl, ⟨by simp only; omega, by simp only; omega, t2, fun o ho => ?_, by simp; omega⟩, by simp; omega⟩
    rcases List.mem_append.1 ho with ho | ho
    · exact g3 o ho
    · rw [List.mem_singleton] at ho; subst ho; simp at v1; omega
  · right
    simp only
    rw [if_neg (by simpa using hj)]
    exact ⟨_, rfl, g3, by omega⟩
theorem RunnerLeft_law (a : List Int) : law37_RunnerLeft a = some true := by
  unfold law37_RunnerLeft
  by_cases h : 300 < (a.length : Int)
  · rw [if_pos (by simpa using h), awake37]; rfl
  rw [if_neg (by simpa using h)]
  obtain ⟨f, m1, e1, hf, _, _, t1⟩ := make_Fleet_ex (tape0 h) (most := 4) (by omega) (by omega)
  rw [e1]
  simp only [Option.bind_some]
  obtain ⟨s, m2, e2, hs, t2⟩ := make_State_ex t1 hf
  rw [e2]
  simp only [Option.bind_some]
  obtain ⟨l, m4, e4, hll, hlk, t4⟩ := make_SafeSteps_ex t2 hs (n := 6) (by omega)
  rw [e4]
  simp only [Option.bind_some]
  have hl8 : l.length ≤ 6 := by omega
  rw [w64 (by omega) (by omega)]
  obtain ⟨v, m5, e5, v1, v2, t5⟩ := next_ex t4 (n := (l.length : Int) + 1) (by omega)
  rw [e5]
  simp only [Option.bind_some]
  obtain ⟨o0, e6, t6, ho0, hl0⟩ := left_o0 t5 v1 (by omega)
  rw [e6]
  simp only [Option.bind_some]
  obtain ⟨os, e7, ho, hol⟩ := left_o1 (t := ⟨o0.1, o0.2.1⟩) t6 ho0 hl0
  rw [e7]
  simp only [Option.bind_some]
  rw [Run_sp hs (by omega) ho (by omega)]
  obtain ⟨n1, _⟩ := runT_len (f := f) (os := os) l s [] [s]
  have hat := run_att (f := f) ho l s [] [s] (fun a h => by cases h)
  obtain ⟨blk, i', c', c1, c2, c3, c4, c5, c6, c7⟩ := run_left (f := f) (os := os) (l := l) l.length 0 s [] [s] (by omega) hs hlk
  rw [List.drop_zero] at c1 c4 c5 c6 c7
  generalize runT f os l s [] [s] = R at n1 hat c1 c4 c5 c6 c7 ⊢
  obtain ⟨⟨s', tr, sts⟩, e⟩ := R
  simp only [List.nil_append, List.length_nil] at n1 hat c1 c4 c5 c6 c7 ⊢
  subst c1
  simp only [Option.bind_some]
  rw [left_sp (by omega) (by omega) hat c3 c2]
  simp only [Option.bind_some]
  rw [if_neg (by
    rcases c7 with ⟨h1, h2⟩ | ⟨h1, h2⟩
    · simp [h1, h2]
    · simp [h1]; omega), Run_sp c4 (by simp; omega) (mute_out muteNil) (by simp), rrun2_sp hs (by omega)]
  obtain ⟨ta, ea, _⟩ := mute_run muteNil (l.drop i') s' [] [s'] c5
  rw [ea]
  obtain ⟨q1, q2, q3⟩ := safeRun_run l s hs hlk
  obtain ⟨q4, q5⟩ := runP_right l s hs q1
  simp only [Option.bind_some]
  rw [if_neg (by simp [q1]), c6]
  have l8 := q2.len
  have hj : ∀ (e : Int) (x : List api_Attempt), law37_RunnerLeft_j2 (endS f s l, x, e) ((endS f s l).Known, (endS f s l).Valid, (endS f s l).Units) = some true := fun e x => by
    unfold law37_RunnerLeft_j2
    simp only
    rw [show (⟨(endS f s l).Known, (endS f s l).Valid, (endS f s l).Units⟩ : api_Rotation) = endS f s l from rfl, same_self (by omega)]
    simp only [Option.bind_some, if_true, awake37]
  by_cases h0 : 0 < (runP f s l).1.length
  · rw [if_pos (by simpa using h0)]
    have hlast := endS_last l s [] hs hlk
    have hx : (runP f s l).1.getLast? = some (endS f s l) := by
      rw [List.nil_append] at hlast
      cases hc : (runP f s l).1 with
      | nil => rw [hc] at h0; simp at h0
      | cons y r =>
        rw [hc] at hlast
        simpa using hlast
    obtain ⟨k1, k2, k3⟩ := idx_last hx (by omega)
    rw [k2, k3]
    simp only [Option.bind_some]
    exact hj _ _
  · rw [if_neg (by simpa using h0)]
    have : l = [] := List.eq_nil_of_length_eq_zero (by omega)
    subst this
    exact hj _ _
end Go.Vl
