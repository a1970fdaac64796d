/- Plain laws of runs: each step is tried at most six times, and done by its last attempt alone. Conditions: none. -/
import Derived.Test.YtclmnpkhopioiaaRxZ
set_option linter.unusedSimpArgs false
set_option linter.unusedVariables false
namespace Go.Vl
open Go

def chkR (l : List api_Step) : List api_Attempt → Nat → Nat → Nat → Nat → Prop
  | [], i, c, i', c' => i = i' ∧ c = c'
  | a :: r, i, c, i', c' => l[i]? = some a.Step ∧ c + 1 ≤ 6 ∧ (if a.There = true then chkR l r (i + 1) 0 i' c' else chkR l r i (c + 1) i' c')
theorem chk_append {l : List api_Step} {b : List api_Attempt} {i1 c1 i2 c2 : Nat} : ∀ (a : List api_Attempt) (i c : Nat), chkR l a i c i1 c1 → chkR l b i1 c1 i2 c2 → chkR l (a ++ b) i c i2 c2 := fun a => by
  induction a with
  | nil => intro i c h1 h2; obtain ⟨rfl, rfl⟩ := h1; exact h2
  | cons x a ih =>
    intro i c h1 h2
    obtain ⟨e1, e2, e3⟩ := h1
    refine ⟨e1, e2, ?_⟩
    by_cases ht : x.There = true
    · rw [if_pos ht] at e3 ⊢; exact ih _ _ e3 h2
    · rw [if_neg ht] at e3 ⊢; exact ih _ _ e3 h2
theorem try_chk {l : List api_Step} {x : api_Step} {s n : api_Rotation} {os : List Int} {i : Nat} (hx : l[i]? = some x) : ∀ (k c : Nat) (t : List api_Attempt) (st : List api_Rotation), c + k = 6 →
    ∃ blk, (tryP x s n os k t st).2.1 = t ++ blk ∧ ((tryP x s n os k t st).1 = true → chkR l blk i c (i + 1) 0) ∧ ((tryP x s n os k t st).1 ≠ true → chkR l blk i c i 6) := fun k => by
  induction k with
  | zero =>
    intro c t st h
    refine ⟨[], by simp [tryP], ?_, fun _ => ⟨rfl, by omega⟩⟩
    intro h1
    simp [tryP] at h1
  | succ k ih =>
    intro c t st h
    rw [tryP_eq]
    by_cases ht : thereP (nextO os t) = true
    · rw [if_pos ht]
      refine ⟨_, rfl, fun _ => ⟨hx, by omega, ?_⟩, fun h => absurd rfl h⟩
      rw [if_pos ht]; exact ⟨rfl, rfl⟩
    · rw [if_neg ht]
      obtain ⟨blk, e1, e2, e3⟩ := ih (c + 1) (t ++ [⟨x, nextO os t, thereP (nextO os t)⟩]) ((if nextO os t = 4 then st ++ [n] else st) ++ [s]) (by omega)
      refine ⟨⟨x, nextO os t, thereP (nextO os t)⟩ :: blk, by rw [e1]; simp, fun h => ⟨hx, by omega, ?_⟩, fun h => ⟨hx, by omega, ?_⟩⟩
      · rw [if_neg ht]; exact e2 h
      · rw [if_neg ht]; exact e3 h
theorem run_chk {f : api_Fleet} {os : List Int} {l : List api_Step} : ∀ (m i : Nat) (s : api_Rotation) (t : List api_Attempt) (st : List api_Rotation), i + m = l.length → safeRun f s (l.drop i) →
    ∃ blk, (runT f os (l.drop i) s t st).1.2.1 = t ++ blk ∧ (((runT f os (l.drop i) s t st).2 = 0 ∧ chkR l blk i 0 l.length 0) ∨ ((runT f os (l.drop i) s t st).2 = 40 ∧ ∃ i', chkR l blk i 0 i' 6)) := fun m => by
  induction m with
  | zero =>
    intro i s t st h hs
    have : i = l.length := by omega
    subst this
    rw [List.drop_length]
    exact ⟨[], by simp [runT], .inl ⟨rfl, rfl, rfl⟩⟩
  | succ m ih =>
    intro i s t st h hs
    have hi : i < l.length := by omega
    rw [List.drop_eq_getElem_cons hi] at hs ⊢
    have h0 := safe_possible hs.1
    rw [runT_eq, if_neg (not_not_intro h0)]
    obtain ⟨b1, e1, e2, e3⟩ := try_chk (l := l) (x := l[i]) (s := s) (n := (applyP f s l[i]).1) (os := os) (i := i) (List.getElem?_eq_getElem hi) 6 0 t st rfl
    by_cases ht : (tryP l[i] s (applyP f s l[i]).1 os 6 t st).1 = true
    · rw [if_pos ht]
      obtain ⟨b2, e4, e5⟩ := ih (i + 1) (applyP f s l[i]).1 (tryP l[i] s (applyP f s l[i]).1 os 6 t st).2.1 (tryP l[i] s (applyP f s l[i]).1 os 6 t st).2.2 (by omega) hs.2
      refine ⟨b1 ++ b2, by rw [e4, e1, List.append_assoc], ?_⟩
      rcases e5 with ⟨e5, e6⟩ | ⟨e5, i', e6⟩
      · exact .inl ⟨e5, chk_append _ _ _ (e2 ht) e6⟩
      · exact .inr ⟨e5, i', chk_append _ _ _ (e2 ht) e6⟩
    · rw [if_neg ht]
      exact ⟨b1, e1, .inr ⟨rfl, i, e3 ht⟩⟩
theorem tries_loop {r : api_Rotation} {tr : List api_Attempt} {e : Int} {l : List api_Step} {m : make_Tape} (htr : tr.length ≤ 100000) (hl : l.length ≤ 1000) {i' c' : Nat} : ∀ (n k i c : Nat), k + n = tr.length → i ≤ k → chkR l (tr.drop k) i c i' c' →
    iter (law37_RunnerTries_l0 (r, tr, e) (l, m)) ((i : Int), (c : Int), (k : Int)) = some (.inl ((i' : Int), (c' : Int))) := fun n => by
  induction n with
  | zero =>
    intro k i c h _ hc
    have : k = tr.length := by omega
    subst this
    rw [List.drop_length] at hc
    obtain ⟨rfl, rfl⟩ := hc
    refine iter_out ?_
    unfold law37_RunnerTries_l0
    rw [if_neg (by simp)]
  | succ n ih =>
    intro k i c h hik hc
    have hk : k < tr.length := by omega
    rw [List.drop_eq_getElem_cons hk] at hc
    obtain ⟨h1, h2, h3⟩ := hc
    have hi : i < l.length := by
      apply Decidable.byContradiction
      intro hn
      rw [List.getElem?_eq_none (by omega)] at h1; cases h1
    rw [List.getElem?_eq_getElem hi, Option.some.injEq] at h1
    have hA : law37_RunnerTries_l0 (r, tr, e) (l, m) ((i : Int), (c : Int), (k : Int)) = some (.go (if tr[k].There = true then (((i + 1 : Nat) : Int), ((0 : Nat) : Int), ((k + 1 : Nat) : Int)) else ((i : Int), ((c + 1 : Nat) : Int), ((k + 1 : Nat) : Int)))) := by
      unfold law37_RunnerTries_l0
      simp only
      rw [if_pos (by simp; omega), idx_lt hk]
      simp only [Option.bind_some]
      rw [if_neg (by simp; omega), idx_lt hi]
      simp only [Option.bind_some]
      rw [h1, if_neg (by simp), w64 (x := (c : Int) + 1) (by omega) (by omega), if_neg (by simp; omega), w64 (x := (i : Int) + 1) (by omega) (by omega), w64 (x := (k : Int) + 1) (by omega) (by omega)]
      by_cases ht : tr[k].There = true
      · rw [if_pos ht, if_pos ht]; rfl
      · rw [if_neg ht, if_neg ht]; rfl
    rw [iter_go hA]
    by_cases ht : tr[k].There = true
    · rw [if_pos ht] at h3 ⊢
      exact ih (k + 1) (i + 1) 0 (by omega) (by omega) h3
    · rw [if_neg ht] at h3 ⊢
      exact ih (k + 1) i (c + 1) (by omega) (by omega) h3
theorem outcomes_ex {m : make_Tape} (h : TOk m) {n : Int} (h0 : 0 ≤ n) (hn : n ≤ 1000) : ∃ os m', make_Outcomes m n = some (os, m') ∧ outOk os ∧ os.length ≤ 1000 ∧ TOk m' := by
  unfold make_Outcomes
  rw [w64 (by omega) (by omega)]
  obtain ⟨v, m1, e1, v1, v2, t1⟩ := next_ex h (n := n + 1) (by omega)
  rw [e1]
  simp only [Option.bind_some]
  have key : ∃ e, iter make_Outcomes_l0 (v, m1.L, m1.at_, []) = some e ∧ (TOk ⟨e.1, e.2.1⟩ ∧ outOk e.2.2 ∧ e.2.2.length ≤ 1000) := by
    refine iter_ex (body := make_Outcomes_l0) (fun q : SO => 0 ≤ q.1 ∧ q.1 ≤ 1000 ∧ TOk ⟨q.2.1, q.2.2.1⟩ ∧ outOk q.2.2.2 ∧ (q.2.2.2.length : Int) + q.1 ≤ 1000) (fun q => q.1.toNat) _ ?_ ⟨by simp only; omega, by simp only; omega, t1, mute_out muteNil, by simp; omega⟩
    rintro ⟨j, L, at_, os⟩ ⟨g1, g0, g2, g3, g4⟩
    simp only at g1 g0 g2 g3 g4 ⊢
    unfold make_Outcomes_l0
    by_cases hj : 0 < j
    · left
      simp only
      obtain ⟨v, m2, e2, v1, t2⟩ := pick_ex g2 (l := [0, 0, 1, 2, 3, 4, 0]) (by simp) (by simp)
      rw [if_pos (by simpa using hj), e2]
      simp only [Option.bind_some]
      rw [ck_t (by simp; omega), w64 (by omega) (by omega)]
      refine ⟨_, rfl, ⟨by simp only; omega, by simp only; omega, t2, fun o ho => ?_, by simp; omega⟩, by simp; omega⟩
      rcases List.mem_append.1 ho with ho | ho
      · exact g3 o ho
      · rw [List.mem_singleton] at ho; subst ho; simp at v1; omega
    · right
      simp only
      rw [if_neg (by simpa using hj)]
      exact ⟨_, rfl, g2, g3, by simp only; omega⟩
  obtain ⟨e, he, t, ho, hl⟩ := key
  rw [he]
  exact ⟨_, _, rfl, ho, hl, t⟩
theorem runT_len {f : api_Fleet} {os : List Int} : ∀ (l : List api_Step) (s : api_Rotation) (t : List api_Attempt) (st : List api_Rotation), (runT f os l s t st).1.2.1.length ≤ t.length + 6 * l.length ∧ (runT f os l s t st).1.2.2.length ≤ st.length + 12 * l.length := fun l => by
  induction l with
  | nil => intro s t st; exact ⟨Nat.le_refl _, Nat.le_refl _⟩
  | cons x l ih =>
    intro s t st
    rw [runT_eq]
    have hq := tryP_len x s (applyP f s x).1 os 6 t st
    by_cases h0 : (applyP f s x).2 = 0
    · rw [if_neg (not_not_intro h0)]
      by_cases ht : (tryP x s (applyP f s x).1 os 6 t st).1 = true
      · rw [if_pos ht]
        have := ih (applyP f s x).1 (tryP x s (applyP f s x).1 os 6 t st).2.1 (tryP x s (applyP f s x).1 os 6 t st).2.2
        simp only [List.length_cons]; omega
      · rw [if_neg ht]; simp only [List.length_cons]; omega
    · rw [if_pos h0]; simp only [List.length_cons]; omega
theorem RunnerTries_law (a : List Int) : law37_RunnerTries a = some true := by
  unfold law37_RunnerTries
  by_cases h : 300 < (a.length : Int)
  · rw [if_pos (by simpa using h), awake37]; rfl
  rw [if_neg (by simpa using h)]
  obtain ⟨f, m1, e1, hf, _, _, t1⟩ := make_Fleet_ex (tape0 h) (most := 4) (by omega) (by omega)
  rw [e1]
  simp only [Option.bind_some]
  obtain ⟨s, m2, e2, hs, t2⟩ := make_State_ex t1 hf
  rw [e2]
  simp only [Option.bind_some]
  obtain ⟨l, m4, e4, hll, hlk, t4⟩ := make_SafeSteps_ex t2 hs (n := 6) (by omega)
  rw [e4]
  simp only [Option.bind_some]
  have hl8 : l.length ≤ 6 := by omega
  obtain ⟨os, m5, e5, ho, hol, t5⟩ := outcomes_ex t4 (n := 30) (by omega) (by omega)
  rw [e5]
  simp only [Option.bind_some]
  rw [Run_sp hs (by omega) ho (by omega), Run_sp hs (by omega) (mute_out muteNil) (by simp)]
  simp only [Option.bind_some]
  obtain ⟨ta, ea, la⟩ := mute_run muteNil l s [] [s] hlk
  rw [ea]
  have hlen := (runT_len (f := f) (os := os) l s [] [s]).1
  obtain ⟨blk, c1, c2⟩ := run_chk (f := f) (os := os) (l := l) l.length 0 s [] [s] (by omega) hlk
  rw [List.drop_zero, List.nil_append] at c1
  rw [List.drop_zero] at c2
  have hla : ta.length = l.length := by simpa using la
  simp only [List.length_nil] at hlen
  rcases c2 with ⟨c2, c3⟩ | ⟨c2, i', c3⟩
  · have := tries_loop (r := (runT f os l s [] [s]).1.1) (tr := (runT f os l s [] [s]).1.2.1) (e := (runT f os l s [] [s]).2) (l := l) (m := m4) (by omega) (by omega) (runT f os l s [] [s]).1.2.1.length 0 0 0 (by omega) (Nat.le_refl _) (by rw [List.drop_zero, c1]; exact c3)
    rw [show ((0 : Int), (0 : Int), (0 : Int)) = (((0 : Nat) : Int), ((0 : Nat) : Int), ((0 : Nat) : Int)) from rfl, this]
    simp only [Option.bind_some, c2]
    rw [if_neg (by simp), if_pos (by simp), if_pos (by simp [hla]), awake37]; rfl
  · have := tries_loop (r := (runT f os l s [] [s]).1.1) (tr := (runT f os l s [] [s]).1.2.1) (e := (runT f os l s [] [s]).2) (l := l) (m := m4) (by omega) (by omega) (runT f os l s [] [s]).1.2.1.length 0 0 0 (by omega) (Nat.le_refl _) (by rw [List.drop_zero, c1]; exact c3)
    rw [show ((0 : Int), (0 : Int), (0 : Int)) = (((0 : Nat) : Int), ((0 : Nat) : Int), ((0 : Nat) : Int)) from rfl, this]
    simp only [Option.bind_some, c2]
    rw [if_neg (by simp), if_pos (by simp), if_pos (by simp [hla]), awake37]; rfl
end Go.Vl
