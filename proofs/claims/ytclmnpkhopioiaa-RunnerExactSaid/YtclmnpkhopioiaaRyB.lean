/- Plain laws of runs: the end of a run is that of the list, and every state on the way is one of the list's. Conditions: none. -/
import Derived.Test.YtclmnpkhopioiaaRyA
set_option linter.unusedSimpArgs false
set_option linter.unusedVariables false
namespace Go.Vl
open Go

theorem try_more {x : api_Step} {s n : api_Rotation} {os : List Int} : ∀ (k : Nat) (t : List api_Attempt) (st : List api_Rotation), st.getLast? = some s →
    ∃ m1, (tryP x s n os k t st).2.2 = st ++ m1 ∧ (∀ r ∈ m1, r = s ∨ r = n) ∧ (st ++ m1).getLast? = some (if (tryP x s n os k t st).1 = true then n else s) ∧ ((tryP x s n os k t st).1 = true → t.length + 1 ≤ (tryP x s n os k t st).2.1.length) := fun k => by
  induction k with
  | zero =>
    intro t st h
    refine ⟨[], by simp [tryP], by simp, by simp [tryP, h], ?_⟩
    intro h1
    simp [tryP] at h1
  | succ k ih =>
    intro t st h
    rw [tryP_eq]
    obtain ⟨m0, hm0, hm1⟩ : ∃ m0, (if nextO os t = 4 then st ++ [n] else st) = st ++ m0 ∧ ∀ r ∈ m0, r = n := by
      by_cases h4 : nextO os t = 4
      · exact ⟨[n], by rw [if_pos h4], by simp⟩
      · exact ⟨[], by rw [if_neg h4]; simp, by simp⟩
    rw [hm0]
    by_cases ht : thereP (nextO os t) = true
    · rw [if_pos ht]
      refine ⟨m0 ++ [n], by simp, fun r hr => ?_, ?_, fun _ => by simp⟩
      · rcases List.mem_append.1 hr with hr | hr
        · exact .inr (hm1 r hr)
        · rw [List.mem_singleton] at hr; exact .inr hr
      · rw [← List.append_assoc, List.getLast?_concat, if_pos rfl]
    · rw [if_neg ht]
      obtain ⟨m1, e1, e2, e3, e4⟩ := ih (t ++ [⟨x, nextO os t, thereP (nextO os t)⟩]) (st ++ m0 ++ [s]) (by rw [List.getLast?_concat])
      refine ⟨m0 ++ [s] ++ m1, by rw [e1]; simp, fun r hr => ?_, ?_, fun h1 => ?_⟩
      · rcases List.mem_append.1 hr with hr | hr
        · rcases List.mem_append.1 hr with hr | hr
          · exact .inr (hm1 r hr)
          · rw [List.mem_singleton] at hr; exact .inl hr
        · exact e2 r hr
      · rw [← e3]; simp
      · have := e4 h1
        simp only [List.length_append, List.length_singleton] at this; omega
theorem run_states {f : api_Fleet} {os : List Int} : ∀ (l : List api_Step) (s : api_Rotation) (t : List api_Attempt) (st : List api_Rotation), RightOk f s → safeRun f s l → st.getLast? = some s →
    ∃ more, (runT f os l s t st).1.2.2 = st ++ more ∧ (∀ r ∈ more, r = s ∨ r ∈ (runP f s l).1) ∧ (st ++ more).getLast? = some (runT f os l s t st).1.1 ∧
      ((runT f os l s t st).2 = 0 ∨ (runT f os l s t st).2 = 40) ∧ ((runT f os l s t st).2 = 0 → (runT f os l s t st).1.1 = endS f s l ∧ t.length + l.length ≤ (runT f os l s t st).1.2.1.length) := fun l => by
  induction l with
  | nil => intro s t st _ _ h; exact ⟨[], by simp [runT], by simp, by simpa [runT] using h, .inl rfl, fun _ => ⟨rfl, by simp [runT]⟩⟩
  | cons x l ih =>
    intro s t st hr hs h
    have h0 := safe_possible hs.1
    have r1 := (apply_right hr h0).1
    have q1 := (safeRun_run l _ r1 hs.2).1
    have eP : (runP f s (x :: l)).1 = (applyP f s x).1 :: (runP f (applyP f s x).1 l).1 := by rw [runP_eq, if_neg (not_not_intro h0), if_neg (not_not_intro q1)]
    rw [runT_eq, if_neg (not_not_intro h0), eP]
    obtain ⟨m1, e1, e2, e3, e4⟩ := try_more (x := x) (s := s) (n := (applyP f s x).1) (os := os) 6 t st h
    by_cases ht : (tryP x s (applyP f s x).1 os 6 t st).1 = true
    · rw [if_pos ht]
      rw [if_pos ht, ← e1] at e3
      obtain ⟨m2, g1, g2, g3, g4, g5⟩ := ih (applyP f s x).1 (tryP x s (applyP f s x).1 os 6 t st).2.1 (tryP x s (applyP f s x).1 os 6 t st).2.2 r1 hs.2 e3
      refine ⟨m1 ++ m2, by rw [g1, e1, List.append_assoc], fun r hm => ?_, ?_, g4, fun he => ⟨(g5 he).1, ?_⟩⟩
      · rcases List.mem_append.1 hm with hm | hm
        · rcases e2 r hm with h1 | h1
          · exact .inl h1
          · exact .inr (h1 ▸ List.mem_cons_self ..)
        · rcases g2 r hm with h1 | h1
          · exact .inr (h1 ▸ List.mem_cons_self ..)
          · exact .inr (List.mem_cons_of_mem _ h1)
      · rw [← List.append_assoc, ← e1]; exact g3
      · have := (g5 he).2
        have := e4 ht
        simp only [List.length_cons]; omega
    · rw [if_neg ht]
      rw [if_neg ht] at e3
      refine ⟨m1, e1, fun r hm => ?_, e3, .inr rfl, fun he => by simp at he⟩
      rcases e2 r hm with h1 | h1
      · exact .inl h1
      · exact .inr (h1 ▸ List.mem_cons_self ..)
theorem sorted_sub_len : ∀ (b a : List Int), a.Pairwise (· < ·) → b.Pairwise (· < ·) → (∀ x ∈ a, x ∈ b) → a.length ≤ b.length := fun b => by
  induction b with
  | nil =>
    intro a _ _ h
    cases a with
    | nil => simp
    | cons x a => exact absurd (h x (List.mem_cons_self ..)) (by simp)
  | cons y b ih =>
    intro a ha hb h
    rw [List.pairwise_cons] at hb
    cases a with
    | nil => simp
    | cons x a =>
      rw [List.pairwise_cons] at ha
      by_cases e : x = y
      · subst e
        have := ih a ha.2 hb.2 fun z hz => by
          rcases List.mem_cons.1 (h z (List.mem_cons_of_mem _ hz)) with e | h1
          · subst e; exact absurd (ha.1 z hz) (by omega)
          · exact h1
        simp only [List.length_cons]; omega
      · have hx : x ∈ b := by
          rcases List.mem_cons.1 (h x (List.mem_cons_self ..)) with e1 | h1
          · exact absurd e1 e
          · exact h1
        have := ih (x :: a) (List.pairwise_cons.2 ha) hb.2 fun z hz => by
          rcases List.mem_cons.1 hz with e1 | hz
          · subst e1; exact hx
          · rcases List.mem_cons.1 (h z (List.mem_cons_of_mem _ hz)) with e1 | h1
            · subst e1
              have := ha.1 z hz; have := hb.1 x hx; omega
            · exact h1
        simp only [List.length_cons] at this ⊢; omega
theorem ends_l1 {l : List api_Rotation} {x : api_Rotation} (hl : l.length ≤ 1000) (h8 : x.Units.length ≤ 1000) : ∃ b, iter (law37_RunnerEnds_l1 l x) (false, 0) = some b ∧ (x ∈ l → b = true) := by
  refine iter_ex (body := law37_RunnerEnds_l1 l x) (fun q : Bool × Int => 0 ≤ q.2 ∧ q.2 ≤ l.length ∧ ((∃ i, ∃ h : i < l.length, (i : Int) < q.2 ∧ l[i] = x) → q.1 = true)) (fun q => (l.length - q.2).toNat) _ ?_ ⟨by simp, by simp, fun ⟨i, _, h, _⟩ => by simp at h; omega⟩
  rintro ⟨b, j⟩ ⟨g1, g0, g2⟩
  simp only at g1 g0 g2 ⊢
  unfold law37_RunnerEnds_l1
  by_cases hj : j < l.length
  · left
    simp only
    rw [if_pos (by simpa using hj), ck_t ⟨g1, by omega⟩, Option.bind_some, idx_toNat g1 (by omega)]
    simp only [Option.bind_some]
    obtain ⟨r, e1, e2⟩ := same_sp (a := x) (b := l[j.toNat]'(by omega)) (by omega)
    have hw : IntKind.i64.wrap (j + 1) = j + 1 := w64 (by omega) (by omega)
    rw [hw]
    have split : ∀ b' : Bool, (b = true → b' = true) → (r = true → b' = true) → (∃ i, ∃ h : i < l.length, (i : Int) < j + 1 ∧ l[i] = x) → b' = true := fun b' hb hr ⟨i, hi, h1, h2⟩ => by
      by_cases hij : (i : Int) < j
      · exact hb (g2 ⟨i, hi, hij, h2⟩)
      · have : i = j.toNat := by omega
        subst this
        exact hr (e2.2 h2.symm)
    by_cases hb : b = true
    · rw [if_pos hb]
      exact ⟨_, rfl, ⟨by simp only; omega, by simp only; omega, split true (fun _ => rfl) (fun _ => rfl)⟩, by simp only; omega⟩
    · rw [if_neg hb, e1]
      exact ⟨_, rfl, ⟨by simp only; omega, by simp only; omega, split r (fun h => absurd h hb) id⟩, by simp only; omega⟩
  · right
    simp only
    rw [if_neg (by simpa using hj)]
    refine ⟨_, rfl, fun hx => g2 ?_⟩
    obtain ⟨i, hi, e⟩ := List.getElem_of_mem hx
    exact ⟨i, hi, by omega, e⟩
theorem ends_l0 {f : api_Fleet} {m m' : make_Tape} {s : api_Rotation} {sts l11 : List api_Rotation} {e : Int} (h1 : sts.length ≤ 1000) (h2 : l11.length ≤ 1000) (hr : RightOk f s) (h : ∀ r ∈ sts, r ∈ l11 ∧ RightOk f r ∧ holdsP f s r) :
    iter (law37_RunnerEnds_l0 (sts, e) l11 (f, m) (s, m')) 0 = some (.inl ()) := by
  rw [iter_all sts.length (fun _ => true) (fun i hi => ?_) ?_]
  · simp
  · unfold law37_RunnerEnds_l0
    rw [if_neg (by simp)]
  · unfold law37_RunnerEnds_l0
    obtain ⟨q1, q2, q3⟩ := h _ (List.getElem_mem hi)
    have l8 := q2.len
    obtain ⟨b, e1, e2⟩ := ends_l1 (l := l11) (x := sts[i]) h2 (by omega)
    rw [if_pos (by simp; omega), idx_lt hi]
    simp only [Option.bind_some, e1, e2 q1, rserved_sp]
    have := sorted_sub_len _ _ (servedP_ok hr).1 (servedP_ok q2).1 q3
    rw [if_neg (by simp)]
    simp only [Option.bind_some]
    rw [if_neg (by simp; omega), w64 (by omega) (by omega)]; rfl
theorem endS_last {f : api_Fleet} : ∀ (l : List api_Step) (s : api_Rotation) (pre : List api_Rotation), RightOk f s → safeRun f s l → (pre ++ [s] ++ (runP f s l).1).getLast? = some (endS f s l) := fun l => by
  induction l with
  | nil => intro s pre _ _; simp [runP, endS]
  | cons x l ih =>
    intro s pre hr hs
    have h0 := safe_possible hs.1
    have r1 := (apply_right hr h0).1
    have q1 := (safeRun_run l _ r1 hs.2).1
    rw [runP_eq, if_neg (not_not_intro h0), if_neg (not_not_intro q1)]
    have := ih (applyP f s x).1 (pre ++ [s]) r1 hs.2
    rw [show pre ++ [s] ++ (applyP f s x).1 :: (runP f (applyP f s x).1 l).1 = pre ++ [s] ++ [(applyP f s x).1] ++ (runP f (applyP f s x).1 l).1 by simp]
    exact this
theorem same_self {s : api_Rotation} (h : s.Units.length ≤ 1000000) : ref32_Same s s = some true := by
  obtain ⟨r, h1, h2⟩ := same_sp (a := s) (b := s) h
  rw [h1, h2.2 rfl]
theorem idx_last {α : Type} [Inhabited α] {l : List α} {x : α} (h : l.getLast? = some x) (hl : l.length ≤ 100000) : 0 < l.length ∧ IntKind.i64.wrap ((l.length : Int) - 1) = (l.length : Int) - 1 ∧ idx l ((l.length : Int) - 1) = some x := by
  have h0 : 0 < l.length := by
    cases l with
    | nil => cases h
    | cons a l => simp
  refine ⟨h0, w64 (by omega) (by omega), ?_⟩
  rw [idx_toNat (by omega) (by omega)]
  rw [List.getLast?_eq_getElem?] at h
  have e : ((l.length : Int) - 1).toNat = l.length - 1 := by omega
  rw [List.getElem?_eq_getElem (by omega)] at h
  simp only [e]
  exact h
theorem RunnerEnds_law (a : List Int) : law37_RunnerEnds a = some true := by
  unfold law37_RunnerEnds
  by_cases h : 300 < (a.length : Int)
  · rw [if_pos (by simpa using h), awake37]; rfl
  rw [if_neg (by simpa using h)]
  obtain ⟨f, m1, e1, hf, _, _, t1⟩ := make_Fleet_ex (tape0 h) (most := 4) (by omega) (by omega)
  rw [e1]
  simp only [Option.bind_some]
  obtain ⟨s, m2, e2, hs, t2⟩ := make_State_ex t1 hf
  rw [e2]
  simp only [Option.bind_some]
  obtain ⟨l, m4, e4, hll, hlk, t4⟩ := make_SafeSteps_ex t2 hs (n := 6) (by omega)
  rw [e4]
  simp only [Option.bind_some]
  have hl8 : l.length ≤ 6 := by omega
  obtain ⟨os, m5, e5, ho, hol, t5⟩ := outcomes_ex t4 (n := 24) (by omega) (by omega)
  rw [e5]
  simp only [Option.bind_some]
  rw [Run_sp hs (by omega) ho (by omega), States_sp hs (by omega) ho (by omega), rrun2_sp hs (by omega)]
  obtain ⟨q1, q2, q3⟩ := safeRun_run l s hs hlk
  obtain ⟨q4, q5⟩ := runP_right l s hs q1
  obtain ⟨n1, n2⟩ := runT_len (f := f) (os := os) l s [] [s]
  obtain ⟨more, g1, g2, g3, g4, g5⟩ := run_states (f := f) (os := os) l s [] [s] hs hlk rfl
  have l8 := hs.len
  generalize runT f os l s [] [s] = R at n1 n2 g1 g3 g4 g5 ⊢
  obtain ⟨⟨s', tr, sts⟩, e⟩ := R
  simp only at n1 n2 g1 g3 g4 g5 ⊢
  subst g1
  have hall : ∀ r ∈ [s] ++ more, r ∈ [s] ++ (runP f s l).1 ∧ RightOk f r ∧ holdsP f s r := fun r hr => by
    have : r = s ∨ r ∈ (runP f s l).1 := by
      rcases List.mem_append.1 hr with h1 | h1
      · rw [List.mem_singleton] at h1; exact .inl h1
      · exact g2 r h1
    rcases this with h1 | h1
    · subst h1; exact ⟨by simp, hs, fun p hp => hp⟩
    · exact ⟨List.mem_append_right _ h1, q5 r h1, q3 r h1⟩
  have hs' : RightOk f s' := by
    have := List.mem_of_getLast? g3
    exact (hall _ this).2.1
  have s8 := hs'.len
  have hlen2 : ([s] ++ more).length ≤ 1000 := by simp only [List.length_singleton] at n2; omega
  have hlen1 : ([s] ++ (runP f s l).1).length ≤ 1000 := by simp only [List.length_append, List.length_singleton]; omega
  obtain ⟨k1, k2, k3⟩ := idx_last (endS_last l s [] hs hlk) (by simpa using by omega)
  simp only [List.nil_append] at k1 k2 k3
  obtain ⟨j1, j2, j3⟩ := idx_last g3 (by omega)
  simp only [Option.bind_some]
  rw [if_neg (by
    rcases g4 with h | h
    · have := (g5 h).2
      simp only [List.length_nil] at this
      simp [q1, h]; omega
    · simp [q1, h]; omega), ck_t (by simp; omega)]
  simp only [Option.bind_some]
  have hmid : (if (e == 0) = true then
      (ck (0 ≤ IntKind.i64.wrap (((([s] ++ (runP f s l).1)).length : Int) - 1) ∧ (Int.toNat (IntKind.i64.wrap (((([s] ++ (runP f s l).1)).length : Int) - 1))) < (([s] ++ (runP f s l).1)).length)).bind fun _ =>
      (idx ([s] ++ (runP f s l).1) (IntKind.i64.wrap (((([s] ++ (runP f s l).1)).length : Int) - 1))).bind fun x31 =>
      (ref32_Same s' x31).bind fun y32 =>
      some (!y32)
    else
      some false) = some false := by
    by_cases he : e = 0
    · rw [if_pos (by simpa using he), k2, ck_t (by omega)]
      simp only [Option.bind_some]
      rw [k3]
      simp only [Option.bind_some]
      rw [← (g5 he).1, same_self (by omega)]; rfl
    · rw [if_neg (by simpa using he)]
  rw [hmid]
  simp only [Option.bind_some]
  rw [if_neg (by simp), ends_l0 hlen2 hlen1 hs hall]
  simp only [Option.bind_some]
  rw [show idx ([s] ++ more) 0 = some s from rfl]
  simp only [Option.bind_some]
  rw [same_self (by omega)]
  simp only [Option.bind_some, if_true]
  rw [j2, j3]
  simp only [Option.bind_some]
  rw [same_self (by omega)]
  simp only [Option.bind_some, if_true, awake37]
end Go.Vl
