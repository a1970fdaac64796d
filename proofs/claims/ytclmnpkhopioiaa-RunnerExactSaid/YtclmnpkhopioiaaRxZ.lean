/- Plain laws of runs: outcomes that do the step lead to the states of the list. Conditions: none. -/
import Derived.Test.YtclmnpkhopioiaaRxY
set_option linter.unusedSimpArgs false
set_option linter.unusedVariables false
namespace Go.Vl
open Go

/-! awake -/
def fB : api_Fleet := ⟨1, [⟨0, false, false⟩]⟩
theorem fB_ok : FleetOk fB := by
  refine ⟨.inl rfl, by decide, by decide, fun i h => ?_⟩
  have : i = 0 := by simp [fB] at h; omega
  subst this; rfl
theorem sB_right : RightOk fB sA := start_right fB_ok
theorem kB1 : kindOk fB ⟨1, 0⟩ := by unfold kindOk; decide
theorem aB1 : applyP fB sA ⟨1, 0⟩ = (⟨3, 1, [⟨true, 1, 1⟩]⟩, 0) := apply_eq sB_right kB1 (by decide)
theorem awake37 : law37_awake = some true := by
  unfold law37_awake
  have e : ref32_Start (⟨1, [(⟨0, false, false⟩ : api_Consumer)]⟩ : api_Fleet) = some (sA, 0) := start_sp fB_ok
  rw [e]
  simp only [Option.bind_some]
  rw [show (⟨1, [(⟨0, false, false⟩ : api_Consumer)]⟩ : api_Fleet) = fB from rfl, Run_sp sB_right (by simp) (fun o ho => by simp at ho; omega) (by simp)]
  have e1 : runT fB [1, 2] [⟨1, 0⟩] sA [] [sA] = ((⟨3, 1, [⟨true, 1, 1⟩]⟩, [⟨⟨1, 0⟩, 1, false⟩, ⟨⟨1, 0⟩, 2, true⟩], [sA, sA, ⟨3, 1, [⟨true, 1, 1⟩]⟩]), 0) := by
    rw [runT_eq, aB1]; rfl
  rw [e1]
  rfl

/-! Outcomes that do the step -/
def muteOk (os : List Int) : Prop := ∀ o ∈ os, o = 0 ∨ o = 2 ∨ o = 3
theorem muteNil : muteOk [] := fun o h => by cases h
theorem mute_next {os : List Int} (h : muteOk os) (t : List api_Attempt) : nextO os t = 0 ∨ nextO os t = 2 ∨ nextO os t = 3 := by
  unfold nextO
  by_cases hl : t.length < os.length
  · have : os.getD t.length 0 = os[t.length] := by simp [List.getD, hl]
    rw [this]; exact h _ (List.getElem_mem hl)
  · left; simp [List.getD, hl]
theorem mute_try {os : List Int} (h : muteOk os) {x : api_Step} {s n : api_Rotation} {k : Nat} {t : List api_Attempt} {st : List api_Rotation} : tryP x s n os (k + 1) t st = (true, t ++ [⟨x, nextO os t, true⟩], st ++ [n]) := by
  rw [tryP_eq]
  have hn := mute_next h t
  have h1 : thereP (nextO os t) = true := by rcases hn with e | e | e <;> rw [e] <;> rfl
  have h2 : ¬ nextO os t = 4 := by omega
  rw [h1, if_pos rfl, if_neg h2]
theorem mute_run {f : api_Fleet} {os : List Int} (h : muteOk os) : ∀ (l : List api_Step) (s : api_Rotation) (t : List api_Attempt) (st : List api_Rotation), safeRun f s l →
    ∃ t', runT f os l s t st = ((endS f s l, t', st ++ (runP f s l).1), 0) ∧ t'.length = t.length + l.length := fun l => by
  induction l with
  | nil => intro s t st _; exact ⟨t, by simp [runT, endS, runP], by simp⟩
  | cons x l ih =>
    intro s t st hs
    have h0 := safe_possible hs.1
    obtain ⟨t', e1, e2⟩ := ih (applyP f s x).1 (t ++ [⟨x, nextO os t, true⟩]) (st ++ [(applyP f s x).1]) hs.2
    refine ⟨t', ?_, by rw [e2]; simp; omega⟩
    rw [runT_eq, if_neg (not_not_intro h0), mute_try h, if_pos rfl]
    simp only
    rw [e1]
    have hr0 : RightOk f s := by
      apply Decidable.byContradiction
      intro hr
      have := safe_not hr x
      rw [hs.1] at this; cases this
    have h1 := (safeRun_run l _ (apply_right hr0 h0).1 hs.2).1
    rw [runP_eq, if_neg (not_not_intro h0), if_neg (not_not_intro h1)]
    simp [endS]
theorem pick_ex {m : make_Tape} (h : TOk m) {l : List Int} (h0 : 0 < l.length) (hl : l.length ≤ 100) : ∃ v m', make_Pick m l = some (v, m') ∧ v ∈ l ∧ TOk m' := by
  unfold make_Pick
  obtain ⟨v, m', e, v1, v2, t⟩ := next_ex h (n := (l.length : Int)) (by omega)
  rw [e]
  simp only [Option.bind_some]
  rw [idx_toNat v1 (by omega)]
  exact ⟨_, _, rfl, List.getElem_mem _, t⟩
abbrev SO : Type := Int × (List Int) × Int × (List Int)
theorem mute_loop {y4 : (List api_Step) × make_Tape} (hl : y4.1.length ≤ 1000) {t : make_Tape} (ht : TOk t) : ∃ e, iter (law37_RunnerMute_l0 y4) (0, t.L, t.at_, []) = some e ∧ (muteOk e ∧ e.length ≤ 1000) := by
  refine iter_ex (body := law37_RunnerMute_l0 y4) (fun q : SO => 0 ≤ q.1 ∧ q.1 ≤ y4.1.length ∧ TOk ⟨q.2.1, q.2.2.1⟩ ∧ muteOk q.2.2.2 ∧ (q.2.2.2.length : Int) = q.1) (fun q => (y4.1.length - q.1).toNat) _ ?_ ⟨by simp, by simp, ht, muteNil, by simp⟩
  rintro ⟨j, L, at_, os⟩ ⟨g1, g0, g2, g3, g4⟩
  simp only at g1 g0 g2 g3 g4 ⊢
  unfold law37_RunnerMute_l0
  by_cases hj : j < y4.1.length
  · left
    simp only
    obtain ⟨v, m2, e2, v1, t2⟩ := pick_ex g2 (l := [0, 2, 3]) (by simp) (by simp)
    rw [if_pos (by simpa using hj), e2]
    simp only [Option.bind_some]
    rw [ck_t (by simp; omega), w64 (by omega) (by omega)]
    refine ⟨_, rfl, ⟨by simp only; omega, by simp only; omega, t2, fun o ho => ?_, by simp; omega⟩, by simp; omega⟩
    rcases List.mem_append.1 ho with ho | ho
    · exact g3 o ho
    · rw [List.mem_singleton] at ho; subst ho; simpa using v1
  · right
    simp only
    rw [if_neg (by simpa using hj)]
    exact ⟨_, rfl, g3, by omega⟩
theorem mute_out {os : List Int} (h : muteOk os) : outOk os := fun o ho => by have := h o ho; omega
theorem rrun2_sp {f : api_Fleet} {s : api_Rotation} {l : List api_Step} (hr : RightOk f s) (hl : l.length ≤ 120) : ref33_Run f s l = some (runP f s l) := by rw [rrun_eq, run_sp hr hl]
theorem RunnerMute_law (a : List Int) : law37_RunnerMute a = some true := by
  unfold law37_RunnerMute
  by_cases h : 300 < (a.length : Int)
  · rw [if_pos (by simpa using h), awake37]; rfl
  rw [if_neg (by simpa using h)]
  obtain ⟨f, m1, e1, hf, _, _, t1⟩ := make_Fleet_ex (tape0 h) (most := 4) (by omega) (by omega)
  rw [e1]
  simp only [Option.bind_some]
  obtain ⟨s, m2, e2, hs, t2⟩ := make_State_ex t1 hf
  rw [e2]
  simp only [Option.bind_some]
  obtain ⟨l, m4, e4, hll, hlk, t4⟩ := make_SafeSteps_ex t2 hs (n := 6) (by omega)
  rw [e4]
  simp only [Option.bind_some]
  have hl8 : l.length ≤ 6 := by omega
  obtain ⟨os, he, ho, hol⟩ := mute_loop (y4 := (l, m4)) (by simp only; omega) t4
  rw [he]
  simp only [Option.bind_some]
  have h0 : muteOk [] := fun o h => by cases h
  rw [States_sp hs (by omega) (mute_out h0) (by simp), States_sp hs (by omega) (mute_out ho) (by omega), rrun2_sp hs (by omega)]
  obtain ⟨ta, ea, _⟩ := mute_run h0 l s [] [s] hlk
  obtain ⟨tb, eb, _⟩ := mute_run ho l s [] [s] hlk
  obtain ⟨q1, q2, q3⟩ := safeRun_run l s hs hlk
  obtain ⟨q4, q5⟩ := runP_right l s hs q1
  rw [ea, eb]
  have hall : ref32_All ([s] ++ (runP f s l).1) ([s] ++ (runP f s l).1) = some true := by
    refine all_self (fun r hm => ?_) (by simp; omega)
    rcases List.mem_append.1 hm with hm | hm
    · rw [List.mem_singleton] at hm; subst hm; have := hs.len; omega
    · have := (q5 r hm).len; omega
  simp only [Option.bind_some]
  rw [if_neg (by simp), if_neg (by simp), if_neg (by simp [q1]), hall]
  simp only [Option.bind_some]
  rw [if_neg (by simp), ck_t (by simp; omega)]
  simp only [Option.bind_some]
  rw [if_neg (by simp), awake37]
  rfl
end Go.Vl
