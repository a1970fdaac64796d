/- Plain laws of steps: lists of safe steps, faults; along steps without a fault all pools that served go on serving. Conditions: none. -/
import Derived.Test.YtclmnpkhopioiabSxV
set_option linter.unusedSimpArgs false
set_option linter.unusedVariables false
namespace Go.Vl
open Go

/-! Lists of safe steps -/
def endS (f : api_Fleet) (s : api_Rotation) (l : List api_Step) : api_Rotation := l.foldl (fun s x => (applyP f s x).1) s
def safeRun (f : api_Fleet) : api_Rotation → List api_Step → Prop
  | _, [] => True
  | s, x :: l => safeP f s x = true ∧ safeRun f (applyP f s x).1 l
theorem safeRun_snoc {f : api_Fleet} {x : api_Step} : ∀ (l : List api_Step) (s : api_Rotation), safeRun f s l → safeP f (endS f s l) x = true → safeRun f s (l ++ [x]) ∧ endS f s (l ++ [x]) = (applyP f (endS f s l) x).1 := fun l => by
  induction l with
  | nil => intro s _ h; exact ⟨⟨h, trivial⟩, rfl⟩
  | cons y l ih =>
    intro s h hx
    obtain ⟨h1, h2⟩ := ih _ h.2 hx
    exact ⟨⟨h.1, h1⟩, h2⟩
theorem safeRun_run {f : api_Fleet} : ∀ (l : List api_Step) (s : api_Rotation), RightOk f s → safeRun f s l → (runP f s l).2 = 0 ∧ RightOk f (endS f s l) ∧ ∀ r ∈ (runP f s l).1, holdsP f s r := fun l => by
  induction l with
  | nil => intro s hr _; exact ⟨rfl, hr, fun r h => by cases h⟩
  | cons x l ih =>
    intro s hr h
    have h0 := safe_possible h.1
    obtain ⟨r1, _⟩ := apply_right hr h0
    obtain ⟨i1, i2, i3⟩ := ih _ r1 h.2
    have hh : holdsP f s (applyP f s x).1 := by
      have := h.1
      unfold safeP at this
      simp only [Bool.and_eq_true, decide_eq_true_eq] at this
      exact this.2
    have e : runP f s (x :: l) = ((applyP f s x).1 :: (runP f (applyP f s x).1 l).1, 0) := by rw [runP_eq, if_neg (not_not_intro h0), if_neg (not_not_intro i1)]
    rw [e]
    refine ⟨rfl, i2, fun r hm => ?_⟩
    rcases List.mem_cons.1 hm with rfl | hm
    · exact hh
    · exact fun p hp => i3 r hm p (hh p hp)
theorem make_SafeSteps_ex {m : make_Tape} (h : TOk m) {f : api_Fleet} {s : api_Rotation} (hs : RightOk f s) {n : Int} (hn : n ≤ 1000) : ∃ l m', make_SafeSteps m f s n = some (l, m') ∧ (l.length : Int) ≤ max n 0 ∧ safeRun f s l ∧ TOk m' := by
  have hf := hs.1
  have key : ∃ e, iter (make_SafeSteps_l0 n f) (0, m.L, m.at_, s.Known, s.Valid, s.Units, []) = some e ∧ (match e with | .inl v => TOk ⟨v.1, v.2.1⟩ ∧ (v.2.2.length : Int) ≤ max n 0 ∧ safeRun f s v.2.2 | .inr v => TOk v.2 ∧ (v.1.length : Int) ≤ max n 0 ∧ safeRun f s v.1) := by
    refine iter_ex (body := make_SafeSteps_l0 n f) (fun q : SM => 0 ≤ q.1 ∧ q.1 ≤ max n 0 ∧ TOk ⟨q.2.1, q.2.2.1⟩ ∧ RightOk f ⟨q.2.2.2.1, q.2.2.2.2.1, q.2.2.2.2.2.1⟩ ∧ (q.2.2.2.2.2.2.length : Int) ≤ q.1 ∧ safeRun f s q.2.2.2.2.2.2 ∧ endS f s q.2.2.2.2.2.2 = ⟨q.2.2.2.1, q.2.2.2.2.1, q.2.2.2.2.2.1⟩) (fun s => (n - s.1).toNat) _ ?_ ⟨by simp, by simp; omega, h, hs, by simp, trivial, rfl⟩
    rintro ⟨j, L, at_, kn, va, us, l⟩ ⟨g1, g0, g2, g3, g4, g5, g6⟩
    simp only at g1 g0 g2 g3 g4 g5 g6 ⊢
    have c8 := hf.2.2.1
    unfold make_SafeSteps_l0
    by_cases hj : j < n
    case neg =>
      right
      simp only
      rw [if_neg (by simpa using hj)]
      exact ⟨_, rfl, g2, by simp only; omega, g5⟩
    simp only
    rw [if_pos (by simpa using hj), rchoices_sp (by omega)]
    simp only [Option.bind_some]
    have cl := choicesC_len (sf := safeP f ⟨kn, va, us⟩) c8
    by_cases hc : (choicesC (safeP f ⟨kn, va, us⟩) f.Consumers.length).length = 0
    · right
      rw [if_pos (by simp [hc])]
      exact ⟨_, rfl, g2, by simp only; omega, g5⟩
    left
    rw [if_neg (by simpa using hc)]
    obtain ⟨v, m3, e3, v1, v2, t3⟩ := next_ex g2 (n := ((choicesC (safeP f ⟨kn, va, us⟩) f.Consumers.length).length : Int)) (by omega)
    rw [e3]
    simp only [Option.bind_some]
    rw [idx_toNat v1 (by omega)]
    have hw : IntKind.i64.wrap (j + 1) = j + 1 := w64 (by omega) (by omega)
    simp only [Option.bind_some, rapply_sp]
    rw [ck_t (by simp; omega), hw]
    have hm := mem_choicesC.1 (List.getElem_mem (l := choicesC (safeP f ⟨kn, va, us⟩) f.Consumers.length) (n := v.toNat) (by omega))
    obtain ⟨_, _, _, _, hx⟩ := hm
    obtain ⟨q1, q2⟩ := safeRun_snoc (x := (choicesC (safeP f ⟨kn, va, us⟩) f.Consumers.length)[v.toNat]'(by omega)) l s g5 (by rw [g6]; exact hx)
    exact ⟨_, rfl, ⟨by simp only; omega, by simp only; omega, t3, (apply_right g3 (safe_possible hx)).1, by simp; omega, q1, by rw [q2, g6]⟩, by simp; omega⟩
  obtain ⟨e, he, hp⟩ := key
  unfold make_SafeSteps
  rw [he]
  cases e with
  | inl v => exact ⟨_, _, rfl, hp.2.1, hp.2.2, hp.1⟩
  | inr v => exact ⟨_, _, rfl, hp.2.1, hp.2.2, hp.1⟩

/-! Faults -/
def faultP (f : api_Fleet) : Int → api_Rotation → List api_Step → Int × Int
  | i, _, [] => (i, 0)
  | i, s, x :: l => if (applyP f s x).2 ≠ 0 then (i, (applyP f s x).2) else if ¬ holdsP f s (applyP f s x).1 then (i, 38) else faultP f (i + 1) (applyP f s x).1 l
theorem faultP_eq {f : api_Fleet} {i : Int} {s : api_Rotation} {x : api_Step} {l : List api_Step} : faultP f i s (x :: l) = if (applyP f s x).2 ≠ 0 then (i, (applyP f s x).2) else if ¬ holdsP f s (applyP f s x).1 then (i, 38) else faultP f (i + 1) (applyP f s x).1 l := rfl
def faultE (n : Int) (r : Int × Int) : Unit ⊕ (Int × Int) := if r.2 = 0 then .inl () else .inr r
theorem faultP_0 {f : api_Fleet} : ∀ (l : List api_Step) (i : Int) (s : api_Rotation), (faultP f i s l).2 = 0 → faultP f i s l = (i + l.length, 0) := fun l => by
  induction l with
  | nil => intro i s _; simp [faultP]
  | cons x l ih =>
    intro i s h
    rw [faultP_eq] at h ⊢
    by_cases h0 : (applyP f s x).2 = 0
    · rw [if_neg (not_not_intro h0)] at h ⊢
      by_cases h1 : holdsP f s (applyP f s x).1
      · rw [if_neg (not_not_intro h1)] at h ⊢
        rw [ih _ _ h]
        simp only [List.length_cons, Prod.mk.injEq, and_true]
        omega
      · rw [if_pos h1] at h; simp at h
    · rw [if_pos h0] at h; exact absurd h h0
theorem fault_loop {f : api_Fleet} {l : List api_Step} (hl : l.length ≤ 1000) : ∀ (m i : Nat) (s : api_Rotation), i + m = l.length →
    iter (steps_Fault_l0 l f) ((i : Int), s.Known, s.Valid, s.Units) = some (faultE l.length (faultP f i s (l.drop i))) := fun m => by
  induction m with
  | zero =>
    intro i s h
    have : i = l.length := by omega
    subst this
    rw [List.drop_length]
    refine iter_out ?_
    unfold steps_Fault_l0
    simp only
    rw [if_neg (by simp)]
    simp [faultE, faultP]
  | succ m ih =>
    intro i s h
    have hi : i < l.length := by omega
    rw [List.drop_eq_getElem_cons hi, faultP_eq]
    by_cases h0 : (applyP f s l[i]).2 = 0
    · rw [if_neg (not_not_intro h0)]
      by_cases h1 : holdsP f s (applyP f s l[i]).1
      · rw [if_neg (not_not_intro h1)]
        have hgo : steps_Fault_l0 l f ((i : Int), s.Known, s.Valid, s.Units) = some (.go (((i + 1 : Nat) : Int), (applyP f s l[i]).1.Known, (applyP f s l[i]).1.Valid, (applyP f s l[i]).1.Units)) := by
          unfold steps_Fault_l0
          simp only
          rw [if_pos (by simp; omega), idx_lt hi]
          simp only [Option.bind_some, apply_sp, holds_sp]
          rw [if_neg (by simpa using h0), if_neg (by simpa using h1), w64 (by omega) (by omega)]
          rfl
        rw [iter_go hgo, ih (i + 1) _ (by omega)]
        rfl
      · rw [if_pos h1]
        refine iter_out ?_
        unfold steps_Fault_l0
        simp only
        rw [if_pos (by simp; omega), idx_lt hi]
        simp only [Option.bind_some, apply_sp, holds_sp]
        rw [if_neg (by simpa using h0), if_pos (by simpa using h1)]
        simp [faultE]
    · rw [if_pos h0]
      refine iter_out ?_
      unfold steps_Fault_l0
      simp only
      rw [if_pos (by simp; omega), idx_lt hi]
      simp only [Option.bind_some, apply_sp]
      rw [if_pos (by simpa using h0)]
      simp [faultE, h0]
theorem fault_sp {f : api_Fleet} {s : api_Rotation} {l : List api_Step} (hr : RightOk f s) (hl : l.length ≤ 120) : steps_Fault f s l = some (faultP f 0 s l) := by
  unfold steps_Fault steps_check
  rw [right_sp, decide_eq_true hr]
  simp only [Option.bind_some]
  rw [if_neg (by simp), if_neg (by simp; omega)]
  simp only [Option.bind_some]
  rw [if_neg (by simp)]
  have := fault_loop (f := f) (l := l) (by omega) l.length 0 s (by omega)
  rw [List.drop_zero] at this
  rw [show (0 : Int) = ((0 : Nat) : Int) from rfl, this]
  simp only [Option.bind_some, faultE]
  by_cases h : (faultP f ((0 : Nat) : Int) s l).2 = 0
  · rw [if_pos h]
    have := faultP_0 l _ s h
    rw [this]; simp
  · rw [if_neg h]
theorem safeRun_fault {f : api_Fleet} : ∀ (l : List api_Step) (i : Int) (s : api_Rotation), safeRun f s l → (faultP f i s l).2 = 0 := fun l => by
  induction l with
  | nil => intro i s _; rfl
  | cons x l ih =>
    intro i s h
    have h1 := h.1
    unfold safeP at h1
    simp only [Bool.and_eq_true, decide_eq_true_eq, beq_iff_eq] at h1
    rw [faultP_eq, if_neg (not_not_intro h1.1), if_neg (not_not_intro h1.2)]
    exact ih _ _ h.2

/-! The law -/
end Go.Vl
