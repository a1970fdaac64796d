/- Plain laws of steps: lists of steps, choices, runs; a step is a choice exactly if it is safe. Conditions: none. -/
import Derived.Test.YtclmnpkhopioiabSxT
set_option linter.unusedSimpArgs false
set_option linter.unusedVariables false
namespace Go.Vl
open Go

theorem iter_foldl2 {α σ σ' ε : Type} {body : σ' → Option (Lp σ' ε)} (l : List α) (S : Nat → σ → σ') (f : σ → α → σ) (fin : σ → ε) (Inv : Nat → σ → Prop)
    (hgo : ∀ (i : Nat) (h : i < l.length) (s : σ), Inv i s → body (S i s) = some (.go (S (i + 1) (f s l[i]))) ∧ Inv (i + 1) (f s l[i]))
    (hend : ∀ s, Inv l.length s → body (S l.length s) = some (.out (fin s))) (s0 : σ) (h0 : Inv 0 s0) : iter body (S 0 s0) = some (fin (l.foldl f s0)) := by
  have key : ∀ (m i : Nat) (s : σ), i + m = l.length → Inv i s → iter body (S i s) = some (fin ((l.drop i).foldl f s)) := fun m => by
    induction m with
    | zero =>
      intro i s h hi
      have : i = l.length := by omega
      subst this
      rw [List.drop_length]
      exact iter_out (hend s hi)
    | succ m ih =>
      intro i s h hi
      have hl : i < l.length := by omega
      obtain ⟨h1, h2⟩ := hgo i hl s hi
      rw [iter_go h1, ih (i + 1) _ (by omega) h2, List.drop_eq_getElem_cons hl, List.foldl_cons]
  simpa using key l.length 0 s0 (by omega) h0

instance : DecidableEq api_Step := fun a b => if h : a.Kind = b.Kind ∧ a.Unit = b.Unit then .isTrue (by obtain ⟨a1, a2⟩ := a; obtain ⟨b1, b2⟩ := b; simp_all) else .isFalse (fun e => h (by rw [e]; exact ⟨rfl, rfl⟩))
/-! Choices -/
def rowC (sf : api_Step → Bool) (n : Nat) (k : Int) : List api_Step := ((List.range n).filter fun (i : Nat) => sf ⟨k, (i : Int)⟩).map fun (i : Nat) => ⟨k, (i : Int)⟩
def choicesC (sf : api_Step → Bool) (n : Nat) : List api_Step := ((List.range 8).map fun (j : Nat) => rowC sf n ((j + 1 : Nat) : Int)).flatten
theorem rowC_len (sf : api_Step → Bool) (n : Nat) (k : Int) : (rowC sf n k).length ≤ n := by
  unfold rowC
  rw [List.length_map]
  exact Nat.le_trans (List.length_filter_le _ _) (by simp)
theorem mem_choicesC {sf : api_Step → Bool} {n : Nat} {x : api_Step} : x ∈ choicesC sf n ↔ 1 ≤ x.Kind ∧ x.Kind ≤ 8 ∧ 0 ≤ x.Unit ∧ x.Unit < n ∧ sf x = true := by
  obtain ⟨k, u⟩ := x
  simp only [choicesC, rowC, List.mem_flatten, List.mem_map, List.mem_range, List.mem_filter]
  constructor
  · rintro ⟨l, ⟨j, hj, rfl⟩, hx⟩
    simp only [List.mem_map, List.mem_filter, List.mem_range] at hx
    obtain ⟨i, ⟨hi, hs⟩, e⟩ := hx
    simp only [api_Step.mk.injEq] at e
    obtain ⟨rfl, rfl⟩ := e
    exact ⟨by omega, by omega, by omega, by omega, hs⟩
  · rintro ⟨h1, h2, h3, h4, h5⟩
    refine ⟨_, ⟨(k - 1).toNat, by omega, rfl⟩, ?_⟩
    have e1 : (((k - 1).toNat + 1 : Nat) : Int) = k := by omega
    have e2 : ((u.toNat : Nat) : Int) = u := by omega
    rw [e1]
    simp only [List.mem_map, List.mem_filter, List.mem_range]
    exact ⟨u.toNat, ⟨by omega, by rw [e2]; exact h5⟩, by rw [e2]⟩
theorem fold_filter {α β : Type} (p : α → Bool) (g : α → β) (l : List α) (a : List β) : l.foldl (fun (a : List β) x => if p x = true then a ++ [g x] else a) a = a ++ (l.filter p).map g := by
  induction l generalizing a with
  | nil => simp
  | cons q l ih => simp only [List.foldl_cons, ih, List.filter_cons]; split <;> simp
theorem fold_flat {α β : Type} (g : α → List β) (l : List α) (a : List β) : l.foldl (fun (a : List β) x => a ++ g x) a = a ++ (l.map g).flatten := by
  induction l generalizing a with
  | nil => simp
  | cons q l ih => simp only [List.foldl_cons, ih, List.map_cons, List.flatten_cons, List.append_assoc]
theorem choices_sp {f : api_Fleet} {s : api_Rotation} (h8 : s.Units.length ≤ 100) : steps_Choices f s = some (choicesC (safeP f s) s.Units.length) := by
  have h1 : ∀ (k : Int) (acc : List api_Step), acc.length ≤ 1000 → iter (steps_Choices_l1 s f (k, acc)) (0, acc) = some (acc ++ rowC (safeP f s) s.Units.length k) := fun k acc hacc => by
    have := iter_foldl2 (body := steps_Choices_l1 s f (k, acc)) (List.range s.Units.length) (fun i a => ((i : Int), a)) (fun (a : List api_Step) (i : Nat) => if safeP f s ⟨k, (i : Int)⟩ = true then a ++ [⟨k, (i : Int)⟩] else a) id (fun i a => a.length ≤ 1000 + i) (fun i hi a ha => ?_) (fun a ha => ?_) acc (by simpa using hacc)
    · rw [fold_filter (fun i : Nat => safeP f s ⟨k, (i : Int)⟩) (fun i : Nat => (⟨k, (i : Int)⟩ : api_Step))] at this
      exact this
    · have hi' : i < s.Units.length := by simpa using hi
      unfold steps_Choices_l1
      simp only [safe_sp, List.getElem_range, Option.bind_some]
      rw [if_pos (by simp; omega), w64 (by omega) (by omega)]
      by_cases hp : safeP f s ⟨k, (i : Int)⟩ = true
      · rw [if_pos hp, if_pos hp, ck_t (by simp; omega)]; exact ⟨rfl, by simp; omega⟩
      · rw [if_neg hp, if_neg hp]; exact ⟨rfl, by omega⟩
    · unfold steps_Choices_l1
      simp only [List.length_range]
      rw [if_neg (by simp)]; rfl
  unfold steps_Choices
  have := iter_foldl2 (body := steps_Choices_l0 s f) (List.range 8) (fun i a => (((i + 1 : Nat) : Int), a)) (fun (a : List api_Step) (j : Nat) => a ++ rowC (safeP f s) s.Units.length ((j + 1 : Nat) : Int)) id (fun i a => a.length ≤ 100 * i) (fun i hi a ha => ?_) (fun a ha => ?_) [] (by simp)
  · rw [fold_flat (fun j : Nat => rowC (safeP f s) s.Units.length ((j + 1 : Nat) : Int))] at this
    simp only [List.nil_append, id] at this
    rw [show ((1 : Int), ([] : List api_Step)) = (((0 + 1 : Nat) : Int), []) from rfl, this]; rfl
  · have hi' : i < 8 := by simpa using hi
    have := rowC_len (safeP f s) s.Units.length ((i + 1 : Nat) : Int)
    unfold steps_Choices_l0
    simp only [List.getElem_range]
    rw [if_pos (by simp; omega), h1 _ _ (by omega)]
    simp only [Option.bind_some]
    rw [w64 (by omega) (by omega)]
    exact ⟨rfl, by simp only [List.length_append]; omega⟩
  · unfold steps_Choices_l0
    simp only [List.length_range]
    rw [if_neg (by simp)]; rfl

/-! Runs -/
def runP (f : api_Fleet) : api_Rotation → List api_Step → List api_Rotation × Int
  | _, [] => ([], 0)
  | s, x :: l => if (applyP f s x).2 ≠ 0 then ([], (applyP f s x).2) else if (runP f (applyP f s x).1 l).2 ≠ 0 then ([], (runP f (applyP f s x).1 l).2) else ((applyP f s x).1 :: (runP f (applyP f s x).1 l).1, 0)
def runE (acc : List api_Rotation) (r : List api_Rotation × Int) : (List api_Rotation) ⊕ ((List api_Rotation) × Int) := if r.2 = 0 then .inl (acc ++ r.1) else .inr ([], r.2)
theorem runP_err {f : api_Fleet} : ∀ (l : List api_Step) (s : api_Rotation), (runP f s l).2 ≠ 0 → (runP f s l).1 = [] := fun l => by
  induction l with
  | nil => intro s h; rfl
  | cons x l ih =>
    intro s h
    unfold runP at h ⊢
    split
    · rfl
    · split
      · rfl
      · rename_i h1 h2; rw [if_neg h1, if_neg h2] at h; simp at h
theorem run_loop {f : api_Fleet} {l : List api_Step} (hl : l.length ≤ 1000) : ∀ (m i : Nat) (s : api_Rotation) (acc : List api_Rotation), i + m = l.length → acc.length = i →
    iter (steps_Run_l0 l f) ((i : Int), s.Known, s.Valid, s.Units, acc) = some (runE acc (runP f s (l.drop i))) := fun m => by
  induction m with
  | zero =>
    intro i s acc h ha
    have : i = l.length := by omega
    subst this
    rw [List.drop_length]
    refine iter_out ?_
    unfold steps_Run_l0
    simp only
    rw [if_neg (by simp)]
    simp [runE, runP]
  | succ m ih =>
    intro i s acc h ha
    have hi : i < l.length := by omega
    rw [List.drop_eq_getElem_cons hi]
    by_cases h0 : (applyP f s l[i]).2 = 0
    · have hgo : steps_Run_l0 l f ((i : Int), s.Known, s.Valid, s.Units, acc) = some (.go (((i + 1 : Nat) : Int), (applyP f s l[i]).1.Known, (applyP f s l[i]).1.Valid, (applyP f s l[i]).1.Units, acc ++ [(applyP f s l[i]).1])) := by
        unfold steps_Run_l0
        simp only
        rw [if_pos (by simp; omega), idx_lt hi]
        simp only [Option.bind_some, apply_sp]
        rw [if_neg (by simpa using h0), ck_t (by simp; omega), w64 (by omega) (by omega)]
        rfl
      rw [iter_go hgo, ih (i + 1) _ _ (by omega) (by simp; omega)]
      rw [runP, if_neg (not_not_intro h0)]
      by_cases h1 : (runP f (applyP f s l[i]).1 (l.drop (i + 1))).2 = 0
      · rw [if_neg (not_not_intro h1)]
        simp [runE, h1]
      · rw [if_pos h1]
        simp [runE, h1]
    · refine iter_out ?_
      unfold steps_Run_l0
      simp only
      rw [if_pos (by simp; omega), idx_lt hi]
      simp only [Option.bind_some, apply_sp]
      rw [if_pos (by simpa using h0), runP, if_pos h0]
      simp [runE, h0]
theorem run_sp {f : api_Fleet} {s : api_Rotation} {l : List api_Step} (hr : RightOk f s) (hl : l.length ≤ 120) : steps_Run f s l = some (runP f s l) := by
  unfold steps_Run steps_check
  rw [right_sp, decide_eq_true hr]
  simp only [Option.bind_some]
  rw [if_neg (by simp), if_neg (by simp; omega)]
  simp only [Option.bind_some]
  rw [if_neg (by simp)]
  have := run_loop (f := f) (l := l) (by omega) l.length 0 s [] (by omega) rfl
  rw [List.drop_zero] at this
  rw [show (0 : Int) = ((0 : Nat) : Int) from rfl, this]
  simp only [Option.bind_some, runE]
  by_cases h : (runP f s l).2 = 0
  · rw [if_pos h]
    simp only [List.nil_append]
    rw [show ((0 : Nat) : Int) = (runP f s l).2 from h.symm]
  · rw [if_neg h]
    simp only
    rw [← runP_err l s h]
theorem runP_eq {f : api_Fleet} {s : api_Rotation} {x : api_Step} {l : List api_Step} : runP f s (x :: l) = if (applyP f s x).2 ≠ 0 then ([], (applyP f s x).2) else if (runP f (applyP f s x).1 l).2 ≠ 0 then ([], (runP f (applyP f s x).1 l).2) else ((applyP f s x).1 :: (runP f (applyP f s x).1 l).1, 0) := rfl
theorem runP_cons {f : api_Fleet} {s : api_Rotation} {x : api_Step} {l : List api_Step} (h : (runP f s (x :: l)).2 = 0) : (applyP f s x).2 = 0 ∧ (runP f (applyP f s x).1 l).2 = 0 ∧ runP f s (x :: l) = ((applyP f s x).1 :: (runP f (applyP f s x).1 l).1, 0) := by
  rw [runP_eq] at h ⊢
  split at h
  · rename_i h1; exact absurd h h1
  · rename_i h1
    split at h
    · rename_i h2; exact absurd h h2
    · rename_i h2
      rw [if_neg h1, if_neg h2]
      exact ⟨by simpa using h1, by simpa using h2, rfl⟩
theorem runP_right {f : api_Fleet} : ∀ (l : List api_Step) (s : api_Rotation), RightOk f s → (runP f s l).2 = 0 → (runP f s l).1.length = l.length ∧ ∀ r ∈ (runP f s l).1, RightOk f r := fun l => by
  induction l with
  | nil => intro s _ _; exact ⟨rfl, fun r h => by cases h⟩
  | cons x l ih =>
    intro s hr h
    obtain ⟨h1, h2, h3⟩ := runP_cons h
    obtain ⟨r1, _⟩ := apply_right hr h1
    obtain ⟨i1, i2⟩ := ih _ r1 h2
    rw [h3]
    refine ⟨by simp [i1], fun r hm => ?_⟩
    rcases List.mem_cons.1 hm with rfl | hm
    · exact r1
    · exact i2 r hm
theorem runP_37 {f : api_Fleet} : ∀ (l : List api_Step) (s : api_Rotation), RightOk f s → (∀ x ∈ l, kindOk f x) → (runP f s l).2 ≠ 0 → (runP f s l).2 = 37 := fun l => by
  induction l with
  | nil => intro s _ _ h; exact absurd rfl h
  | cons x l ih =>
    intro s hr hk h
    unfold runP at h ⊢
    by_cases h1 : (applyP f s x).2 = 0
    · rw [if_neg (not_not_intro h1)] at h ⊢
      by_cases h2 : (runP f (applyP f s x).1 l).2 = 0
      · rw [if_neg (not_not_intro h2)] at h; simp at h
      · rw [if_pos h2]
        exact ih _ (apply_right hr h1).1 (fun y hy => hk y (List.mem_cons_of_mem _ hy)) h2
    · rw [if_pos h1]
      exact apply_err hr (hk x (List.mem_cons_self ..)) h1
theorem runP_split {f : api_Fleet} : ∀ (k : Nat) (l : List api_Step) (s : api_Rotation), RightOk f s → k ≤ l.length → (runP f s l).2 = 0 →
    (runP f s (l.take k)).2 = 0 ∧ (runP f s (l.take k)).1.length = k ∧ ∃ s', (0 < k → (runP f s (l.take k)).1[k - 1]? = some s') ∧ (k = 0 → s' = s) ∧ RightOk f s' ∧ (runP f s' (l.drop k)).2 = 0 ∧
      (runP f s (l.take k)).1 ++ (runP f s' (l.drop k)).1 = (runP f s l).1 := fun k => by
  induction k with
  | zero =>
    intro l s hr _ h
    exact ⟨rfl, rfl, s, fun h => absurd h (Nat.lt_irrefl _), fun _ => rfl, hr, h, rfl⟩
  | succ k ih =>
    intro l s hr hk h
    cases l with
    | nil => simp at hk
    | cons x l =>
      obtain ⟨h1, h2, h3⟩ := runP_cons h
      obtain ⟨r1, _⟩ := apply_right hr h1
      obtain ⟨i1, i2, s', i3, i4, i5, i6, i7⟩ := ih l _ r1 (by simpa using hk) h2
      have e : runP f s ((x :: l).take (k + 1)) = ((applyP f s x).1 :: (runP f (applyP f s x).1 (l.take k)).1, 0) := by
        rw [List.take_succ_cons, runP, if_neg (not_not_intro h1), if_neg (not_not_intro i1)]
      rw [e, h3]
      refine ⟨rfl, by simp [i2], s', fun _ => ?_, fun h => by omega, i5, i6, by simp [i7]⟩
      cases k with
      | zero => simp [i4 rfl]
      | succ k => simpa using i3 (by omega)

/-! Lists of states and of steps -/
abbrev SM : Type := Int × (List Int) × Int × Int × Int × (List api_Unit) × (List api_Step)
/-! The law of choices -/
theorem safe_possible {f : api_Fleet} {s : api_Rotation} {x : api_Step} (h : safeP f s x = true) : (applyP f s x).2 = 0 := by
  unfold safeP at h
  simp only [Bool.and_eq_true, beq_iff_eq] at h
  exact h.1
theorem choicesC_len {sf : api_Step → Bool} {n : Nat} (h : n ≤ 8) : (choicesC sf n).length ≤ 64 := by
  unfold choicesC
  rw [List.length_flatten, List.map_map]
  have : ∀ l : List Nat, (l.map (List.length ∘ fun (j : Nat) => rowC sf n ((j + 1 : Nat) : Int))).sum ≤ 8 * l.length := fun l => by
    induction l with
    | nil => simp
    | cons j l ih =>
      have := rowC_len sf n ((j + 1 : Nat) : Int)
      simp only [List.map_cons, List.sum_cons, List.length_cons, Function.comp]
      omega
  exact Nat.le_trans (this _) (by simp)
end Go.Vl
