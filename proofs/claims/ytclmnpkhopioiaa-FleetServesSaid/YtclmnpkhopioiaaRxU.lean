/- Plain laws of steps: lists of steps, choices, runs; a step is a choice exactly if it is safe. Conditions: none. -/
import Derived.Test.YtclmnpkhopioiaaRxT
set_option linter.unusedSimpArgs false
set_option linter.unusedVariables false
namespace Go.Vl
open Go

theorem iter_foldl2 {α σ σ' ε : Type} {body : σ' → Option (Lp σ' ε)} (l : List α) (S : Nat → σ → σ') (f : σ → α → σ) (fin : σ → ε) (Inv : Nat → σ → Prop)
    (hgo : ∀ (i : Nat) (h : i < l.length) (s : σ), Inv i s → body (S i s) = some (.go (S (i + 1) (f s l[i]))) ∧ Inv (i + 1) (f s l[i]))
    (hend : ∀ s, Inv l.length s → body (S l.length s) = some (.out (fin s))) (s0 : σ) (h0 : Inv 0 s0) : iter body (S 0 s0) = some (fin (l.foldl f s0)) := by
  have key : ∀ (m i : Nat) (s : σ), i + m = l.length → Inv i s → iter body (S i s) = some (fin ((l.drop i).foldl f s)) := fun m => by
    induction m with
    | zero =>
      intro i s h hi
      have : i = l.length := by omega
      subst this
      rw [List.drop_length]
      exact iter_out (hend s hi)
    | succ m ih =>
      intro i s h hi
      have hl : i < l.length := by omega
      obtain ⟨h1, h2⟩ := hgo i hl s hi
      rw [iter_go h1, ih (i + 1) _ (by omega) h2, List.drop_eq_getElem_cons hl, List.foldl_cons]
  simpa using key l.length 0 s0 (by omega) h0

instance : DecidableEq api_Step := fun a b => if h : a.Kind = b.Kind ∧ a.Unit = b.Unit then .isTrue (by obtain ⟨a1, a2⟩ := a; obtain ⟨b1, b2⟩ := b; simp_all) else .isFalse (fun e => h (by rw [e]; exact ⟨rfl, rfl⟩))
/-! Choices -/
def rowC (sf : api_Step → Bool) (n : Nat) (k : Int) : List api_Step := ((List.range n).filter fun (i : Nat) => sf ⟨k, (i : Int)⟩).map fun (i : Nat) => ⟨k, (i : Int)⟩
def choicesC (sf : api_Step → Bool) (n : Nat) : List api_Step := ((List.range 8).map fun (j : Nat) => rowC sf n ((j + 1 : Nat) : Int)).flatten
theorem rowC_len (sf : api_Step → Bool) (n : Nat) (k : Int) : (rowC sf n k).length ≤ n := by
  unfold rowC
  rw [List.length_map]
  exact Nat.le_trans (List.length_filter_le _ _) (by simp)
theorem mem_choicesC {sf : api_Step → Bool} {n : Nat} {x : api_Step} : x ∈ choicesC sf n ↔ 1 ≤ x.Kind ∧ x.Kind ≤ 8 ∧ 0 ≤ x.Unit ∧ x.Unit < n ∧ sf x = true := by
  obtain ⟨k, u⟩ := x
  simp only [choicesC, rowC, List.mem_flatten, List.mem_map, List.mem_range, List.mem_filter]
  constructor
  · rintro ⟨l, ⟨j, hj, rfl⟩, hx⟩
    simp only [List.mem_map, List.mem_filter, List.mem_range] at hx
    obtain ⟨i, ⟨hi, hs⟩, e⟩ := hx
    simp only [api_Step.mk.injEq] at e
    obtain ⟨rfl, rfl⟩ := e
    exact ⟨by omega, by omega, by omega, by omega, hs⟩
  · rintro ⟨h1, h2, h3, h4, h5⟩
    refine ⟨_, ⟨(k - 1).toNat, by omega, rfl⟩, ?_⟩
    have e1 : (((k - 1).toNat + 1 : Nat) : Int) = k := by omega
    have e2 : ((u.toNat : Nat) : Int) = u := by omega
    rw [e1]
    simp only [List.mem_map, List.mem_filter, List.mem_range]
    exact ⟨u.toNat, ⟨by omega, by rw [e2]; exact h5⟩, by rw [e2]⟩
theorem fold_filter {α β : Type} (p : α → Bool) (g : α → β) (l : List α) (a : List β) : l.foldl (fun (a : List β) x => if p x = true then a ++ [g x] else a) a = a ++ (l.filter p).map g := by
  induction l generalizing a with
  | nil => simp
  | cons q l ih => simp only [List.foldl_cons, ih, List.filter_cons]; split <;> simp
theorem fold_flat {α β : Type} (g : α → List β) (l : List α) (a : List β) : l.foldl (fun (a : List β) x => a ++ g x) a = a ++ (l.map g).flatten := by
  induction l generalizing a with
  | nil => simp
  | cons q l ih => simp only [List.foldl_cons, ih, List.map_cons, List.flatten_cons, List.append_assoc]
theorem choices_sp {f : api_Fleet} {s : api_Rotation} (h8 : s.Units.length ≤ 100) : steps_Choices f s = some (choicesC (safeP f s) s.Units.length) := by
  have h1 : ∀ (k : Int) (acc : List api_Step), acc.length ≤ 1000 → iter (steps_Choices_l1 s f (k, acc)) (0, acc) = some (acc ++ rowC (safeP f s) s.Units.length k) := fun k acc hacc => by
    have := iter_foldl2 (body := steps_Choices_l1 s f (k, acc)) (List.range s.Units.length) (fun i a => ((i : Int), a)) (fun (a : List api_Step) (i : Nat) => if safeP f s ⟨k, (i : Int)⟩ = true then a ++ [⟨k, (i : Int)⟩] else a) id (fun i a => a.length ≤ 1000 + i) (fun i hi a ha => ?_) (fun a ha => ?_) acc (by simpa using hacc)
    · rw [fold_filter (fun i : Nat => safeP f s ⟨k, (i : Int)⟩) (fun i : Nat => (⟨k, (i : Int)⟩ : api_Step))] at this
      exact this
    · have hi' : i < s.Units.length := by simpa using hi
      unfold steps_Choices_l1
      simp only [safe_sp, List.getElem_range, Option.bind_some]
      rw [if_pos (by simp; omega), w64 (by omega) (by omega)]
      by_cases hp : safeP f s ⟨k, (i : Int)⟩ = true
      · rw [if_pos hp, if_pos hp, ck_t (by simp; omega)]; exact ⟨rfl, by simp; omega⟩
      · rw [if_neg hp, if_neg hp]; exact ⟨rfl, by omega⟩
    · unfold steps_Choices_l1
      simp only [List.length_range]
      rw [if_neg (by simp)]; rfl
  unfold steps_Choices
  have := iter_foldl2 (body := steps_Choices_l0 s f) (List.range 8) (fun i a => (((i + 1 : Nat) : Int), a)) (fun (a : List api_Step) (j : Nat) => a ++ rowC (safeP f s) s.Units.length ((j + 1 : Nat) : Int)) id (fun i a => a.length ≤ 100 * i) (fun i hi a ha => ?_) (fun a ha => ?_) [] (by simp)
  · rw [fold_flat (fun j : Nat => rowC (safeP f s) s.Units.length ((j + 1 : Nat) : Int))] at this
    simp only [List.nil_append, id] at this
    rw [show ((1 : Int), ([] : List api_Step)) = (((0 + 1 : Nat) : Int), []) from rfl, this]; rfl
  · have hi' : i < 8 := by simpa using hi
    have := rowC_len (safeP f s) s.Units.length ((i + 1 : Nat) : Int)
    unfold steps_Choices_l0
    simp only [List.getElem_range]
    rw [if_pos (by simp; omega), h1 _ _ (by omega)]
    simp only [Option.bind_some]
    rw [w64 (by omega) (by omega)]
    exact ⟨rfl, by simp only [List.length_append]; omega⟩
  · unfold steps_Choices_l0
    simp only [List.length_range]
    rw [if_neg (by simp)]; rfl

/-! Runs -/
def runP (f : api_Fleet) : api_Rotation → List api_Step → List api_Rotation × Int
  | _, [] => ([], 0)
  | s, x :: l => if (applyP f s x).2 ≠ 0 then ([], (applyP f s x).2) else if (runP f (applyP f s x).1 l).2 ≠ 0 then ([], (runP f (applyP f s x).1 l).2) else ((applyP f s x).1 :: (runP f (applyP f s x).1 l).1, 0)
def runE (acc : List api_Rotation) (r : List api_Rotation × Int) : (List api_Rotation) ⊕ ((List api_Rotation) × Int) := if r.2 = 0 then .inl (acc ++ r.1) else .inr ([], r.2)
theorem runP_err {f : api_Fleet} : ∀ (l : List api_Step) (s : api_Rotation), (runP f s l).2 ≠ 0 → (runP f s l).1 = [] := fun l => by
  induction l with
  | nil => intro s h; rfl
  | cons x l ih =>
    intro s h
    unfold runP at h ⊢
    split
    · rfl
    · split
      · rfl
      · rename_i h1 h2; rw [if_neg h1, if_neg h2] at h; simp at h
theorem run_loop {f : api_Fleet} {l : List api_Step} (hl : l.length ≤ 1000) : ∀ (m i : Nat) (s : api_Rotation) (acc : List api_Rotation), i + m = l.length → acc.length = i →
    iter (steps_Run_l0 l f) ((i : Int), s.Known, s.Valid, s.Units, acc) = some (runE acc (runP f s (l.drop i))) := fun m => by
  induction m with
  | zero =>
    intro i s acc h ha
    have : i = l.length := by omega
    subst this
    rw [List.drop_length]
    refine iter_out ?_
    unfold steps_Run_l0
    simp only
    rw [if_neg (by simp)]
    simp [runE, runP]
  | succ m ih =>
    intro i s acc h ha
    have hi : i < l.length := by omega
    rw [List.drop_eq_getElem_cons hi]
    by_cases h0 : (applyP f s l[i]).2 = 0
    · have hgo : steps_Run_l0 l f ((i : Int), s.Known, s.Valid, s.Units, acc) = some (.go (((i + 1 : Nat) : Int), (applyP f s l[i]).1.Known, (applyP f s l[i]).1.Valid, (applyP f s l[i]).1.Units, acc ++ [(applyP f s l[i]).1])) := by
        unfold steps_Run_l0
        simp only
        rw [if_pos (by simp; omega), idx_lt hi]
        simp only [Option.bind_some, apply_sp]
        rw [if_neg (by simpa using h0), ck_t (by simp; omega), w64 (by omega) (by omega)]
        rfl
      rw [iter_go hgo, ih (i + 1) _ _ (by omega) (by simp; omega)]
      rw [runP, if_neg (not_not_intro h0)]
      by_cases h1 : (runP f (applyP f s l[i]).1 (l.drop (i + 1))).2 = 0
      · rw [if_neg (not_not_intro h1)]
        simp [runE, h1]
      · rw [if_pos h1]
        simp [runE, h1]
    · refine iter_out ?_
      unfold steps_Run_l0
      simp only
      rw [if_pos (by simp; omega), idx_lt hi]
      simp only [Option.bind_some, apply_sp]
      rw [if_pos (by simpa using h0), runP, if_pos h0]
      simp [runE, h0]
theorem run_sp {f : api_Fleet} {s : api_Rotation} {l : List api_Step} (hr : RightOk f s) (hl : l.length ≤ 120) : steps_Run f s l = some (runP f s l) := by
  unfold steps_Run steps_check
  rw [right_sp, decide_eq_true hr]
  simp only [Option.bind_some]
  rw [if_neg (by simp), if_neg (by simp; omega)]
  simp only [Option.bind_some]
  rw [if_neg (by simp)]
  have := run_loop (f := f) (l := l) (by omega) l.length 0 s [] (by omega) rfl
  rw [List.drop_zero] at this
  rw [show (0 : Int) = ((0 : Nat) : Int) from rfl, this]
  simp only [Option.bind_some, runE]
  by_cases h : (runP f s l).2 = 0
  · rw [if_pos h]
    simp only [List.nil_append]
    rw [show ((0 : Nat) : Int) = (runP f s l).2 from h.symm]
  · rw [if_neg h]
    simp only
    rw [← runP_err l s h]
theorem runP_eq {f : api_Fleet} {s : api_Rotation} {x : api_Step} {l : List api_Step} : runP f s (x :: l) = if (applyP f s x).2 ≠ 0 then ([], (applyP f s x).2) else if (runP f (applyP f s x).1 l).2 ≠ 0 then ([], (runP f (applyP f s x).1 l).2) else ((applyP f s x).1 :: (runP f (applyP f s x).1 l).1, 0) := rfl
theorem runP_cons {f : api_Fleet} {s : api_Rotation} {x : api_Step} {l : List api_Step} (h : (runP f s (x :: l)).2 = 0) : (applyP f s x).2 = 0 ∧ (runP f (applyP f s x).1 l).2 = 0 ∧ runP f s (x :: l) = ((applyP f s x).1 :: (runP f (applyP f s x).1 l).1, 0) := by
  rw [runP_eq] at h ⊢
  split at h
  · rename_i h1; exact absurd h h1
  · rename_i h1
    split at h
    · rename_i h2; exact absurd h h2
    · rename_i h2
      rw [if_neg h1, if_neg h2]
      exact ⟨by simpa using h1, by simpa using h2, rfl⟩
theorem runP_right {f : api_Fleet} : ∀ (l : List api_Step) (s : api_Rotation), RightOk f s → (runP f s l).2 = 0 → (runP f s l).1.length = l.length ∧ ∀ r ∈ (runP f s l).1, RightOk f r := fun l => by
  induction l with
  | nil => intro s _ _; exact ⟨rfl, fun r h => by cases h⟩
  | cons x l ih =>
    intro s hr h
    obtain ⟨h1, h2, h3⟩ := runP_cons h
    obtain ⟨r1, _⟩ := apply_right hr h1
    obtain ⟨i1, i2⟩ := ih _ r1 h2
    rw [h3]
    refine ⟨by simp [i1], fun r hm => ?_⟩
    rcases List.mem_cons.1 hm with rfl | hm
    · exact r1
    · exact i2 r hm
theorem runP_37 {f : api_Fleet} : ∀ (l : List api_Step) (s : api_Rotation), RightOk f s → (∀ x ∈ l, kindOk f x) → (runP f s l).2 ≠ 0 → (runP f s l).2 = 37 := fun l => by
  induction l with
  | nil => intro s _ _ h; exact absurd rfl h
  | cons x l ih =>
    intro s hr hk h
    unfold runP at h ⊢
    by_cases h1 : (applyP f s x).2 = 0
    · rw [if_neg (not_not_intro h1)] at h ⊢
      by_cases h2 : (runP f (applyP f s x).1 l).2 = 0
      · rw [if_neg (not_not_intro h2)] at h; simp at h
      · rw [if_pos h2]
        exact ih _ (apply_right hr h1).1 (fun y hy => hk y (List.mem_cons_of_mem _ hy)) h2
    · rw [if_pos h1]
      exact apply_err hr (hk x (List.mem_cons_self ..)) h1
theorem runP_split {f : api_Fleet} : ∀ (k : Nat) (l : List api_Step) (s : api_Rotation), RightOk f s → k ≤ l.length → (runP f s l).2 = 0 →
    (runP f s (l.take k)).2 = 0 ∧ (runP f s (l.take k)).1.length = k ∧ ∃ s', (0 < k → (runP f s (l.take k)).1[k - 1]? = some s') ∧ (k = 0 → s' = s) ∧ RightOk f s' ∧ (runP f s' (l.drop k)).2 = 0 ∧
      (runP f s (l.take k)).1 ++ (runP f s' (l.drop k)).1 = (runP f s l).1 := fun k => by
  induction k with
  | zero =>
    intro l s hr _ h
    exact ⟨rfl, rfl, s, fun h => absurd h (Nat.lt_irrefl _), fun _ => rfl, hr, h, rfl⟩
  | succ k ih =>
    intro l s hr hk h
    cases l with
    | nil => simp at hk
    | cons x l =>
      obtain ⟨h1, h2, h3⟩ := runP_cons h
      obtain ⟨r1, _⟩ := apply_right hr h1
      obtain ⟨i1, i2, s', i3, i4, i5, i6, i7⟩ := ih l _ r1 (by simpa using hk) h2
      have e : runP f s ((x :: l).take (k + 1)) = ((applyP f s x).1 :: (runP f (applyP f s x).1 (l.take k)).1, 0) := by
        rw [List.take_succ_cons, runP, if_neg (not_not_intro h1), if_neg (not_not_intro i1)]
      rw [e, h3]
      refine ⟨rfl, by simp [i2], s', fun _ => ?_, fun h => by omega, i5, i6, by simp [i7]⟩
      cases k with
      | zero => simp [i4 rfl]
      | succ k => simpa using i3 (by omega)

/-! Lists of states and of steps -/
theorem all_self {l : List api_Rotation} (h8 : ∀ r ∈ l, r.Units.length ≤ 1000000) (hl : l.length ≤ 1000) : ref32_All l l = some true := by
  unfold ref32_All
  rw [if_neg (by simp), iter_all l.length (fun _ => true) (fun i hi => ?_) ?_]
  · simp
  · unfold ref32_All_l0
    rw [if_neg (by simp)]
  · unfold ref32_All_l0
    rw [if_pos (by simp; omega), idx_lt hi]
    obtain ⟨r, h1, h2⟩ := same_sp (a := l[i]) (b := l[i]) (h8 _ (List.getElem_mem hi))
    simp only [Option.bind_some, h1]
    rw [h2.2 rfl, if_neg (by simp), w64 (by omega) (by omega)]; rfl
abbrev SM : Type := Int × (List Int) × Int × Int × Int × (List api_Unit) × (List api_Step)
theorem make_Steps_ex {m : make_Tape} (h : TOk m) {f : api_Fleet} (hf : FleetOk f) {s : api_Rotation} (hs : RightOk f s) {n : Int} (hn : n ≤ 1000) : ∃ l m', make_Steps m f s n = some (l, m') ∧ (l.length : Int) ≤ max n 0 ∧ (∀ x ∈ l, kindOk f x) ∧ TOk m' := by
  have key : ∃ e, iter (make_Steps_l0 n f) (0, m.L, m.at_, s.Known, s.Valid, s.Units, []) = some e ∧ (TOk ⟨e.1, e.2.1⟩ ∧ (e.2.2.length : Int) ≤ max n 0 ∧ ∀ x ∈ e.2.2, kindOk f x) := by
    refine iter_ex (body := make_Steps_l0 n f) (fun s : SM => 0 ≤ s.1 ∧ s.1 ≤ max n 0 ∧ TOk ⟨s.2.1, s.2.2.1⟩ ∧ RightOk f ⟨s.2.2.2.1, s.2.2.2.2.1, s.2.2.2.2.2.1⟩ ∧ (s.2.2.2.2.2.2.length : Int) ≤ s.1 ∧ ∀ x ∈ s.2.2.2.2.2.2, kindOk f x) (fun s => (n - s.1).toNat) _ ?_ ⟨by simp, by simp; omega, h, hs, by simp, by simp⟩
    rintro ⟨j, L, at_, kn, va, us, l⟩ ⟨g1, g0, g2, g3, g4, g5⟩
    simp only at g1 g0 g2 g3 g4 g5 ⊢
    unfold make_Steps_l0
    by_cases hj : j < n
    case neg =>
      right
      simp only
      rw [if_neg (by simpa using hj)]
      exact ⟨_, rfl, g2, by simp only; omega, g5⟩
    left
    simp only
    rw [if_pos (by simpa using hj)]
    obtain ⟨x, m2, e2, hx, t2⟩ := make_Step_ex g2 hf
    rw [e2]
    have hw : IntKind.i64.wrap (j + 1) = j + 1 := w64 (by omega) (by omega)
    have g6 : ∀ y ∈ l ++ [x], kindOk f y := fun y hy => by
      rcases List.mem_append.1 hy with hy | hy
      · exact g5 y hy
      · rw [List.mem_singleton] at hy; rw [hy]; exact hx
    simp only [Option.bind_some, rapply_sp, hw]
    by_cases h0 : (applyP f ⟨kn, va, us⟩ x).2 = 0
    · rw [if_neg (by simp [h0])]
      simp only [Option.bind_some]
      rw [if_neg (by simp), ck_t (by simp; omega)]
      simp only [Option.bind_some]
      rw [if_pos (by simp [h0])]
      exact ⟨_, rfl, ⟨by simp only; omega, by simp only; omega, t2, (apply_right g3 h0).1, by simp; omega, g6⟩, by simp; omega⟩
    · rw [if_pos (by simpa using h0)]
      obtain ⟨v, m3, e3, v1, v2, t3⟩ := next_ex t2 (n := 8) (by omega)
      rw [e3]
      simp only [Option.bind_some]
      by_cases hv : 0 < v
      · rw [if_pos (by simpa using hv)]
        exact ⟨_, rfl, ⟨by simp only; omega, by simp only; omega, t3, g3, by simp only; omega, g5⟩, by simp; omega⟩
      · rw [if_neg (by simpa using hv), ck_t (by simp; omega)]
        simp only [Option.bind_some]
        rw [if_neg (by simpa using h0)]
        exact ⟨_, rfl, ⟨by simp only; omega, by simp only; omega, t3, g3, by simp; omega, g6⟩, by simp; omega⟩
  obtain ⟨e, he, t, hl, hk⟩ := key
  unfold make_Steps
  rw [he]
  exact ⟨_, _, rfl, hl, hk, t⟩

/-! The law of choices -/
theorem any_loop {y6 : api_Step × make_Tape} {l : List api_Step} (hl : l.length ≤ 1000) : iter (law33_StepsChoices_l1 l y6) (false, 0) = some (decide (y6.1 ∈ l)) := by
  have := iter_foldl2 (body := law33_StepsChoices_l1 l y6) l (fun i (a : Bool) => (a, (i : Int))) (fun (a : Bool) (x : api_Step) => a || ((y6.1.Kind == x.Kind) && (y6.1.Unit == x.Unit))) id (fun _ _ => True) (fun i hi a _ => ?_) (fun a _ => ?_) false trivial
  · have hf : ∀ (l : List api_Step) (a : Bool), l.foldl (fun (a : Bool) (x : api_Step) => a || ((y6.1.Kind == x.Kind) && (y6.1.Unit == x.Unit))) a = (a || decide (y6.1 ∈ l)) := fun l => by
      induction l with
      | nil => intro a; simp
      | cons x l ih =>
        intro a
        rw [List.foldl_cons, ih]
        have : ((y6.1.Kind == x.Kind) && (y6.1.Unit == x.Unit)) = decide (y6.1 = x) := by
          obtain ⟨⟨a1, a2⟩, m⟩ := y6; obtain ⟨b1, b2⟩ := x
          rw [Bool.eq_iff_iff]; simp
        rw [this]
        by_cases h1 : y6.1 = x <;> by_cases h2 : y6.1 ∈ l <;> simp [h1, h2] <;> simp_all
    rw [hf] at this
    rw [show ((false, (0 : Int)) : Bool × Int) = (false, ((0 : Nat) : Int)) from rfl, this]
    simp
  · unfold law33_StepsChoices_l1
    simp only
    rw [if_pos (by simp; omega), idx_lt hi]
    simp only [Option.bind_some]
    rw [w64 (by omega) (by omega)]
    exact ⟨rfl, trivial⟩
  · unfold law33_StepsChoices_l1
    simp only
    rw [if_neg (by simp)]; rfl
theorem safe_possible {f : api_Fleet} {s : api_Rotation} {x : api_Step} (h : safeP f s x = true) : (applyP f s x).2 = 0 := by
  unfold safeP at h
  simp only [Bool.and_eq_true, beq_iff_eq] at h
  exact h.1
theorem choices_loop {f : api_Fleet} {m : make_Tape} {s : api_Rotation} {m' : make_Tape} {n : Nat} (hl : (choicesC (safeP f s) n).length ≤ 1000) : iter (law33_StepsChoices_l0 (choicesC (safeP f s) n) (f, m) (s, m')) 0 = some (.inl ()) := by
  rw [iter_all (choicesC (safeP f s) n).length (fun _ => true) (fun i hi => ?_) ?_]
  · simp
  · unfold law33_StepsChoices_l0
    rw [if_neg (by simp)]
  · unfold law33_StepsChoices_l0
    rw [if_pos (by simp; omega), idx_lt hi]
    obtain ⟨_, _, _, _, h5⟩ := mem_choicesC.1 (List.getElem_mem hi)
    simp only [Option.bind_some, safe_sp, possible_sp, h5, safe_possible h5]
    rw [if_neg (by simp)]
    simp only [Option.bind_some]
    rw [if_neg (by simp), w64 (by omega) (by omega)]; rfl
theorem choicesC_len {sf : api_Step → Bool} {n : Nat} (h : n ≤ 8) : (choicesC sf n).length ≤ 64 := by
  unfold choicesC
  rw [List.length_flatten, List.map_map]
  have : ∀ l : List Nat, (l.map (List.length ∘ fun (j : Nat) => rowC sf n ((j + 1 : Nat) : Int))).sum ≤ 8 * l.length := fun l => by
    induction l with
    | nil => simp
    | cons j l ih =>
      have := rowC_len sf n ((j + 1 : Nat) : Int)
      simp only [List.map_cons, List.sum_cons, List.length_cons, Function.comp]
      omega
  exact Nat.le_trans (this _) (by simp)
theorem StepsChoices_j {f : api_Fleet} {m : make_Tape} {s s' : api_Rotation} {l : List api_Step} {m' : make_Tape} {k : Int} {m'' : make_Tape} (hk : 0 ≤ k ∧ k ≤ l.length) (hl : l.length ≤ 8) (hr : RightOk f s)
    (h0 : (runP f s l).2 = 0) (hs' : RightOk f s') (h1 : (runP f s' (l.drop k.toNat)).2 = 0) (h2 : (runP f s (l.take k.toNat)).1 ++ (runP f s' (l.drop k.toNat)).1 = (runP f s l).1) :
    law33_StepsChoices_j2 (k, m'') (l, m') (f, m) (runP f s (l.take k.toNat)) (runP f s l) (s'.Known, s'.Valid, s'.Units) = some true := by
  obtain ⟨q1, q2⟩ := runP_right l s hr h0
  have hlen : (runP f s (l.take k.toNat)).1.length + (runP f s' (l.drop k.toNat)).1.length = l.length := by rw [← List.length_append, h2, q1]
  unfold law33_StepsChoices_j2
  simp only
  rw [ck_t (by omega)]
  simp only [Option.bind_some]
  rw [run_sp hs' (by simp; omega)]
  simp only [Option.bind_some]
  rw [if_pos (by simpa using h1), ck_t (by omega)]
  simp only [Option.bind_some]
  rw [ck_t (by omega)]
  simp only [Option.bind_some]
  rw [h2, all_self (fun r hm => by have := (q2 r hm).len; omega) (by omega)]
  simp only [Option.bind_some, if_true, awake33]
theorem StepsChoices_law (a : List Int) : law33_StepsChoices a = some true := by
  unfold law33_StepsChoices
  by_cases h : 300 < (a.length : Int)
  · rw [if_pos (by simpa using h), awake33]; rfl
  rw [if_neg (by simpa using h)]
  obtain ⟨f, m1, e1, hf, _, _, t1⟩ := make_Fleet_ex (tape0 h) (most := 4) (by omega) (by omega)
  rw [e1]
  simp only [Option.bind_some]
  obtain ⟨s, m2, e2, hs, t2⟩ := make_State_ex t1 hf
  rw [e2]
  have l8 := hs.len
  have hcl := choicesC_len (sf := safeP f s) l8.2
  simp only [Option.bind_some]
  rw [choices_sp (by omega)]
  simp only [Option.bind_some]
  rw [choices_loop (by omega)]
  simp only [Option.bind_some]
  obtain ⟨x, m3, e3, hx, t3⟩ := make_Step_ex t2 hf
  rw [e3]
  simp only [Option.bind_some]
  rw [any_loop (by omega)]
  simp only [Option.bind_some, safe_sp]
  have hsafe : decide (x ∈ choicesC (safeP f s) s.Units.length) = safeP f s x := by
    rw [Bool.eq_iff_iff, decide_eq_true_eq, mem_choicesC]
    obtain ⟨x1, x2, x3, x4, x5⟩ := hx
    have := hs.2.2.2.1
    exact ⟨fun h => h.2.2.2.2, fun h => ⟨x1, x2, x3, by omega, h⟩⟩
  rw [hsafe, if_neg (by simp)]
  obtain ⟨l, m4, e4, hll, hlk, t4⟩ := make_Steps_ex t3 hf hs (n := 8) (by omega)
  rw [e4]
  have hl8 : l.length ≤ 8 := by omega
  simp only [Option.bind_some]
  rw [run_sp hs (by omega)]
  simp only [Option.bind_some]
  by_cases h0 : (runP f s l).2 = 0
  case neg =>
    have := runP_37 l s hs hlk h0
    rw [if_pos (by simpa using h0), if_pos (by simp [this]), awake33]; rfl
  rw [if_neg (by simp [h0]), w64 (by omega) (by omega)]
  obtain ⟨k, m5, e5, k1, k2, t5⟩ := next_ex t4 (n := (l.length : Int) + 1) (by omega)
  rw [e5]
  simp only [Option.bind_some]
  rw [ck_t (by omega)]
  simp only [Option.bind_some]
  rw [run_sp hs (by simp; omega)]
  simp only [Option.bind_some]
  obtain ⟨p1, p2, s', p3, p4, p5, p6, p7⟩ := runP_split k.toNat l s hs (by omega) h0
  have q1 := (runP_right l s hs h0).1
  have hc : ((runP f s (l.take k.toNat)).2 != 0 || ((((runP f s (l.take k.toNat)).1.length : Int) != k) || (((runP f s l).1.length : Int) != (l.length : Int)))) = false := by
    rw [p1, p2, q1]; simp; omega
  rw [if_neg (by rw [hc]; simp)]
  have J := StepsChoices_j (m := m1) (m' := m4) (m'' := m5) (s := s) (s' := s') (l := l) (k := k) ⟨k1, by omega⟩ hl8 hs h0 p5 p6 p7
  by_cases hk : 0 < k
  · rw [if_pos (by simpa using hk), w64 (by omega) (by omega), idx_toNat (by omega) (by omega)]
    have := p3 (by omega)
    have e : (k - 1).toNat = k.toNat - 1 := by omega
    have hlt : k.toNat - 1 < (runP f s (l.take k.toNat)).1.length := by omega
    rw [List.getElem?_eq_getElem hlt] at this
    simp only [Option.bind_some, e, Option.some.inj this]
    exact J
  · rw [if_neg (by simpa using hk)]
    have : s' = s := p4 (by omega)
    rw [this] at J
    exact J
end Go.Vl
