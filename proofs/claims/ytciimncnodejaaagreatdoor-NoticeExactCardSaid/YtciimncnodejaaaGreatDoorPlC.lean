/- Plain laws: more loops over lists, lists put in order. Conditions: none. -/
import Derived.Test.YtciimncnodejaaaGreatDoorPlB
set_option linter.unusedSimpArgs false
set_option linter.unusedVariables false
namespace Go.Vl
open Go

/-- what stands before the place i -/
def prevT {α : Type} (t : α → Int) (last : Int) (l : List α) (i : Nat) : Int := if i = 0 then last else (l[i - 1]?.map t).getD last
/-- each element fits behind the one before it -/
def fitB {α : Type} (p : Int → α → Bool) (t : α → Int) : Int → List α → Bool
  | _, [] => true
  | last, x :: l => p last x && fitB p t (t x) l
theorem chain_loop {α ε : Type} {body : Int × Int → Option (Lp (Int × Int) (Unit ⊕ ε))} (l : List α) (p : Int → α → Bool) (t : α → Int) (e : ε)
    (hgo : ∀ (i : Nat) (h : i < l.length) (last : Int), body (last, (i : Int)) = some (if p last l[i] = true then .go (t l[i], ((i + 1 : Nat) : Int)) else .out (.inr e)))
    (hend : ∀ last, body (last, (l.length : Int)) = some (.out (.inl ()))) (last : Int) : iter body (last, 0) = some (if fitB p t last l = true then .inl () else .inr e) := by
  have key : ∀ (m i : Nat) (last : Int), i + m = l.length → iter body (last, (i : Int)) = some (if fitB p t last (l.drop i) = true then .inl () else .inr e) := fun m => by
    induction m with
    | zero =>
      intro i last h
      have : i = l.length := by omega
      subst this
      rw [List.drop_length]
      exact iter_out (hend last)
    | succ m ih =>
      intro i last h
      have hi : i < l.length := by omega
      rw [List.drop_eq_getElem_cons hi, fitB]
      have h1 := hgo i hi last
      cases hp : p last l[i] with
      | true => rw [hp, if_pos rfl] at h1; rw [iter_go h1, ih (i + 1) _ (by omega)]; simp
      | false => rw [hp, if_neg (by decide)] at h1; rw [iter_out h1]; simp
  simpa using key l.length 0 last (by omega)
theorem iter_allE {ε : Type} {body : Int → Option (Lp Int (Unit ⊕ ε))} (n : Nat) (p : Nat → Bool) (e : ε) (hgo : ∀ i, i < n → body (i : Int) = some (if p i = true then .go ((i + 1 : Nat) : Int) else .out (.inr e)))
    (hend : body (n : Int) = some (.out (.inl ()))) : iter body 0 = some (if (∀ i, i < n → p i = true) then .inl () else .inr e) := by
  have key : ∀ (m i : Nat), i + m = n → ((∀ j, i ≤ j → j < n → p j = true) → iter body (i : Int) = some (.inl ())) ∧ ((∃ j, i ≤ j ∧ j < n ∧ p j = false) → iter body (i : Int) = some (.inr e)) := fun m => by
    induction m with
    | zero =>
      intro i h
      have : i = n := by omega
      subst this
      exact ⟨fun _ => iter_out hend, fun ⟨j, h1, h2, _⟩ => by omega⟩
    | succ m ih =>
      intro i h
      have h1 := hgo i (by omega)
      obtain ⟨i1, i2⟩ := ih (i + 1) (by omega)
      by_cases hp : p i = true
      · rw [if_pos hp] at h1
        rw [iter_go h1]
        refine ⟨fun h2 => i1 fun j h3 h4 => h2 j (by omega) h4, fun ⟨j, h3, h4, h5⟩ => i2 ⟨j, ?_, h4, h5⟩⟩
        rcases Nat.lt_or_eq_of_le h3 with h6 | h6
        · exact h6
        · subst h6; rw [hp] at h5; cases h5
      · rw [if_neg hp] at h1
        rw [iter_out h1]
        exact ⟨fun h2 => absurd (h2 i (Nat.le_refl i) (by omega)) hp, fun _ => rfl⟩
  obtain ⟨k1, k2⟩ := key n 0 (by omega)
  by_cases h : ∀ i, i < n → p i = true
  · rw [if_pos h]; exact k1 fun j _ => h j
  · rw [if_neg h]
    refine k2 ?_
    refine Classical.byContradiction fun hn => h fun i hi => ?_
    cases hp : p i with
    | true => rfl
    | false => exact absurd ⟨i, Nat.zero_le i, hi, hp⟩ hn
theorem chain_idx {α : Type} (p : Int → α → Bool) (t : α → Int) : ∀ (l : List α) (last : Int), fitB p t last l = true ↔ ∀ (i : Nat) (h : i < l.length), p (prevT t last l i) l[i] = true
  | [], last => by simp [fitB]
  | x :: l, last => by
    simp only [fitB, Bool.and_eq_true, chain_idx p t l (t x)]
    constructor
    · rintro ⟨h1, h2⟩ i hi
      cases i with
      | zero => simpa [prevT] using h1
      | succ i =>
        have h3 := h2 i (by simpa using hi)
        have e : prevT t last (x :: l) (i + 1) = prevT t (t x) l i := by
          unfold prevT
          cases i with
          | zero => simp
          | succ i =>
            have h4 : i < l.length := by simp at hi; omega
            simp [h4]
        rw [e]; exact h3
    · intro h
      refine ⟨h 0 (Nat.zero_lt_succ _), fun i hi => ?_⟩
      have h3 := h (i + 1) (by simpa using hi)
      have e : prevT t last (x :: l) (i + 1) = prevT t (t x) l i := by
        unfold prevT
        cases i with
        | zero => simp
        | succ i =>
          have h4 : i < l.length := by omega
          simp [h4]
      rw [e] at h3; simpa using h3
theorem prevT_succ {α : Type} (t : α → Int) (last : Int) (l : List α) {i : Nat} (h : i < l.length) : prevT t last l (i + 1) = t l[i] := by simp [prevT, h]
theorem prevT_zero {α : Type} (t : α → Int) (last : Int) (l : List α) : prevT t last l 0 = last := rfl
/-- a loop that asks every place about the one before it -/
theorem chain_at {α ε : Type} {body : Int → Option (Lp Int (Unit ⊕ ε))} (l : List α) (p : Int → α → Bool) (t : α → Int) (last : Int) (e : ε)
    (hgo : ∀ (i : Nat) (h : i < l.length), body (i : Int) = some (if p (prevT t last l i) l[i] = true then .go ((i + 1 : Nat) : Int) else .out (.inr e)))
    (hend : body (l.length : Int) = some (.out (.inl ()))) : iter body 0 = some (if fitB p t last l = true then .inl () else .inr e) := by
  rw [iter_allE l.length (fun i => if h : i < l.length then p (prevT t last l i) l[i] else true) e (fun i hi => by simp only [hi, dif_pos]; exact hgo i hi) hend]
  by_cases h : fitB p t last l = true
  · rw [if_pos h, if_pos]
    intro i hi
    simp only [hi, dif_pos]
    exact (chain_idx p t l last).1 h i hi
  · rw [if_neg h, if_neg]
    intro hn
    refine h ((chain_idx p t l last).2 fun i hi => ?_)
    have := hn i hi
    simp only [hi, dif_pos] at this
    exact this

theorem iter_foldlS {α σ σ' ε : Type} {body : σ' → Option (Lp σ' ε)} (l : List α) (S : Nat → σ → σ') (f : σ → α → σ) (fin : σ → ε) (Inv : Nat → σ → Prop)
    (hgo : ∀ (i : Nat) (h : i < l.length) (s : σ), Inv i s → body (S i s) = some (.go (S (i + 1) (f s l[i]))) ∧ Inv (i + 1) (f s l[i]))
    (hend : ∀ s, Inv l.length s → body (S l.length s) = some (.out (fin s))) (s0 : σ) (h0 : Inv 0 s0) : iter body (S 0 s0) = some (fin (l.foldl f s0)) ∧ Inv l.length (l.foldl f s0) := by
  have key : ∀ (m i : Nat) (s : σ), i + m = l.length → Inv i s → iter body (S i s) = some (fin ((l.drop i).foldl f s)) ∧ Inv l.length ((l.drop i).foldl f s) := fun m => by
    induction m with
    | zero =>
      intro i s h hi
      have : i = l.length := by omega
      subst this
      rw [List.drop_length]
      exact ⟨iter_out (hend s hi), hi⟩
    | succ m ih =>
      intro i s h hi
      have hl : i < l.length := by omega
      obtain ⟨h1, h2⟩ := hgo i hl s hi
      rw [iter_go h1, List.drop_eq_getElem_cons hl, List.foldl_cons]
      exact ih (i + 1) _ (by omega) h2
  simpa using key l.length 0 s0 (by omega) h0
/-- a search in a list -/
theorem iter_findS {α ε : Type} {body : Int → Option (Lp Int ε)} (l : List α) (p : α → Bool) (A : Nat → α → ε) (B : ε)
    (hgo : ∀ (i : Nat) (h : i < l.length), body (i : Int) = some (if p l[i] = true then .out (A i l[i]) else .go (((i + 1 : Nat) : Int))))
    (hend : body (l.length : Int) = some (.out B)) : (l.any p = false → iter body 0 = some B) ∧ (l.any p = true → ∃ (i : Nat) (h : i < l.length), p l[i] = true ∧ iter body 0 = some (A i l[i])) := by
  have key : ∀ (m i : Nat), i + m = l.length → ((l.drop i).any p = false → iter body (i : Int) = some B) ∧ ((l.drop i).any p = true → ∃ (k : Nat) (h : k < l.length), p l[k] = true ∧ iter body (i : Int) = some (A k l[k])) := fun m => by
    induction m with
    | zero =>
      intro i h
      have : i = l.length := by omega
      subst this
      rw [List.drop_length]
      exact ⟨fun _ => iter_out hend, fun h => by simp at h⟩
    | succ m ih =>
      intro i h
      have hi : i < l.length := by omega
      rw [List.drop_eq_getElem_cons hi, List.any_cons]
      have h1 := hgo i hi
      cases hp : p l[i] with
      | true =>
        rw [hp, if_pos rfl] at h1
        exact ⟨fun h => by simp at h, fun _ => ⟨i, hi, hp, iter_out h1⟩⟩
      | false =>
        rw [hp, if_neg (by decide)] at h1
        rw [iter_go h1]
        simpa using ih (i + 1) (by omega)
  simpa using key l.length 0 (by omega)
theorem fit_nonneg {α : Type} {p : Int → α → Bool} {t : α → Int} (hp : ∀ last x, p last x = true → last ≤ t x) : ∀ (l : List α) (last : Int), 0 ≤ last → fitB (fun last x => decide (0 ≤ t x) && p last x) t last l = fitB p t last l
  | [], _, _ => rfl
  | x :: l, last, h => by
    simp only [fitB]
    cases hx : p last x with
    | false => simp
    | true =>
      have := hp last x hx
      rw [fit_nonneg hp l (t x) (by omega), decide_eq_true (by omega)]; simp
theorem fit_mem {α : Type} {p : Int → α → Bool} {t : α → Int} : ∀ {l : List α} {last : Int}, fitB p t last l = true → ∀ x ∈ l, ∃ a, p a x = true
  | [], _, _, x, hx => by cases hx
  | y :: l, last, h, x, hx => by
    simp only [fitB, Bool.and_eq_true] at h
    rcases List.mem_cons.1 hx with rfl | hx
    · exact ⟨_, h.1⟩
    · exact fit_mem h.2 x hx
end Go.Vl
