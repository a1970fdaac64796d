/- Plain laws: loops over lists. Conditions: none. -/
import Derived.Test.YtciimncnodejaaaGreatDoorPlA
set_option linter.unusedSimpArgs false
set_option linter.unusedVariables false
namespace Go.Vl
open Go

def scanN {σ ε : Type} (g : Nat → σ → ε ⊕ σ) (fin : σ → ε) : Nat → Nat → σ → ε
  | 0, _, s => fin s
  | m + 1, i, s => match g i s with
    | .inl e => e
    | .inr s' => scanN g fin m (i + 1) s'
theorem iter_N {σ' σ ε : Type} {body : σ' → Option (Lp σ' ε)} (n : Nat) (S : Nat → σ → σ') (g : Nat → σ → ε ⊕ σ) (fin : σ → ε) (Inv : Nat → σ → Prop)
    (hgo : ∀ i, i < n → ∀ s, Inv i s → body (S i s) = some (match g i s with | .inl e => .out e | .inr s' => .go (S (i + 1) s')) ∧ ∀ s', g i s = .inr s' → Inv (i + 1) s')
    (hend : ∀ s, Inv n s → body (S n s) = some (.out (fin s))) : ∀ (m i : Nat) (s : σ), i + m = n → Inv i s → iter body (S i s) = some (scanN g fin m i s)
  | 0, i, s, h, hi => by
    have : i = n := by omega
    subst this
    exact iter_out (hend s hi)
  | m + 1, i, s, h, hi => by
    obtain ⟨h1, h2⟩ := hgo i (by omega) s hi
    simp only [scanN]
    cases hg : g i s with
    | inl e => rw [hg] at h1; exact iter_out h1
    | inr s' =>
      rw [hg] at h1
      rw [iter_go h1]
      exact iter_N n S g fin Inv hgo hend m (i + 1) s' (by omega) (h2 s' hg)

/-- a loop that asks something of every place -/
theorem iter_all {body : Int → Option (Lp Int (Unit ⊕ Bool))} (n : Nat) (p : Nat → Bool) (hgo : ∀ i, i < n → body (i : Int) = some (if p i = true then .go ((i + 1 : Nat) : Int) else .out (.inr false)))
    (hend : body (n : Int) = some (.out (.inl ()))) : iter body 0 = some (if (∀ i, i < n → p i = true) then .inl () else .inr false) := by
  have key : ∀ (m i : Nat), i + m = n → ((∀ j, i ≤ j → j < n → p j = true) → iter body (i : Int) = some (.inl ())) ∧ ((∃ j, i ≤ j ∧ j < n ∧ p j = false) → iter body (i : Int) = some (.inr false)) := fun m => by
    induction m with
    | zero =>
      intro i h
      have : i = n := by omega
      subst this
      exact ⟨fun _ => iter_out hend, fun ⟨j, h1, h2, _⟩ => by omega⟩
    | succ m ih =>
      intro i h
      have h1 := hgo i (by omega)
      obtain ⟨i1, i2⟩ := ih (i + 1) (by omega)
      by_cases hp : p i = true
      · rw [if_pos hp] at h1
        rw [iter_go h1]
        refine ⟨fun h2 => i1 fun j h3 h4 => h2 j (by omega) h4, fun ⟨j, h3, h4, h5⟩ => i2 ⟨j, ?_, h4, h5⟩⟩
        rcases Nat.lt_or_eq_of_le h3 with h6 | h6
        · exact h6
        · subst h6; rw [hp] at h5; cases h5
      · rw [if_neg hp] at h1
        rw [iter_out h1]
        exact ⟨fun h2 => absurd (h2 i (Nat.le_refl i) (by omega)) hp, fun _ => rfl⟩
  obtain ⟨k1, k2⟩ := key n 0 (by omega)
  by_cases h : ∀ i, i < n → p i = true
  · rw [if_pos h]; exact k1 fun j _ => h j
  · rw [if_neg h]
    refine k2 ?_
    refine Classical.byContradiction fun hn => h fun i hi => ?_
    cases hp : p i with
    | true => rfl
    | false => exact absurd ⟨i, Nat.zero_le i, hi, hp⟩ hn

/-- a loop that folds a list -/
theorem iter_foldl {α σ ε : Type} {body : Int × σ → Option (Lp (Int × σ) ε)} (l : List α) (f : σ → α → σ) (fin : σ → ε) (Inv : Nat → σ → Prop)
    (hgo : ∀ (i : Nat) (h : i < l.length) (s : σ), Inv i s → body ((i : Int), s) = some (.go (((i + 1 : Nat) : Int), f s l[i])) ∧ Inv (i + 1) (f s l[i]))
    (hend : ∀ s, Inv l.length s → body ((l.length : Int), s) = some (.out (fin s))) (s0 : σ) (h0 : Inv 0 s0) : iter body (0, s0) = some (fin (l.foldl f s0)) := by
  have key : ∀ (m i : Nat) (s : σ), i + m = l.length → Inv i s → iter body ((i : Int), s) = some (fin ((l.drop i).foldl f s)) := fun m => by
    induction m with
    | zero =>
      intro i s h hi
      have : i = l.length := by omega
      subst this
      rw [iter_out (hend s hi)]; simp
    | succ m ih =>
      intro i s h hi
      obtain ⟨h1, h2⟩ := hgo i (by omega) s hi
      rw [iter_go h1, ih (i + 1) _ (by omega) h2, List.drop_eq_getElem_cons (show i < l.length by omega)]
      rfl
  have := key l.length 0 s0 (by omega) h0
  simpa using this
end Go.Vl
