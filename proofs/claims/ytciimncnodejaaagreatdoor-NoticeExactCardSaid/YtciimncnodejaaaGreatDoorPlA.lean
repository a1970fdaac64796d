/- Plain laws: small numbers, indices, sorted lists. Conditions: none. -/
import Derived.Test.YtciimncnodejaaaGreatDoorVmV
set_option linter.unusedSimpArgs false
set_option linter.unusedVariables false
namespace Go.Vl
open Go

theorem w64 {x : Int} (h1 : -9223372036854775808 ≤ x) (h2 : x ≤ 9223372036854775807) : IntKind.i64.wrap x = x := wrapI h1 h2
theorem wu64 {x : Int} (h1 : 0 ≤ x) (h2 : x ≤ 18446744073709551615) : IntKind.u64.wrap x = x := by
  simp [IntKind.wrap, IntKind.signed, IntKind.bits]; omega
theorem idx_lt {α : Type} {l : List α} {i : Nat} (h : i < l.length) : idx l (i : Int) = some l[i] := by rw [idx_nat, List.getElem?_eq_getElem h]
theorem idx_toNat {α : Type} {l : List α} {i : Int} (h0 : 0 ≤ i) (h : i.toNat < l.length) : idx l i = some l[i.toNat] := by
  unfold idx; rw [if_pos h0, List.getElem?_eq_getElem h]

/-- strictly ascending -/
def ascB : List Int → Bool
  | [] => true
  | [_] => true
  | a :: b :: l => decide (a < b) && ascB (b :: l)
theorem ascB_iff : ∀ l : List Int, ascB l = true ↔ l.Pairwise (· < ·)
  | [] => by simp [ascB]
  | [_] => by simp [ascB]
  | a :: b :: l => by
    simp only [ascB, Bool.and_eq_true, decide_eq_true_eq, ascB_iff (b :: l)]
    constructor
    · rintro ⟨h1, h2⟩
      refine .cons (fun x hx => ?_) h2
      rcases List.mem_cons.1 hx with rfl | hx
      · exact h1
      · exact Int.lt_trans h1 (List.rel_of_pairwise_cons h2 hx)
    · intro h
      exact ⟨List.rel_of_pairwise_cons h (by simp), (List.pairwise_cons.1 h).2⟩

/-- the first place at which a sorted list is not below x -/
theorem sorted_split {l : List Int} (hs : l.Pairwise (· < ·)) {i j : Nat} (hij : i < j) (hj : j < l.length) : l[i] < l[j] :=
  List.pairwise_iff_getElem.1 hs i j (by omega) hj hij

theorem mem_at {l : List Int} (hs : l.Pairwise (· < ·)) {x : Int} {i : Nat} (h1 : ∀ k (hk : k < l.length), k < i → l[k] < x) (h2 : ∀ k (hk : k < l.length), i ≤ k → x ≤ l[k]) (hi : i ≤ l.length) :
    (∃ h : i < l.length, l[i] = x) ↔ x ∈ l := by
  constructor
  · rintro ⟨h, rfl⟩; exact List.getElem_mem h
  · intro hx
    obtain ⟨k, hk, rfl⟩ := List.getElem_of_mem hx
    have hik : ¬ k < i := fun h => by have := h1 k hk h; omega
    have hle : ¬ i < k := fun h => by
      have g1 := sorted_split hs h hk
      have g2 := h2 i (by omega) (Nat.le_refl i)
      omega
    have : k = i := by omega
    subst this
    exact ⟨hk, rfl⟩
end Go.Vl
