/- Walks over functions of the given program in the value logic: what each computes, and plain laws of it. Conditions: none. -/
import Derived.Test.YtkgimfomocpebaaLedF
set_option linter.unusedSimpArgs false
set_option linter.unusedVariables false
namespace Go.Vl
open Go Go.Proofs

/-! what is believed, as a fold over the records -/
def pick1 (k u t : Int) (o : Option Rec) (r : Rec) : Option Rec :=
  if says k u t r && (match o with | none => true | some b => decide (b.s ≤ r.s)) then some r else o
def best (k u t : Int) (l : List Rec) : Option Rec := l.foldl (pick1 k u t) none
theorem best_append (k u t : Int) (l : List Rec) (r : Rec) : best k u t (l ++ [r]) = pick1 k u t (best k u t l) r := by simp [best]
theorem bel_best {l : List Rec} {k u t : Int} : ∀ i, i ≤ l.length → (bel l k u t i).bind (fun j => l[j]?) = best k u t (l.take i)
  | 0, _ => rfl
  | i + 1, h => by
    have ih := bel_best (l := l) (k := k) (u := u) (t := t) i (by omega)
    have hr : l[i]? = some l[i] := by simp [h]
    generalize l[i] = r at hr
    rw [List.take_add_one, hr]
    simp only [Option.toList_some, best_append, ← ih, bel, hr, pick1]
    cases hq : bel l k u t i with
    | none => cases hs : says k u t r <;> simp [better, hr]
    | some j =>
      obtain ⟨hj, _⟩ := bel_lt hq
      have hrj : l[j]? = some (l[j]'(by omega)) := List.getElem?_eq_getElem (by omega)
      generalize l[j]'(by omega) = rj at hrj
      cases hs : says k u t r <;> simp [better, hrj]
      split <;> simp [hr, hrj]
theorem blf_best {l : List Rec} (hv : Valid l) (k u t : Int) : (blf l k u t).1 = ((best k u t l).map Rec.v).getD 0 ∧ (blf l k u t).2.2 = (best k u t l).isSome := by
  have hb := bel_best (l := l) (k := k) (u := u) (t := t) l.length (Nat.le_refl _)
  rw [List.take_length] at hb
  unfold blf
  rw [if_pos hv, ← hb]
  cases hq : bel l k u t l.length with
  | none => simp
  | some j =>
    obtain ⟨hj, _⟩ := bel_lt hq
    simp [List.getElem?_eq_getElem hj]
theorem best_filter (k u t : Int) (l : List Rec) : ∀ o, (l.filter fun r => r.u == u).foldl (pick1 k u t) o = l.foldl (pick1 k u t) o := by
  induction l with
  | nil => intro o; rfl
  | cons r l ih =>
    intro o
    cases h : r.u == u with
    | true => simp [h, ih]
    | false =>
      have : pick1 k u t o r = o := by simp [pick1, says, h]
      simp [h, ih, this]
theorem best_says {k u t : Int} {l : List Rec} : ∀ o, (∀ b, o = some b → b.s ≤ t) → ∀ b, l.foldl (pick1 k u t) o = some b → b.s ≤ t := by
  induction l with
  | nil => intro o ho b hb; exact ho b hb
  | cons r l ih =>
    intro o ho b hb
    refine ih _ ?_ b hb
    intro b' hb'
    cases hc : says k u t r with
    | false => simp [pick1, hc] at hb'; exact ho b' hb'
    | true =>
      have ht : r.s ≤ t := by simp [says] at hc; exact hc.2
      cases o with
      | none => simp [pick1, hc] at hb'; subst hb'; exact ht
      | some b =>
        simp [pick1, hc] at hb'
        split at hb'
        · cases hb'; exact ht
        · exact ho b' (by simpa using hb')
theorem chk_le {k k' : Int} (h : k' ≤ k) : ∀ {l : List Rec}, chk k l → chk k' l
  | [], _ => trivial
  | r :: l, ⟨⟨h1, h2⟩, h3⟩ => ⟨⟨⟨by omega, h1.2⟩, h2⟩, h3⟩
theorem chk_filter (f : Rec → Bool) : ∀ (k : Int) (l : List Rec), chk k l → chk k (l.filter f)
  | k, [], _ => trivial
  | k, r :: l, ⟨h1, h3⟩ => by
    have ih := chk_filter f r.k l h3
    cases h : f r with
    | true => simp only [List.filter_cons, h, if_true]; exact ⟨h1, ih⟩
    | false => simp only [List.filter_cons, h, Bool.false_eq_true, if_false]; exact chk_le h1.1.1 ih
theorem valid_filter (f : Rec → Bool) {l : List Rec} (h : Valid l) : Valid (l.filter f) :=
  ⟨Nat.le_trans (List.length_filter_le _ _) h.1, chk_filter f 0 l h.2⟩
theorem blf_filter {l : List Rec} (h : Valid l) (k u t : Int) :
    (blf (l.filter fun r => r.u == u) k u t).1 = (blf l k u t).1 ∧ (blf (l.filter fun r => r.u == u) k u t).2.2 = (blf l k u t).2.2 := by
  have e : best k u t (l.filter fun r => r.u == u) = best k u t l := best_filter k u t l none
  rw [(blf_best h k u t).1, (blf_best h k u t).2, (blf_best (valid_filter _ h) k u t).1, (blf_best (valid_filter _ h) k u t).2, e]
  exact ⟨rfl, rfl⟩
theorem bel_last {l : List Rec} {r : Rec} : bel (l ++ [r]) r.k r.u r.s (l.length + 1) = some l.length := by
  have hg : (l ++ [r])[l.length]? = some r := by simp
  have hs : says r.k r.u r.s r = true := by simp [says]
  have hb : better (l ++ [r]) (bel (l ++ [r]) r.k r.u r.s l.length) r = true := by
    cases hq : bel (l ++ [r]) r.k r.u r.s l.length with
    | none => rfl
    | some j =>
      obtain ⟨hj, x, hx, hsx⟩ := bel_lt hq
      simp [says] at hsx
      simp [better, hx, hsx.2]
  simp [bel, hs, hb]
theorem blf_last {l : List Rec} {r : Rec} (h : Valid (l ++ [r])) : blf (l ++ [r]) r.k r.u r.s = (r.v, (l.length : Int), true) := by
  unfold blf
  rw [if_pos h]
  have := bel_last (l := l) (r := r)
  simp only [List.length_append, List.length_cons, List.length_nil, Nat.zero_add, this]
  simp
end Go.Vl
