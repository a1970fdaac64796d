/- Walks over functions of the given program in the value logic: what each computes, and plain laws of it. Conditions: none. -/
import Derived.Test.YtkgimfomocpebaaLedG
set_option linter.unusedSimpArgs false
set_option linter.unusedVariables false
namespace Go.Vl
open Go Go.Proofs

/-! what is believed first, and the changes of belief -/
theorem bel_max {l : List Rec} {k u t : Int} : ∀ i, i ≤ l.length → ∀ j2 r2, j2 < i → l[j2]? = some r2 → says k u t r2 = true →
    ∃ j r, bel l k u t i = some j ∧ l[j]? = some r ∧ (r2.s < r.s ∨ (r2.s = r.s ∧ j2 ≤ j))
  | 0, _ => fun j2 r2 h => by omega
  | i + 1, hi => fun j2 r2 hj2 hr2 hs2 => by
    have ih := bel_max (l := l) (k := k) (u := u) (t := t) i (by omega)
    have hr : l[i]? = some l[i] := by simp [hi]
    generalize l[i] = r at hr
    simp only [bel, hr]
    by_cases hlt : j2 < i
    · obtain ⟨j, x, hb, hx, ho⟩ := ih j2 r2 hlt hr2 hs2
      rw [hb]
      cases hc : says k u t r && better l (some j) r with
      | false => exact ⟨j, x, by simp, hx, ho⟩
      | true =>
        simp [better, hx] at hc
        exact ⟨i, r, by simp, hr, by omega⟩
    · obtain rfl : j2 = i := by omega
      rw [hr] at hr2; cases hr2
      rw [hs2]
      cases hb : bel l k u t j2 with
      | none => exact ⟨j2, r2, by simp [better], hr, by omega⟩
      | some j =>
        obtain ⟨hj, x, hx, _⟩ := bel_lt hb
        cases hc : better l (some j) r2 with
        | true => exact ⟨j2, r2, by simp, hr, by omega⟩
        | false =>
          simp [better, hx] at hc
          exact ⟨j, x, by simp, hx, by omega⟩

abbrev B (l : List Rec) (u t k : Int) : Option Nat := bel l k u t l.length
theorem B_some {l : List Rec} {u t k : Int} {j : Nat} (h : B l u t k = some j) : ∃ r, l[j]? = some r ∧ r.k ≤ k ∧ r.u = u ∧ r.s ≤ t := by
  obtain ⟨_, r, hr, hs⟩ := bel_lt h
  simp [says] at hs
  exact ⟨r, hr, hs.1.1, hs.1.2, hs.2⟩
theorem B_back {l : List Rec} {u t k k' : Int} {j : Nat} {r : Rec} (h : B l u t k = some j) (hr : l[j]? = some r) (h1 : r.k ≤ k') (h2 : k' ≤ k) : B l u t k' = some j := by
  obtain ⟨r', hr', _, hu, hs⟩ := B_some h
  rw [hr] at hr'; cases hr'
  have hj : j < l.length := (List.getElem?_eq_some_iff.1 hr).1
  obtain ⟨j2, r2, hb2, hr2, ho2⟩ := bel_max (l := l) (k := k') (u := u) (t := t) l.length (Nat.le_refl _) j r hj hr (by simp [says, h1, hu, hs])
  obtain ⟨r3, hr3, hk3, hu3, hs3⟩ := B_some hb2
  rw [hr2] at hr3; cases hr3
  have hj2 : j2 < l.length := (List.getElem?_eq_some_iff.1 hr2).1
  obtain ⟨j4, r4, hb4, hr4, ho4⟩ := bel_max (l := l) (k := k) (u := u) (t := t) l.length (Nat.le_refl _) j2 r2 hj2 hr2 (by simp [says, hu3, hs3]; omega)
  have e4 : j4 = j := by have := hb4.symm.trans h; simpa using this
  subst e4
  rw [hr] at hr4; cases hr4
  have : j2 = j4 := by omega
  subst this; exact hb2
theorem B_up {l : List Rec} {u t k k' : Int} {j : Nat} (h : B l u t k' = some j) (h2 : k' ≤ k) : ∃ j', B l u t k = some j' := by
  obtain ⟨r, hr, hk, hu, hs⟩ := B_some h
  have hj : j < l.length := (List.getElem?_eq_some_iff.1 hr).1
  obtain ⟨j2, r2, hb2, _, _⟩ := bel_max (l := l) (k := k) (u := u) (t := t) l.length (Nat.le_refl _) j r hj hr (by simp [says, hu, hs]; omega)
  exact ⟨j2, hb2⟩
theorem chk_mono {k : Int} : ∀ {l : List Rec} {i j : Nat} {a b : Rec}, chk k l → i ≤ j → l[i]? = some a → l[j]? = some b → a.k ≤ b.k
  | [], i, j, a, b, _, _, h, _ => by simp at h
  | r :: l, 0, 0, a, b, _, _, h1, h2 => by simp at h1 h2; subst h1 h2; exact Int.le_refl _
  | r :: l, 0, j + 1, a, b, hc, _, h1, h2 => by
    simp at h1 h2; subst h1
    exact low hc.2 h2
  | r :: l, i + 1, j + 1, a, b, hc, hij, h1, h2 => by
    simp at h1 h2
    exact chk_mono hc.2 (by omega) h1 h2
where low {k : Int} : ∀ {l : List Rec} {j : Nat} {b : Rec}, chk k l → l[j]? = some b → k ≤ b.k
  | [], _, _, _, h => by simp at h
  | r :: l, 0, b, hc, h => by simp at h; subst h; exact hc.1.1.1
  | r :: l, j + 1, b, hc, h => by simp at h; exact Int.le_trans hc.1.1.1 (low hc.2 h)

def chg (l : List Rec) (u t : Int) : Nat → List (Int × Nat) × Option Nat
  | 0 => ([], none)
  | i + 1 =>
    let c := chg l u t i
    match l[i]? with
    | some r => if B l u t r.k = c.2 then c else match B l u t r.k with
      | some j => (c.1 ++ [((l[j]?.map Rec.v).getD 0, j)], some j)
      | none => c
    | none => c

structure ChgInv (l : List Rec) (u t : Int) (i : Nat) (c : List (Int × Nat) × Option Nat) : Prop where
  last : c.1.getLast?.map (·.2) = c.2
  now : ∀ r, 0 < i → l[i - 1]? = some r → c.2 = B l u t r.k
  zero : i = 0 → c.1 = []
  apart : ∀ m a b, c.1[m]? = some a → c.1[m + 1]? = some b → a.2 ≠ b.2
  mem : ∀ x ∈ c.1, ∃ r, l[x.2]? = some r ∧ r.v = x.1 ∧ B l u t r.k = some x.2
  has : ∀ j r, j < i → l[j]? = some r → B l u t r.k = some j → (r.v, j) ∈ c.1
  up : c.1.Pairwise fun x y => ∀ a b, l[x.2]? = some a → l[y.2]? = some b → a.k ≤ b.k
  low : ∀ x ∈ c.1, ∀ a b, l[x.2]? = some a → l[i - 1]? = some b → a.k ≤ b.k

theorem chg_inv {l : List Rec} (hv : Valid l) (u t : Int) : ∀ i, i ≤ l.length → ChgInv l u t i (chg l u t i)
  | 0, _ => ⟨rfl, fun _ h => absurd h (by omega), fun _ => rfl, fun m a b h => by simp [chg] at h, fun x hx => by simp [chg] at hx, fun j r h => by omega, List.Pairwise.nil, fun x hx => by simp [chg] at hx⟩
  | i + 1, hi => by
    have ih := chg_inv hv u t i (by omega)
    have hr : l[i]? = some l[i] := by simp [hi]
    generalize l[i] = r at hr
    generalize hc : chg l u t i = c at ih
    have hmono : ∀ b, l[i - 1]? = some b → b.k ≤ r.k := fun b hb => chk_mono hv.2 (by omega) hb hr
    by_cases he : B l u t r.k = c.2
    · have e : chg l u t (i + 1) = c := by simp only [chg, hc, hr]; rw [if_pos he]
      rw [e]
      refine ⟨ih.last, fun r' _ hr' => ?_, fun h => by omega, ih.apart, ih.mem, fun j r' hj hr' hb => ?_, ih.up, fun x hx a b ha hb => ?_⟩
      · simp only [Nat.add_sub_cancel, hr] at hr'; cases hr'; exact he.symm
      · by_cases hji : j < i
        · exact ih.has j r' hji hr' hb
        · obtain rfl : j = i := by omega
          rw [hr] at hr'; cases hr'
          have h2 : c.2 = some j := he.symm.trans hb
          rw [← ih.last] at h2
          obtain ⟨x, hx, hxj⟩ := Option.map_eq_some_iff.1 h2
          have hxm := List.mem_of_getLast? hx
          obtain ⟨r2, hr2, hv2, _⟩ := ih.mem x hxm
          rw [hxj, hr] at hr2; cases hr2
          have : x = (r.v, j) := Prod.ext hv2.symm hxj
          rw [← this]; exact hxm
      · simp only [Nat.add_sub_cancel, hr] at hb; cases hb
        obtain ⟨r2, hr2, _, _⟩ := ih.mem x hx
        by_cases hi0 : i = 0
        · rw [ih.zero hi0] at hx; simp at hx
        · have hp : l[i - 1]? = some l[i - 1] := List.getElem?_eq_getElem (by omega)
          exact Int.le_trans (ih.low x hx a _ ha hp) (hmono _ hp)
    · cases hb : B l u t r.k with
      | none =>
        exfalso
        by_cases hi0 : i = 0
        · have := ih.zero hi0; have h2 := ih.last; rw [this] at h2; simp at h2; rw [hb] at he; exact he h2
        · have hp : l[i - 1]? = some l[i - 1] := List.getElem?_eq_getElem (by omega)
          have hn := ih.now _ (by omega) hp
          cases hq : B l u t l[i - 1].k with
          | none => rw [hq] at hn; rw [hb, hn] at he; exact he rfl
          | some j => obtain ⟨j', hj'⟩ := B_up hq (hmono _ hp); rw [hb] at hj'; cases hj'
      | some j =>
        obtain ⟨rj, hrj, hkj, _, _⟩ := B_some hb
        have e : chg l u t (i + 1) = (c.1 ++ [(rj.v, j)], some j) := by simp only [chg, hc, hr]; rw [if_neg he, hb]; simp [hrj]
        have hbj : B l u t rj.k = some j := B_back hb hrj (Int.le_refl _) hkj
        have hgt : ∀ b, 0 < i → l[i - 1]? = some b → b.k < rj.k := by
          intro b hi0 hp
          rcases Int.lt_or_le b.k rj.k with h | h
          · exact h
          · exfalso; apply he
            rw [ih.now _ hi0 hp, hb]
            exact (B_back hb hrj h (hmono _ hp)).symm
        rw [e]
        refine ⟨by simp, fun r' _ hr' => ?_, fun h => by omega, fun m a b ha hb2 => ?_, fun x hx => ?_, fun j2 r' hj hr' hb2 => ?_, ?_, fun x hx a b ha hb2 => ?_⟩
        · simp only [Nat.add_sub_cancel, hr] at hr'; cases hr'; exact hb.symm
        · by_cases hm : m + 1 < c.1.length
          · rw [List.getElem?_append_left (by omega)] at ha hb2; exact ih.apart m a b ha hb2
          · have hlen : m + 1 < (c.1 ++ [(rj.v, j)]).length := (List.getElem?_eq_some_iff.1 hb2).1
            simp at hlen
            have hml : c.1.length = m + 1 := by omega
            rw [List.getElem?_append_left (by omega)] at ha
            rw [List.getElem?_append_right (by omega), hml] at hb2
            simp at hb2; subst hb2
            intro hne
            apply he
            rw [hb, ← ih.last, List.getLast?_eq_getElem?, hml]
            simp only [Nat.add_sub_cancel, ha, Option.map_some, hne]
        · rcases List.mem_append.1 hx with hx | hx
          · exact ih.mem x hx
          · simp at hx; subst hx; exact ⟨rj, hrj, rfl, hbj⟩
        · by_cases hji : j2 < i
          · exact List.mem_append.2 (.inl (ih.has j2 r' hji hr' hb2))
          · obtain rfl : j2 = i := by omega
            rw [hr] at hr'; cases hr'
            rw [hb] at hb2; cases hb2
            rw [hr] at hrj; cases hrj
            simp
        · refine List.pairwise_append.2 ⟨ih.up, by simp, fun x hx y hy a b ha hb2 => ?_⟩
          simp at hy; subst hy
          rw [hrj] at hb2; cases hb2
          by_cases hi0 : i = 0
          · rw [ih.zero hi0] at hx; simp at hx
          · have hp : l[i - 1]? = some l[i - 1] := List.getElem?_eq_getElem (by omega)
            have := ih.low x hx a _ ha hp
            have := hgt _ (by omega) hp
            omega
        · simp only [Nat.add_sub_cancel, hr] at hb2; cases hb2
          rcases List.mem_append.1 hx with hx | hx
          · by_cases hi0 : i = 0
            · rw [ih.zero hi0] at hx; simp at hx
            · have hp : l[i - 1]? = some l[i - 1] := List.getElem?_eq_getElem (by omega)
              exact Int.le_trans (ih.low x hx a _ ha hp) (hmono _ hp)
          · simp at hx; subst hx
            rw [hrj] at ha; cases ha; exact hkj
end Go.Vl
