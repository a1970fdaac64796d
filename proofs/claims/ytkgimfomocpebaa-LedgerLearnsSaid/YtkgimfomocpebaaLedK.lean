/- Walks over functions of the given program in the value logic: what each computes, and plain laws of it. Conditions: none. -/
import Derived.Test.YtkgimfomocpebaaLedJ
import Derived.Test.YtkgimfomocpebaaLedF
set_option linter.unusedSimpArgs false
set_option linter.unusedVariables false
namespace Go.Vl
open Go Go.Proofs

theorem blf_B {l : List Rec} (hv : Valid l) {k u t : Int} : blf l k u t = match B l u t k with | none => (0, -1, false) | some j => ((l[j]?.map Rec.v).getD 0, (j : Int), true) := by
  unfold blf; rw [if_pos hv]; rfl
theorem all_le {l : List Rec} (hv : Valid l) {j : Nat} {r : Rec} (hr : l[j]? = some r) : r.k ≤ lastK 0 l ∧ 0 ≤ r.k := by
  have hj : j < l.length := (List.getElem?_eq_some_iff.1 hr).1
  obtain ⟨r2, hr2, hk⟩ := lastK_get 0 l (by intro e; simp [e] at hj)
  exact ⟨by rw [← hk]; exact chk_mono hv.2 (by omega) hr hr2, chk_mono.low hv.2 hr⟩

/-- is the value believed at k? -/
def bv (l : List Rec) (u t v : Int) (k : Int) : Bool := (blf l k u t).2.2 && ((blf l k u t).1 == v)
theorem bv_iff {l : List Rec} (hv : Valid l) {u t v k : Int} : bv l u t v k = true ↔ ∃ j r, B l u t k = some j ∧ l[j]? = some r ∧ r.v = v := by
  unfold bv; rw [blf_B hv]
  cases hb : B l u t k with
  | none => simp
  | some j => obtain ⟨r, hr, _⟩ := B_some hb; simp [hr]
def firstTo (P : Int → Bool) : Nat → Int
  | 0 => -1
  | k + 1 => if firstTo P k < 0 && P k then k else firstTo P k
theorem firstTo_none {P : Int → Bool} : ∀ n : Nat, (∀ k : Nat, k < n → P k = false) → firstTo P n = -1
  | 0, _ => rfl
  | n + 1, h => by simp [firstTo, firstTo_none n (fun k hk => h k (by omega)), h n (by omega)]
theorem firstTo_stay {P : Int → Bool} {n : Nat} (h : 0 ≤ firstTo P n) : ∀ m, firstTo P (n + m) = firstTo P n
  | 0 => rfl
  | m + 1 => by
    have ih := firstTo_stay h m
    have : ¬ firstTo P n < 0 := by omega
    show firstTo P (n + m + 1) = _
    simp [firstTo, ih, this]
theorem firstTo_some {P : Int → Bool} {K n : Nat} (hK : K < n) (h : ∀ k : Nat, k < K → P k = false) (hP : P K = true) : firstTo P n = K := by
  have h1 : firstTo P (K + 1) = K := by simp [firstTo, firstTo_none K h, hP]
  have := firstTo_stay (P := P) (n := K + 1) (by omega) (n - (K + 1))
  rw [h1, show K + 1 + (n - (K + 1)) = n by omega] at this
  exact this
theorem first_learn {l : List Rec} (hv : Valid l) (h27 : lastK 0 l ≤ 27) (u t v : Int) :
    firstTo (bv l u t v) 40 = (learn l (chg l u t l.length).1 v).getD (-1) ∧ ((learn l (chg l u t l.length).1 v).isSome = true → 0 ≤ (learn l (chg l u t l.length).1 v).getD (-1)) := by
  have I := chg_inv hv u t l.length (Nat.le_refl _)
  generalize (chg l u t l.length) = c at *
  have key : ∀ k, bv l u t v k = true → ∃ j r, l[j]? = some r ∧ r.k ≤ k ∧ (r.v, j) ∈ c.1 ∧ r.v = v := by
    intro k hk
    obtain ⟨j, r, hb, hr, hrv⟩ := (bv_iff hv).1 hk
    obtain ⟨r', hr', hk', _⟩ := B_some hb
    rw [hr] at hr'; cases hr'
    exact ⟨j, r, hr, hk', I.has j r (List.getElem?_eq_some_iff.1 hr).1 hr (B_back hb hr (Int.le_refl _) hk'), hrv⟩
  unfold learn
  cases hf : c.1.find? (fun x => x.1 == v) with
  | none =>
    refine ⟨?_, by simp⟩
    simp only [Option.map_none, Option.getD_none]
    refine firstTo_none 40 fun k _ => ?_
    cases hq : bv l u t v k with
    | false => rfl
    | true =>
      obtain ⟨j, r, _, _, hm, hrv⟩ := key k hq
      have := List.find?_eq_none.1 hf _ hm
      simp [hrv] at this
  | some x =>
    have hx1 : x.1 = v := by have := List.find?_some hf; simpa using this
    have hxm := List.mem_of_find?_eq_some hf
    obtain ⟨r, hr, hrv, hb⟩ := I.mem x hxm
    obtain ⟨hle, h0⟩ := all_le hv hr
    simp only [Option.map_some, hr, Option.getD_some]
    refine ⟨?_, fun _ => h0⟩
    have hK : ((r.k.toNat : Nat) : Int) = r.k := by omega
    have := firstTo_some (P := bv l u t v) (K := r.k.toNat) (n := 40) (by omega) (fun k hk => ?_) ((bv_iff hv).2 ⟨x.2, r, by rw [hK]; exact hb, hr, by rw [hrv, hx1]⟩)
    · rw [this, hK]
    · cases hq : bv l u t v k with
      | false => rfl
      | true =>
        exfalso
        obtain ⟨j, r2, hr2, hk2, hm, hrv2⟩ := key k hq
        obtain ⟨xs, ys, hc, hbs⟩ := (List.find?_eq_some_iff_append.1 hf).2
        have hup := I.up
        rw [hc] at hup hm
        rcases List.mem_append.1 hm with hm | hm
        · have := hbs _ hm; simp [hrv2] at this
        · rcases List.mem_cons.1 hm with hm | hm
          · have : x.2 = j := by rw [← hm]
            rw [this, hr2] at hr; cases hr; omega
          · have h3 := (List.pairwise_cons.1 (List.pairwise_append.1 hup).2.1).1 _ hm r r2 hr hr2
            omega
theorem now_end {l : List Rec} (hv : Valid l) (u t k : Int) (hk : lastK 0 l ≤ k) :
    ((chg l u t l.length).1 = [] ∧ blf l k u t = (0, -1, false)) ∨
    (∃ x, 0 < (chg l u t l.length).1.length ∧ (chg l u t l.length).1[(chg l u t l.length).1.length - 1]? = some x ∧ blf l k u t = (x.1, (x.2 : Int), true)) := by
  have I := chg_inv hv u t l.length (Nat.le_refl _)
  generalize chg l u t l.length = c at *
  have hB : B l u t k = c.2 := by
    by_cases hn : l.length = 0
    · have h1 := I.last
      rw [I.zero hn] at h1
      rw [← h1]; simp only [B, hn]; rfl
    · have hp : l[l.length - 1]? = some l[l.length - 1] := List.getElem?_eq_getElem (by omega)
      generalize l[l.length - 1] = r at hp
      have hle := (all_le hv hp).1
      rw [I.now r (by omega) hp]
      cases hb : B l u t k with
      | some j =>
        obtain ⟨rj, hrj, _⟩ := B_some hb
        have hj : j < l.length := (List.getElem?_eq_some_iff.1 hrj).1
        exact (B_back hb hrj (chk_mono hv.2 (by omega) hrj hp) (by omega)).symm
      | none =>
        cases hb2 : B l u t r.k with
        | none => rfl
        | some j => obtain ⟨j', h'⟩ := B_up hb2 (show r.k ≤ k by omega); rw [hb] at h'; cases h'
  rw [blf_B hv, hB]
  cases hq : c.1.getLast? with
  | none =>
    left
    have h0 : c.1 = [] := by simpa using hq
    have := I.last; rw [hq] at this; simp at this
    exact ⟨h0, by rw [← this]⟩
  | some x =>
    right
    have hx := List.mem_of_getLast? hq
    obtain ⟨r, hr, hrv, _⟩ := I.mem x hx
    have := I.last; rw [hq] at this; simp at this
    refine ⟨x, List.length_pos_of_mem hx, by rw [← List.getLast?_eq_getElem?]; exact hq, ?_⟩
    rw [← this]; simp [hr, hrv]
end Go.Vl
