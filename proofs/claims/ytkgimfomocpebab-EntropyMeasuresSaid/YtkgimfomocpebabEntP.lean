/- Plain laws of counts: what Bytes makes, the counts of a list, EntropyCounts. Conditions: none. -/
import Derived.Test.YtkgimfomocpebabR1em
import Derived.Test.YtkgimfomocpebabPlA
set_option linter.unusedSimpArgs false
set_option linter.unusedVariables false
namespace Go.Vl
open Go

theorem nextE {m : make_Tape} {k : Int} (h0 : 0 ≤ m.at_) (h1 : m.at_ ≤ k) (hk : k ≤ 1000000000) {n : Int} (hn : 0 < n) : ∃ v m', make_Tape_Next m n = some (v, m') ∧ 0 ≤ v ∧ v < n ∧ 0 ≤ m'.at_ ∧ m'.at_ ≤ k + 1 := by
  unfold make_Tape_Next
  by_cases hb : (m.L.length : Int) ≤ m.at_
  · rw [if_pos (by simpa using hb)]
    exact ⟨0, m, rfl, by omega, hn, h0, by omega⟩
  · rw [if_neg (by simpa using hb), idx_toNat h0 (by omega)]
    simp only [Option.bind_some, ck_t (show n ≠ 0 by omega), bAnd16]
    rw [Int.tmod_eq_emod_of_nonneg (Int.emod_nonneg _ (by omega)), w64 (x := m.at_ + 1) (by omega) (by omega)]
    exact ⟨_, _, rfl, Int.emod_nonneg _ (by omega), Int.emod_lt_of_pos _ hn, by show 0 ≤ m.at_ + 1; omega, by show m.at_ + 1 ≤ k + 1; omega⟩

theorem sidxE {b : ByteArray} {i : Int} (h0 : 0 ≤ i) (h1 : i < b.size) : ∃ x, sidx b i = some x ∧ 0 ≤ x ∧ x < 256 := by
  have h2 : i.toNat < b.size := by omega
  have := (b[i.toNat]).toNat_lt
  exact ⟨((b[i.toNat]).toNat : Int), by unfold sidx; rw [if_pos h0, getElem?_pos b i.toNat h2]; rfl, by omega, by omega⟩

theorem u8_bd (x : Int) : 0 ≤ IntKind.u8.wrap x ∧ IntKind.u8.wrap x < 256 := by
  simp [IntKind.wrap, IntKind.signed, IntKind.bits]; omega

def byB (l : List Int) : Prop := ∀ x ∈ l, 0 ≤ x ∧ x < 256
theorem byB_push {l : List Int} (h : byB l) {x : Int} (hx : 0 ≤ x ∧ x < 256) : byB (l ++ [x]) := fun y hy => by
  simp only [List.mem_append, List.mem_singleton] at hy
  rcases hy with hy | rfl
  · exact h y hy
  · exact hx

def BInv (k : Int) (s : Int × List Int × Int × List Int) : Prop := 0 ≤ s.1 ∧ 0 ≤ s.2.2.1 ∧ s.2.2.1 ≤ k + 4 * s.1 ∧ byB s.2.2.2 ∧ (s.2.2.2.length : Int) = s.1
theorem bytes_go {k i p : Int} {L out : List Int} {x : Int} (hi : 0 ≤ i) (hi2 : i ≤ 1000000) (hp : 0 ≤ p) (hp2 : p ≤ k + 4 * i + 3) (hb : byB out) (hl : (out.length : Int) = i) (hx : 0 ≤ x ∧ x < 256) : BInv k (IntKind.i64.wrap (i + 1), L, p, out ++ [x]) := by
  rw [w64 (x := i + 1) (by omega) (by omega)]
  exact ⟨by simp <;> omega, hp, by simp <;> omega, byB_push hb hx, by simp <;> omega⟩

theorem bytesE {m : make_Tape} {k n : Int} (h0 : 0 ≤ m.at_) (h1 : m.at_ ≤ k) (hk : k ≤ 10000000) (hn : 0 ≤ n) (hn2 : n ≤ 100000) : ∃ l m', make_Bytes m n = some (l, m') ∧ byB l ∧ (l.length : Int) = n ∧ 0 ≤ m'.at_ ∧ m'.at_ ≤ k + 4 * n := by
  unfold make_Bytes
  have key : ∃ e, iter (make_Bytes_l0 n) (0, m.L, m.at_, []) = some e ∧ (0 ≤ e.2.1 ∧ e.2.1 ≤ k + 4 * n ∧ byB e.2.2 ∧ (e.2.2.length : Int) = n) := by
    refine iter_ex (body := make_Bytes_l0 n) (fun s => BInv k s ∧ s.1 ≤ n) (fun s => (n - s.1).toNat) _ ?_ ⟨⟨by simp, h0, by simp; omega, fun x hx => by simp at hx, by simp⟩, hn⟩
    rintro ⟨i, L, p, out⟩ ⟨⟨g1, g2, g3, g4, g5⟩, g6⟩
    simp only at g1 g2 g3 g4 g5 g6
    unfold make_Bytes_l0
    simp only
    by_cases hi : i < n
    · left
      have fin : ∀ {L' : List Int} {p' x : Int}, 0 ≤ p' → p' ≤ k + 4 * i + 3 → (0 ≤ x ∧ x < 256) → ∃ s', (some (Lp.go (IntKind.i64.wrap (i + 1), L', p', out ++ [x])) : Option (Lp (Int × List Int × Int × List Int) (List Int × Int × List Int))) = some (.go s') ∧ (BInv k s' ∧ s'.1 ≤ n) ∧ (n - s'.1).toNat < (n - i).toNat := fun {L' p' x} a b c =>
        ⟨_, rfl, ⟨bytes_go g1 (by omega) a b g4 g5 c, by rw [w64 (x := i + 1) (by omega) (by omega)]; simp <;> omega⟩, by rw [w64 (x := i + 1) (by omega) (by omega)]; simp <;> omega⟩
      have cc : ∀ x : Int, ck (out.length + [x].length ≤ 268435456) = some () := fun x => ck_t (by simp <;> omega)
      obtain ⟨v, m1, e1, a1, a2, a3, a4⟩ := nextE (m := ⟨L, p⟩) (k := k + 4 * i) g2 g3 (by omega) (n := 8) (by omega)
      rw [if_pos (by simpa using hi), e1]
      simp only [Option.bind_some]
      split
      · obtain ⟨v2, m2, e2, b1, b2, b3, b4⟩ := nextE (m := m1) (k := k + 4 * i + 1) a3 a4 (by omega) (n := 8) (by omega)
        rw [e2]
        obtain ⟨x, e3, hx⟩ := sidxE (b := (⟨#[32, 10, 61, 37, 43, 47, 45, 46]⟩ : ByteArray)) (i := v2) b1 (by exact b2)
        simp only [Option.bind_some, e3, cc]
        exact fin b3 (by omega) hx
      split
      · obtain ⟨v2, m2, e2, b1, b2, b3, b4⟩ := nextE (m := m1) (k := k + 4 * i + 1) a3 a4 (by omega) (n := 256) (by omega)
        rw [e2]
        simp only [Option.bind_some, cc]
        exact fin b3 (by omega) (u8_bd _)
      have hj : ∀ b : Bool, ∃ s', make_Bytes_j1 (v, m1) (i, L, p, out) b = some (.go s') ∧ (BInv k s' ∧ s'.1 ≤ n) ∧ (n - s'.1).toNat < (n - i).toNat := fun b => by
        unfold make_Bytes_j1
        simp only
        split
        · obtain ⟨v2, m2, e2, b1, b2, b3, b4⟩ := nextE (m := m1) (k := k + 4 * i + 1) a3 a4 (by omega) (n := 10) (by omega)
          rw [e2]
          simp only [Option.bind_some, cc]
          exact fin b3 (by omega) (u8_bd _)
        · obtain ⟨v2, m2, e2, b1, b2, b3, b4⟩ := nextE (m := m1) (k := k + 4 * i + 1) a3 a4 (by omega) (n := 8) (by omega)
          rw [e2]
          obtain ⟨x, e3, hx⟩ := sidxE (b := (⟨#[97, 98, 99, 100, 101, 102, 116, 107]⟩ : ByteArray)) (i := v2) b1 (by exact b2)
          simp only [Option.bind_some, e3, cc]
          exact fin b3 (by omega) hx
      split
      · exact hj _
      · exact hj _
    · right
      rw [if_neg (by simpa using hi)]
      exact ⟨_, rfl, g2, by simp only; omega, g4, by simp only; omega⟩
  obtain ⟨e, he, k1, k2, k3, k4⟩ := key
  rw [he]
  exact ⟨_, _, rfl, k3, k4, k1, k2⟩

/-- how often each byte comes -/
def cnt (l : List Int) : List Int := (List.range 256).map fun v : Nat => (l.count (v : Int) : Int)
theorem cnt_len (l : List Int) : (cnt l).length = 256 := by simp [cnt]
theorem cnt_at (l : List Int) {i : Int} (h0 : 0 ≤ i) (h1 : i < 256) : idx (cnt l) i = some (l.count i : Int) := by
  obtain ⟨v, rfl⟩ : ∃ v : Nat, i = v := ⟨i.toNat, by omega⟩
  rw [idx_nat]
  simp [cnt, List.getElem?_range (show v < 256 by omega)]
theorem cnt_nil : zerosI 256 = cnt [] := by
  unfold cnt zerosI
  refine List.ext_getElem? fun i => ?_
  rw [List.getElem?_replicate, List.getElem?_map]
  by_cases h : i < 256
  · rw [if_pos h, List.getElem?_range h]; rfl
  · rw [if_neg h, List.getElem?_eq_none (by simp; omega)]; rfl
theorem cnt_push (p : List Int) {x : Int} (h0 : 0 ≤ x) (h1 : x < 256) : (cnt p).set x.toNat ((p.count x : Int) + 1) = cnt (p ++ [x]) := by
  refine List.ext_getElem? fun i => ?_
  rw [List.getElem?_set]
  by_cases hi : i < 256
  · have e : ∀ q : List Int, (cnt q)[i]? = some (q.count (i : Int) : Int) := fun q => by
      have := cnt_at q (i := i) (by omega) (by omega)
      rwa [idx_nat] at this
    rw [e, e]
    split
    · rename_i h
      rw [if_pos (by rw [cnt_len]; omega)]
      have : (i : Int) = x := by omega
      rw [this, List.count_append]
      simp
    · rename_i h
      have : x ≠ (i : Int) := by omega
      rw [List.count_append]
      simp [List.count_singleton, this]
  · have n1 : ∀ q : List Int, (cnt q)[i]? = none := fun q => List.getElem?_eq_none (by rw [cnt_len]; omega)
    rw [n1, n1, if_neg (by omega)]

theorem countsE {l : List Int} (hb : byB l) (hl : l.length ≤ 65536) : entropy_Counts l = some (cnt l) := by
  unfold entropy_Counts
  rw [if_neg (by simp; omega)]
  have key : iter (entropy_Counts_l0 l) (0, zerosI 256) = some (cnt l) := by
    refine iter_eq (body := entropy_Counts_l0 l) (fun s => 0 ≤ s.1 ∧ s.1 ≤ l.length ∧ s.2 = cnt (l.take s.1.toNat)) (fun s => (l.length - s.1).toNat) (fun _ => cnt l) ?_ ⟨by simp, by simp, by simpa using cnt_nil⟩
    rintro ⟨i, c⟩ ⟨g1, g2, g3⟩
    simp only at g1 g2 g3
    unfold entropy_Counts_l0
    simp only
    by_cases hi : i < l.length
    · left
      have hin : i.toNat < l.length := by omega
      have hx := hb _ (List.getElem_mem hin)
      rw [if_pos (by simpa using hi), idx_toNat g1 hin]
      generalize hxx : l[i.toNat] = x at *
      subst g3
      have hcount : (l.take i.toNat).count x ≤ 65536 := Nat.le_trans List.count_le_length (by rw [List.length_take]; omega)
      simp only [Option.bind_some, ck_t (show 0 ≤ x ∧ x < 256 from hx), cnt_at _ hx.1 hx.2, ck_t (show x.toNat < (cnt (l.take i.toNat)).length by rw [cnt_len]; omega)]
      rw [w64 (x := i + 1) (by omega) (by omega), w64 (x := (((l.take i.toNat).count x : Nat) : Int) + 1) (by omega) (by omega), cnt_push _ hx.1 hx.2]
      refine ⟨_, rfl, ⟨by simp <;> omega, by simp <;> omega, ?_⟩, by simp <;> omega, trivial⟩
      show cnt _ = cnt _
      rw [show (i + 1).toNat = i.toNat + 1 by omega, List.take_add_one, List.getElem?_eq_getElem hin, hxx]; rfl
    · right
      rw [if_neg (by simpa using hi), g3, List.take_of_length_le (by omega)]
  rw [key]
  simp only [Option.bind_some, ck_t (cnt_len l)]

/-! How many are below n; how many of them differ -/
def upto (l : List Int) (n : Int) : Nat := l.countP fun x => decide (x < n)
theorem upto_succ (n : Int) : ∀ l : List Int, upto l (n + 1) = upto l n + l.count n
  | [] => rfl
  | x :: l => by
    have ih := upto_succ n l
    unfold upto at ih ⊢
    rw [List.countP_cons, List.countP_cons, List.count_cons, ih]
    by_cases h1 : x < n
    · have : ¬ x = n := by omega
      have h2 : x < n + 1 := by omega
      simp [h1, h2, this]; omega
    · by_cases h2 : x = n
      · subst h2
        have h3 : x < x + 1 := by omega
        simp [h3]; omega
      · have h3 : ¬ x < n + 1 := by omega
        simp [h1, h2, h3]
theorem upto_zero {l : List Int} (h : byB l) : upto l 0 = 0 := by
  unfold upto
  rw [List.countP_eq_zero]
  intro x hx; have := h x hx; simp; omega
theorem upto_all {l : List Int} (h : byB l) : upto l 256 = l.length := by
  unfold upto
  rw [List.countP_eq_length]
  intro x hx; have := h x hx; simp; omega
theorem upto_le (l : List Int) (n : Int) : upto l n ≤ l.length := List.countP_le_length
def dsts (l : List Int) : Nat → Int
  | 0 => 0
  | n + 1 => dsts l n + if 0 < l.count (n : Int) then 1 else 0
theorem dsts_bd (l : List Int) : ∀ n, 0 ≤ dsts l n ∧ dsts l n ≤ n
  | 0 => ⟨by simp [dsts], by simp [dsts]⟩
  | n + 1 => by
    have := dsts_bd l n
    simp only [dsts]
    split <;> omega
theorem distinctE {l : List Int} (hb : byB l) (hl : l.length ≤ 65536) : entropy_Distinct l = some (dsts l 256) := by
  unfold entropy_Distinct
  rw [countsE hb hl]
  simp only [Option.bind_some]
  have key : iter (entropy_Distinct_l0 (cnt l)) (0, 0) = some (dsts l 256) := by
    refine iter_eq (body := entropy_Distinct_l0 (cnt l)) (fun s => 0 ≤ s.2 ∧ s.2 ≤ 256 ∧ s.1 = dsts l s.2.toNat) (fun s => (256 - s.2).toNat) (fun _ => dsts l 256) ?_ ⟨by simp, by simp, by simp [dsts]⟩
    rintro ⟨d, i⟩ ⟨g1, g2, g3⟩
    simp only at g1 g2 g3
    unfold entropy_Distinct_l0
    simp only
    by_cases hi : i < 256
    · left
      obtain ⟨v, rfl⟩ : ∃ v : Nat, i = v := ⟨i.toNat, by omega⟩
      rw [if_pos (by simpa using hi), ck_t hi, cnt_at _ g1 hi]
      simp only [Option.bind_some]
      have hd := dsts_bd l v
      rw [Int.toNat_natCast] at g3
      subst g3
      have e : (if (1 : Int) < (l.count (v : Int) : Int) then (1 : Int) else (l.count (v : Int) : Int)) = if 0 < l.count (v : Int) then 1 else 0 := by
        split <;> split <;> omega
      rw [e, w64 (x := (v : Int) + 1) (by omega) (by omega), w64 (by split <;> omega) (by split <;> omega)]
      exact ⟨_, rfl, ⟨by simp <;> omega, by simp <;> omega, by show _ = dsts l ((v : Int) + 1).toNat; rw [show ((v : Int) + 1).toNat = v + 1 by omega]; rfl⟩, by simp <;> omega, trivial⟩
    · right
      have : i = 256 := by omega
      subst this
      rw [if_neg (by simp), g3]; rfl
  rw [key]; rfl
end Go.Vl
