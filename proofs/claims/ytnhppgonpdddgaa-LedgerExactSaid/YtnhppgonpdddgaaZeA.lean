/- Plain laws of entropy: counts, measures, means; the mean is bounded by the number of different bytes, equal bytes have none, the order means nothing. Conditions: none. -/
import Derived.Test.YtnhppgonpdddgaaZm
import Derived.Test.YtnhppgonpdddgaaPlA
set_option linter.unusedSimpArgs false
set_option linter.unusedVariables false
namespace Go.Vl
open Go

theorem nextE {m : make_Tape} {k : Int} (h0 : 0 ≤ m.at_) (h1 : m.at_ ≤ k) (hk : k ≤ 1000000000) {n : Int} (hn : 0 < n) : ∃ v m', make_Tape_Next m n = some (v, m') ∧ 0 ≤ v ∧ v < n ∧ 0 ≤ m'.at_ ∧ m'.at_ ≤ k + 1 := by
  unfold make_Tape_Next
  by_cases hb : (m.L.length : Int) ≤ m.at_
  · rw [if_pos (by simpa using hb)]
    exact ⟨0, m, rfl, by omega, hn, h0, by omega⟩
  · rw [if_neg (by simpa using hb), idx_toNat h0 (by omega)]
    simp only [Option.bind_some, ck_t (show n ≠ 0 by omega), bAnd16]
    rw [Int.tmod_eq_emod_of_nonneg (Int.emod_nonneg _ (by omega)), w64 (x := m.at_ + 1) (by omega) (by omega)]
    exact ⟨_, _, rfl, Int.emod_nonneg _ (by omega), Int.emod_lt_of_pos _ hn, by show 0 ≤ m.at_ + 1; omega, by show m.at_ + 1 ≤ k + 1; omega⟩

theorem sidxE {b : ByteArray} {i : Int} (h0 : 0 ≤ i) (h1 : i < b.size) : ∃ x, sidx b i = some x ∧ 0 ≤ x ∧ x < 256 := by
  have h2 : i.toNat < b.size := by omega
  have := (b[i.toNat]).toNat_lt
  exact ⟨((b[i.toNat]).toNat : Int), by unfold sidx; rw [if_pos h0, getElem?_pos b i.toNat h2]; rfl, by omega, by omega⟩

theorem u8_bd (x : Int) : 0 ≤ IntKind.u8.wrap x ∧ IntKind.u8.wrap x < 256 := by
  simp [IntKind.wrap, IntKind.signed, IntKind.bits]; omega

def byB (l : List Int) : Prop := ∀ x ∈ l, 0 ≤ x ∧ x < 256
theorem byB_push {l : List Int} (h : byB l) {x : Int} (hx : 0 ≤ x ∧ x < 256) : byB (l ++ [x]) := fun y hy => by
  simp only [List.mem_append, List.mem_singleton] at hy
  rcases hy with hy | rfl
  · exact h y hy
  · exact hx

def BInv (k : Int) (s : Int × List Int × Int × List Int) : Prop := 0 ≤ s.1 ∧ 0 ≤ s.2.2.1 ∧ s.2.2.1 ≤ k + 4 * s.1 ∧ byB s.2.2.2 ∧ (s.2.2.2.length : Int) = s.1
theorem bytes_go {k i p : Int} {L out : List Int} {x : Int} (hi : 0 ≤ i) (hi2 : i ≤ 1000000) (hp : 0 ≤ p) (hp2 : p ≤ k + 4 * i + 3) (hb : byB out) (hl : (out.length : Int) = i) (hx : 0 ≤ x ∧ x < 256) : BInv k (IntKind.i64.wrap (i + 1), L, p, out ++ [x]) := by
  rw [w64 (x := i + 1) (by omega) (by omega)]
  exact ⟨by simp <;> omega, hp, by simp <;> omega, byB_push hb hx, by simp <;> omega⟩

theorem bytesE {m : make_Tape} {k n : Int} (h0 : 0 ≤ m.at_) (h1 : m.at_ ≤ k) (hk : k ≤ 10000000) (hn : 0 ≤ n) (hn2 : n ≤ 100000) : ∃ l m', make_Bytes m n = some (l, m') ∧ byB l ∧ (l.length : Int) = n ∧ 0 ≤ m'.at_ ∧ m'.at_ ≤ k + 4 * n := by
  unfold make_Bytes
  have key : ∃ e, iter (make_Bytes_l0 n) (0, m.L, m.at_, []) = some e ∧ (0 ≤ e.2.1 ∧ e.2.1 ≤ k + 4 * n ∧ byB e.2.2 ∧ (e.2.2.length : Int) = n) := by
    refine iter_ex (body := make_Bytes_l0 n) (fun s => BInv k s ∧ s.1 ≤ n) (fun s => (n - s.1).toNat) _ ?_ ⟨⟨by simp, h0, by simp; omega, fun x hx => by simp at hx, by simp⟩, hn⟩
    rintro ⟨i, L, p, out⟩ ⟨⟨g1, g2, g3, g4, g5⟩, g6⟩
    simp only at g1 g2 g3 g4 g5 g6
    unfold make_Bytes_l0
    simp only
    by_cases hi : i < n
    · left
      have fin : ∀ {L' : List Int} {p' x : Int}, 0 ≤ p' → p' ≤ k + 4 * i + 3 → (0 ≤ x ∧ x < 256) → ∃ s', (some (Lp.go (IntKind.i64.wrap (i + 1), L', p', out ++ [x])) : Option (Lp (Int × List Int × Int × List Int) (List Int × Int × List Int))) = some (.go s') ∧ (BInv k s' ∧ s'.1 ≤ n) ∧ (n - s'.1).toNat < (n - i).toNat := fun {L' p' x} a b c =>
        ⟨_, rfl, ⟨bytes_go g1 (by omega) a b g4 g5 c, by rw [w64 (x := i + 1) (by omega) (by omega)]; simp <;> omega⟩, by rw [w64 (x := i + 1) (by omega) (by omega)]; simp <;> omega⟩
      have cc : ∀ x : Int, ck (out.length + [x].length ≤ 268435456) = some () := fun x => ck_t (by simp <;> omega)
      obtain ⟨v, m1, e1, a1, a2, a3, a4⟩ := nextE (m := ⟨L, p⟩) (k := k + 4 * i) g2 g3 (by omega) (n := 8) (by omega)
      rw [if_pos (by simpa using hi), e1]
      simp only [Option.bind_some]
      split
      · obtain ⟨v2, m2, e2, b1, b2, b3, b4⟩ := nextE (m := m1) (k := k + 4 * i + 1) a3 a4 (by omega) (n := 8) (by omega)
        rw [e2]
        obtain ⟨x, e3, hx⟩ := sidxE (b := (⟨#[32, 10, 61, 37, 43, 47, 45, 46]⟩ : ByteArray)) (i := v2) b1 (by exact b2)
        simp only [Option.bind_some, e3, cc]
        exact fin b3 (by omega) hx
      split
      · obtain ⟨v2, m2, e2, b1, b2, b3, b4⟩ := nextE (m := m1) (k := k + 4 * i + 1) a3 a4 (by omega) (n := 256) (by omega)
        rw [e2]
        simp only [Option.bind_some, cc]
        exact fin b3 (by omega) (u8_bd _)
      have hj : ∀ b : Bool, ∃ s', make_Bytes_j1 (v, m1) (i, L, p, out) b = some (.go s') ∧ (BInv k s' ∧ s'.1 ≤ n) ∧ (n - s'.1).toNat < (n - i).toNat := fun b => by
        unfold make_Bytes_j1
        simp only
        split
        · obtain ⟨v2, m2, e2, b1, b2, b3, b4⟩ := nextE (m := m1) (k := k + 4 * i + 1) a3 a4 (by omega) (n := 10) (by omega)
          rw [e2]
          simp only [Option.bind_some, cc]
          exact fin b3 (by omega) (u8_bd _)
        · obtain ⟨v2, m2, e2, b1, b2, b3, b4⟩ := nextE (m := m1) (k := k + 4 * i + 1) a3 a4 (by omega) (n := 8) (by omega)
          rw [e2]
          obtain ⟨x, e3, hx⟩ := sidxE (b := (⟨#[97, 98, 99, 100, 101, 102, 116, 107]⟩ : ByteArray)) (i := v2) b1 (by exact b2)
          simp only [Option.bind_some, e3, cc]
          exact fin b3 (by omega) hx
      split
      · exact hj _
      · exact hj _
    · right
      rw [if_neg (by simpa using hi)]
      exact ⟨_, rfl, g2, by simp only; omega, g4, by simp only; omega⟩
  obtain ⟨e, he, k1, k2, k3, k4⟩ := key
  rw [he]
  exact ⟨_, _, rfl, k3, k4, k1, k2⟩

/-- how often each byte comes -/
def cnt (l : List Int) : List Int := (List.range 256).map fun v : Nat => (l.count (v : Int) : Int)
theorem cnt_len (l : List Int) : (cnt l).length = 256 := by simp [cnt]
theorem cnt_at (l : List Int) {i : Int} (h0 : 0 ≤ i) (h1 : i < 256) : idx (cnt l) i = some (l.count i : Int) := by
  obtain ⟨v, rfl⟩ : ∃ v : Nat, i = v := ⟨i.toNat, by omega⟩
  rw [idx_nat]
  simp [cnt, List.getElem?_range (show v < 256 by omega)]
theorem cnt_nil : zerosI 256 = cnt [] := by
  unfold cnt zerosI
  refine List.ext_getElem? fun i => ?_
  rw [List.getElem?_replicate, List.getElem?_map]
  by_cases h : i < 256
  · rw [if_pos h, List.getElem?_range h]; rfl
  · rw [if_neg h, List.getElem?_eq_none (by simp; omega)]; rfl
theorem cnt_push (p : List Int) {x : Int} (h0 : 0 ≤ x) (h1 : x < 256) : (cnt p).set x.toNat ((p.count x : Int) + 1) = cnt (p ++ [x]) := by
  refine List.ext_getElem? fun i => ?_
  rw [List.getElem?_set]
  by_cases hi : i < 256
  · have e : ∀ q : List Int, (cnt q)[i]? = some (q.count (i : Int) : Int) := fun q => by
      have := cnt_at q (i := i) (by omega) (by omega)
      rwa [idx_nat] at this
    rw [e, e]
    split
    · rename_i h
      rw [if_pos (by rw [cnt_len]; omega)]
      have : (i : Int) = x := by omega
      rw [this, List.count_append]
      simp
    · rename_i h
      have : x ≠ (i : Int) := by omega
      rw [List.count_append]
      simp [List.count_singleton, this]
  · have n1 : ∀ q : List Int, (cnt q)[i]? = none := fun q => List.getElem?_eq_none (by rw [cnt_len]; omega)
    rw [n1, n1, if_neg (by omega)]

theorem countsE {l : List Int} (hb : byB l) (hl : l.length ≤ 65536) : entropy_Counts l = some (cnt l) := by
  unfold entropy_Counts
  rw [if_neg (by simp; omega)]
  have key : iter (entropy_Counts_l0 l) (0, zerosI 256) = some (cnt l) := by
    refine iter_eq (body := entropy_Counts_l0 l) (fun s => 0 ≤ s.1 ∧ s.1 ≤ l.length ∧ s.2 = cnt (l.take s.1.toNat)) (fun s => (l.length - s.1).toNat) (fun _ => cnt l) ?_ ⟨by simp, by simp, by simpa using cnt_nil⟩
    rintro ⟨i, c⟩ ⟨g1, g2, g3⟩
    simp only at g1 g2 g3
    unfold entropy_Counts_l0
    simp only
    by_cases hi : i < l.length
    · left
      have hin : i.toNat < l.length := by omega
      have hx := hb _ (List.getElem_mem hin)
      rw [if_pos (by simpa using hi), idx_toNat g1 hin]
      generalize hxx : l[i.toNat] = x at *
      subst g3
      have hcount : (l.take i.toNat).count x ≤ 65536 := Nat.le_trans List.count_le_length (by rw [List.length_take]; omega)
      simp only [Option.bind_some, ck_t (show 0 ≤ x ∧ x < 256 from hx), cnt_at _ hx.1 hx.2, ck_t (show x.toNat < (cnt (l.take i.toNat)).length by rw [cnt_len]; omega)]
      rw [w64 (x := i + 1) (by omega) (by omega), w64 (x := (((l.take i.toNat).count x : Nat) : Int) + 1) (by omega) (by omega), cnt_push _ hx.1 hx.2]
      refine ⟨_, rfl, ⟨by simp <;> omega, by simp <;> omega, ?_⟩, by simp <;> omega, trivial⟩
      show cnt _ = cnt _
      rw [show (i + 1).toNat = i.toNat + 1 by omega, List.take_add_one, List.getElem?_eq_getElem hin, hxx]; rfl
    · right
      rw [if_neg (by simpa using hi), g3, List.take_of_length_le (by omega)]
  rw [key]
  simp only [Option.bind_some, ck_t (cnt_len l)]

/-! How many are below n; how many of them differ -/
def upto (l : List Int) (n : Int) : Nat := l.countP fun x => decide (x < n)
theorem upto_succ (n : Int) : ∀ l : List Int, upto l (n + 1) = upto l n + l.count n
  | [] => rfl
  | x :: l => by
    have ih := upto_succ n l
    unfold upto at ih ⊢
    rw [List.countP_cons, List.countP_cons, List.count_cons, ih]
    by_cases h1 : x < n
    · have : ¬ x = n := by omega
      have h2 : x < n + 1 := by omega
      simp [h1, h2, this]; omega
    · by_cases h2 : x = n
      · subst h2
        have h3 : x < x + 1 := by omega
        simp [h3]; omega
      · have h3 : ¬ x < n + 1 := by omega
        simp [h1, h2, h3]
theorem upto_zero {l : List Int} (h : byB l) : upto l 0 = 0 := by
  unfold upto
  rw [List.countP_eq_zero]
  intro x hx; have := h x hx; simp; omega
theorem upto_all {l : List Int} (h : byB l) : upto l 256 = l.length := by
  unfold upto
  rw [List.countP_eq_length]
  intro x hx; have := h x hx; simp; omega
theorem upto_le (l : List Int) (n : Int) : upto l n ≤ l.length := List.countP_le_length
def dsts (l : List Int) : Nat → Int
  | 0 => 0
  | n + 1 => dsts l n + if 0 < l.count (n : Int) then 1 else 0
theorem dsts_bd (l : List Int) : ∀ n, 0 ≤ dsts l n ∧ dsts l n ≤ n
  | 0 => ⟨by simp [dsts], by simp [dsts]⟩
  | n + 1 => by
    have := dsts_bd l n
    simp only [dsts]
    split <;> omega
theorem distinctE {l : List Int} (hb : byB l) (hl : l.length ≤ 65536) : entropy_Distinct l = some (dsts l 256) := by
  unfold entropy_Distinct
  rw [countsE hb hl]
  simp only [Option.bind_some]
  have key : iter (entropy_Distinct_l0 (cnt l)) (0, 0) = some (dsts l 256) := by
    refine iter_eq (body := entropy_Distinct_l0 (cnt l)) (fun s => 0 ≤ s.2 ∧ s.2 ≤ 256 ∧ s.1 = dsts l s.2.toNat) (fun s => (256 - s.2).toNat) (fun _ => dsts l 256) ?_ ⟨by simp, by simp, by simp [dsts]⟩
    rintro ⟨d, i⟩ ⟨g1, g2, g3⟩
    simp only at g1 g2 g3
    unfold entropy_Distinct_l0
    simp only
    by_cases hi : i < 256
    · left
      obtain ⟨v, rfl⟩ : ∃ v : Nat, i = v := ⟨i.toNat, by omega⟩
      rw [if_pos (by simpa using hi), ck_t hi, cnt_at _ g1 hi]
      simp only [Option.bind_some]
      have hd := dsts_bd l v
      rw [Int.toNat_natCast] at g3
      subst g3
      have e : (if (1 : Int) < (l.count (v : Int) : Int) then (1 : Int) else (l.count (v : Int) : Int)) = if 0 < l.count (v : Int) then 1 else 0 := by
        split <;> split <;> omega
      rw [e, w64 (x := (v : Int) + 1) (by omega) (by omega), w64 (by split <;> omega) (by split <;> omega)]
      exact ⟨_, rfl, ⟨by simp <;> omega, by simp <;> omega, by show _ = dsts l ((v : Int) + 1).toNat; rw [show ((v : Int) + 1).toNat = v + 1 by omega]; rfl⟩, by simp <;> omega, trivial⟩
    · right
      have : i = 256 := by omega
      subst this
      rw [if_neg (by simp), g3]; rfl
  rw [key]; rfl

def logR : Nat → Int → Int → Int
  | 0, y, _ => y
  | k + 1, y, x =>
    let q := IntKind.i64.wrap ((IntKind.i64.wrap (x * x)).tdiv 1073741824)
    if 2147483648 ≤ q then logR k (IntKind.i64.wrap (IntKind.i64.wrap (y * 2) + 1)) (IntKind.i64.wrap (q.tdiv 2)) else logR k (IntKind.i64.wrap (y * 2)) q
theorem iter_log (y x : Int) : iter entropy_Log_l0 (y, x, 0) = some (logR 16 y x) := by
  refine iter_eq (body := entropy_Log_l0) (s := (y, x, 0)) (fun s => 0 ≤ s.2.2 ∧ s.2.2 ≤ 16) (fun s => (16 - s.2.2).toNat) (fun s => logR (16 - s.2.2).toNat s.1 s.2.1) ?_ ⟨by show (0 : Int) ≤ 0; omega, by show (0 : Int) ≤ 16; omega⟩
  rintro ⟨y, x, i⟩ ⟨g1, g2⟩
  simp only at g1 g2
  unfold entropy_Log_l0
  simp only
  by_cases hi : i < 16
  · left
    rw [if_pos (by simpa using hi), w64 (x := i + 1) (by omega) (by omega)]
    obtain ⟨n, hn⟩ : ∃ n, (16 - i).toNat = n + 1 := ⟨(15 - i).toNat, by omega⟩
    have hn2 : (16 - (i + 1)).toNat = n := by omega
    rw [hn]
    simp only [logR]
    split
    · rename_i h
      rw [decide_eq_true_eq] at h
      refine ⟨_, rfl, ⟨by simp <;> omega, by simp <;> omega⟩, by simp <;> omega, ?_⟩
      simp only [hn2]
      rw [if_pos h]
    · rename_i h
      rw [decide_eq_true_eq] at h
      refine ⟨_, rfl, ⟨by simp <;> omega, by simp <;> omega⟩, by simp <;> omega, ?_⟩
      simp only [hn2]
      rw [if_neg h]
  · right
    have : i = 16 := by omega
    subst this
    rw [if_neg (by simp)]; rfl
/-- the logarithm of n, as the code takes it -/
def lgv (n : Int) : Int := if n < 1 ∨ 1073741824 < n then 0 else logR 16 ((bl n.toNat : Int) - 1) (n * 2 ^ (30 - ((bl n.toNat) - 1)))
theorem bl_pos {n : Nat} (h : n ≠ 0) : 1 ≤ bl n := by unfold bl; rw [if_neg h]; omega
theorem bl_up {n : Nat} (h : n ≠ 0) : n < 2 ^ bl n := by unfold bl; rw [if_neg h]; exact Nat.lt_log2_self
theorem bl_dn {n : Nat} (h : n ≠ 0) : 2 ^ (bl n - 1) ≤ n := by unfold bl; rw [if_neg h]; exact Nat.log2_self_le h
theorem logE (n : Int) : entropy_Log n = some (lgv n) := by
  unfold entropy_Log lgv
  simp only [Option.bind_some]
  by_cases h : n < 1 ∨ 1073741824 < n
  · rw [if_pos (by simpa using h), if_pos h]
  · rw [if_neg (by simpa using h), if_neg h]
    have hb1 := bl_pos (n := n.toNat) (by omega)
    have hb2 : bl n.toNat ≤ 31 := bl_le _ _ (by omega)
    have hdn := bl_dn (n := n.toNat) (by omega)
    have hup := bl_up (n := n.toNat) (by omega)
    unfold math_bits_Len math_bits_Len64
    rw [wu64 (by omega) (by omega), if_pos (by omega)]
    simp only [Option.bind_some]
    rw [w64 (x := (bl n.toNat : Int) - 1) (by omega) (by omega), w64 (x := 30 - ((bl n.toNat : Int) - 1)) (by omega) (by omega), ck_t (by omega)]
    simp only [Option.bind_some]
    obtain ⟨j, hj⟩ : ∃ j, bl n.toNat = j + 1 := ⟨bl n.toNat - 1, by omega⟩
    rw [hj] at hb2 hdn hup ⊢
    simp only [Nat.add_sub_cancel] at hdn ⊢
    have e1 : (30 - (((j + 1 : Nat) : Int) - 1)).toNat = 30 - j := by omega
    have e2 : min (30 - j) IntKind.i64.bits = 30 - j := Nat.min_eq_left (by show 30 - j ≤ 64; omega)
    rw [e1, e2]
    have hpow : (2 : Nat) ^ (j + 1) * 2 ^ (30 - j) = 2 ^ 31 := by rw [← Nat.pow_add]; congr 1; omega
    have hm : n.toNat * 2 ^ (30 - j) ≤ 2 ^ (j + 1) * 2 ^ (30 - j) := Nat.mul_le_mul_right _ (by omega)
    rw [hpow] at hm
    have hx : n * 2 ^ (30 - j) = ((n.toNat * 2 ^ (30 - j) : Nat) : Int) := by
      rw [Int.natCast_mul, Int.natCast_pow]
      congr 1
      omega
    rw [w64 (x := n * 2 ^ (30 - j)) (by rw [hx]; omega) (by rw [hx]; omega), iter_log]
    rfl
theorem bl_eq {n k : Nat} (h1 : 2 ^ k ≤ n) (h2 : n < 2 ^ (k + 1)) : bl n = k + 1 := by
  have : n ≠ 0 := by have := Nat.two_pow_pos k; omega
  unfold bl; rw [if_neg this, (Nat.log2_eq_iff this).2 ⟨h1, h2⟩]
theorem lgv8 : lgv 8 = 196608 := by
  unfold lgv; rw [if_neg (by decide), show (8 : Int).toNat = 8 from rfl, bl_eq (k := 3) (by decide) (by decide)]; decide +kernel
theorem lgv4 : lgv 4 = 131072 := by
  unfold lgv; rw [if_neg (by decide), show (4 : Int).toNat = 4 from rfl, bl_eq (k := 2) (by decide) (by decide)]; decide +kernel
theorem lgv2 : lgv 2 = 65536 := by
  unfold lgv; rw [if_neg (by decide), show (2 : Int).toNat = 2 from rfl, bl_eq (k := 1) (by decide) (by decide)]; decide +kernel
/-- the sum that Measure takes -/
def meaR (l : List Int) : Nat → Int
  | 0 => 0
  | n + 1 => if 0 < l.count (n : Int) then IntKind.i64.wrap (meaR l n + IntKind.i64.wrap ((l.count (n : Int) : Int) * IntKind.i64.wrap (lgv l.length - lgv (l.count (n : Int) : Int)))) else meaR l n
theorem measE {l : List Int} (hb : byB l) (hl : l.length ≤ 65536) : entropy_Measure l = some (meaR l 256) := by
  unfold entropy_Measure
  rw [countsE hb hl]
  simp only [Option.bind_some]
  have key : iter (entropy_Measure_l0 (cnt l) l) (0, 0) = some (meaR l 256) := by
    refine iter_eq (body := entropy_Measure_l0 (cnt l) l) (fun s => 0 ≤ s.2 ∧ s.2 ≤ 256 ∧ s.1 = meaR l s.2.toNat) (fun s => (256 - s.2).toNat) (fun _ => meaR l 256) ?_ ⟨by simp, by simp, by simp [meaR]⟩
    rintro ⟨d, i⟩ ⟨g1, g2, g3⟩
    simp only at g1 g2 g3
    unfold entropy_Measure_l0
    simp only
    by_cases hi : i < 256
    · left
      obtain ⟨v, rfl⟩ : ∃ v : Nat, i = v := ⟨i.toNat, by omega⟩
      rw [if_pos (by simpa using hi), ck_t hi, cnt_at _ g1 hi]
      simp only [Option.bind_some, logE]
      rw [Int.toNat_natCast] at g3
      subst g3
      rw [w64 (x := (v : Int) + 1) (by omega) (by omega)]
      have e1 : ((v : Int) + 1).toNat = v + 1 := by omega
      split
      · rename_i h
        rw [decide_eq_true_eq] at h
        refine ⟨_, rfl, ⟨by simp <;> omega, by simp <;> omega, ?_⟩, by simp <;> omega, trivial⟩
        show _ = meaR l ((v : Int) + 1).toNat
        rw [e1]; simp only [meaR]; rw [if_pos (by omega)]
      · rename_i h
        rw [decide_eq_true_eq] at h
        refine ⟨_, rfl, ⟨by simp <;> omega, by simp <;> omega, ?_⟩, by simp <;> omega, trivial⟩
        show _ = meaR l ((v : Int) + 1).toNat
        rw [e1]; simp only [meaR]; rw [if_neg (by omega)]
    · right
      have : i = 256 := by omega
      subst this
      rw [if_neg (by simp), g3]; rfl
  rw [key]; rfl
theorem mea_none {l : List Int} {a : Nat} : ∀ n : Nat, (∀ v : Nat, a ≤ v → v < a + n → l.count (v : Int) = 0) → meaR l (a + n) = meaR l a
  | 0, _ => rfl
  | n + 1, h => by
    show meaR l ((a + n) + 1) = _
    simp only [meaR]
    rw [if_neg (by rw [h (a + n) (by omega) (by omega)]; omega), mea_none n (fun v h1 h2 => h v h1 (by omega))]
theorem mea_some {l : List Int} {n : Nat} {c : Nat} (h : l.count (n : Int) = c) (hc : 0 < c) : meaR l (n + 1) = IntKind.i64.wrap (meaR l n + IntKind.i64.wrap ((c : Int) * IntKind.i64.wrap (lgv l.length - lgv (c : Int)))) := by
  subst h
  show (if 0 < _ then _ else _) = _
  rw [if_pos hc]
theorem mea_aabb : meaR [97, 97, 98, 98] 256 = 262144 := by
  have c0 : ∀ v : Nat, v ≠ 97 → v ≠ 98 → ([97, 97, 98, 98] : List Int).count (v : Int) = 0 := fun v h1 h2 => by
    refine List.count_eq_zero.2 fun hm => ?_
    simp at hm; omega
  have e1 : meaR [97, 97, 98, 98] 256 = meaR [97, 97, 98, 98] 99 := mea_none (l := [97, 97, 98, 98]) (a := 99) 157 (fun v h1 h2 => c0 v (by omega) (by omega))
  have e2 : meaR [97, 97, 98, 98] 97 = 0 := (mea_none (l := [97, 97, 98, 98]) (a := 0) 97 (fun v h1 h2 => c0 v (by omega) (by omega))).trans rfl
  have e3 : meaR [97, 97, 98, 98] 98 = _ := mea_some (l := [97, 97, 98, 98]) (n := 97) (c := 2) (by decide) (by decide)
  have e4 : meaR [97, 97, 98, 98] 99 = _ := mea_some (l := [97, 97, 98, 98]) (n := 98) (c := 2) (by decide) (by decide)
  rw [e1, e4, e3, e2, show lgv ((([97, 97, 98, 98] : List Int).length : Nat) : Int) = 131072 from lgv4, show lgv ((2 : Nat) : Int) = 65536 from lgv2]
  decide
theorem awakeE : law02_awake = some true := by
  unfold law02_awake
  rw [logE, lgv8, measE (fun x hx => by simp at hx; omega) (by decide), mea_aabb]
  rfl


/-- the mean -/
def meanV (l : List Int) : Int := if l.length = 0 then 0 else IntKind.i64.wrap ((meaR l 256).tdiv (l.length : Int))
theorem meanE {l : List Int} (hb : byB l) (hl : l.length ≤ 65536) : entropy_Mean l = some (meanV l) := by
  unfold entropy_Mean meanV
  rw [measE hb hl]
  simp only [Option.bind_some]
  by_cases h : l.length = 0
  · have hl0 : l = [] := List.eq_nil_of_length_eq_zero h
    subst hl0
    have e : meaR [] 256 = 0 := (mea_none (l := []) (a := 0) 256 (fun v _ _ => rfl)).trans rfl
    rw [e, ck_t (by simp)]
    decide
  · have e : (if 1 > (l.length : Int) then (1 : Int) else (l.length : Int)) = l.length := if_neg (by omega)
    rw [e, ck_t (by omega), if_neg h]
    rfl
theorem byB_wf {l : List Int} (h : ∀ x ∈ l, IntKind.u8.min ≤ x ∧ x ≤ IntKind.u8.max) : byB l := fun x hx => by
  have h1 := h x hx
  have e1 : IntKind.u8.min = 0 := by decide
  have e2 : IntKind.u8.max = 255 := by decide
  omega

def lgTab : List Int := [0, 0, 65536, 103872, 131072, 152169, 169408, 183982, 196608, 207744, 217705, 226717, 234944, 242512, 249518, 256041, 262144, 267875, 273280, 278392, 283241, 287854, 292253, 296456, 300480, 304339, 308048, 311616, 315054, 318372, 321577, 324678, 327680, 330589, 333411, 336152, 338816, 341406, 343928, 346384, 348777, 351112, 353390, 355615, 357789, 359914, 361992, 364025, 366016, 367965, 369875, 371748, 373584, 375384, 377152, 378887, 380590, 382264, 383908, 385524, 387113, 388676, 390214, 391727, 393216, 394681]
def lgT (c : Nat) : Int := lgTab.getD c 0
def gT (c : Nat) : Int := (c : Int) * lgT c
def dT (q : Nat) : Int := gT (q + 1) - gT q
theorem lgv_tab {c : Nat} (h : c ≤ 64) : lgv (c : Int) = lgT c := by
  have key : ∀ c ∈ List.range 65, lgv ((c : Nat) : Int) = lgT c := by decide +kernel
  exact key c (by simp; omega)
theorem lgT_mono {c n : Nat} (h : c ≤ n) (hn : n ≤ 64) : 0 ≤ lgT c ∧ lgT c ≤ lgT n ∧ lgT n ≤ 393216 := by
  have key : ∀ n ∈ List.range 65, ∀ c ∈ List.range (n + 1), 0 ≤ lgT c ∧ lgT c ≤ lgT n ∧ lgT n ≤ 393216 := by decide +kernel
  exact key n (by simp; omega) c (by simp; omega)
theorem tangent {q c : Nat} (h1 : 1 ≤ q) (h2 : q ≤ 64) (h3 : 1 ≤ c) (h4 : c ≤ 64) : gT q + dT q * ((c : Int) - q) ≤ gT c := by
  have key : ∀ q ∈ List.range 65, ∀ c ∈ List.range 65, 1 ≤ q → 1 ≤ c → gT q + dT q * ((c : Int) - q) ≤ gT c := by decide +kernel
  exact key q (by simp; omega) c (by simp; omega) h1 h3
theorem jensen {n k : Nat} (h1 : 1 ≤ k) (h2 : k ≤ n) (h3 : n ≤ 64) : (n : Int) * lgT n - ((k : Int) * gT (n / k) + dT (n / k) * ((n : Int) - (k : Int) * ((n / k : Nat) : Int))) < (n : Int) * (lgT k + 9) := by
  have key : ∀ n ∈ List.range 65, ∀ k ∈ List.range 65, 1 ≤ k → k ≤ n → (n : Int) * lgT n - ((k : Int) * gT (n / k) + dT (n / k) * ((n : Int) - (k : Int) * ((n / k : Nat) : Int))) < (n : Int) * (lgT k + 9) := by decide +kernel
  exact key n (by simp; omega) k (by simp; omega) h1 h2

section
variable {l : List Int} {N : Nat}
theorem mea_term (hN : l.length = N) (h64 : N ≤ 64) {c : Nat} (hc : c ≤ N) : IntKind.i64.wrap ((c : Int) * IntKind.i64.wrap (lgv l.length - lgv (c : Int))) = (c : Int) * (lgT N - lgT c) ∧ 0 ≤ (c : Int) * (lgT N - lgT c) ∧ (c : Int) * (lgT N - lgT c) ≤ (c : Int) * 393216 := by
  subst hN
  obtain ⟨a1, a2, a3⟩ := lgT_mono hc h64
  rw [lgv_tab h64, lgv_tab (by omega), w64 (x := lgT l.length - lgT c) (by omega) (by omega)]
  have b1 : 0 ≤ (c : Int) * (lgT l.length - lgT c) := Int.mul_nonneg (by omega) (by omega)
  have b2 : (c : Int) * (lgT l.length - lgT c) ≤ (c : Int) * 393216 := Int.mul_le_mul_of_nonneg_left (by omega) (by omega)
  exact ⟨w64 (by omega) (by omega), b1, b2⟩
theorem mea_bd (hb : byB l) (hN : l.length = N) (h64 : N ≤ 64) : ∀ n : Nat, 0 ≤ meaR l n ∧ meaR l n ≤ (upto l n : Int) * 393216 ∧ (0 < l.count (n : Int) → meaR l (n + 1) = meaR l n + (l.count (n : Int) : Int) * (lgT N - lgT (l.count (n : Int)))) := fun n => by
  have cnt (n : Int) : l.count n ≤ N := by have := List.count_le_length (l := l) (a := n); omega
  have stp : ∀ n : Nat, (0 ≤ meaR l n ∧ meaR l n ≤ (upto l n : Int) * 393216) → 0 < l.count (n : Int) → meaR l (n + 1) = meaR l n + (l.count (n : Int) : Int) * (lgT N - lgT (l.count (n : Int))) := fun n h hc => by
    obtain ⟨e, b1, b2⟩ := mea_term hN h64 (cnt n)
    have := upto_le l (n : Int)
    have := cnt n
    simp only [meaR]
    rw [if_pos hc, e, w64 (by omega) (by omega)]
  have bd : ∀ n : Nat, 0 ≤ meaR l n ∧ meaR l n ≤ (upto l n : Int) * 393216 := fun n => by
    induction n with
    | zero => exact ⟨Int.le_refl _, Int.mul_nonneg (by omega) (by decide)⟩
    | succ n ih =>
      have hu := upto_succ (n : Int) l
      rw [show ((n : Int) + 1) = ((n + 1 : Nat) : Int) by omega] at hu
      by_cases hc : 0 < l.count (n : Int)
      · obtain ⟨e, b1, b2⟩ := mea_term hN h64 (cnt n)
        rw [stp n ih hc, hu]
        omega
      · simp only [meaR]
        rw [if_neg hc, hu]
        omega
  exact ⟨(bd n).1, (bd n).2, stp n (bd n)⟩
theorem dsts_le : ∀ n : Nat, byB l → dsts l n ≤ upto l n := fun n hb => by
  induction n with
  | zero => simp [dsts]
  | succ n ih =>
    have hu := upto_succ (n : Int) l
    rw [show ((n : Int) + 1) = ((n + 1 : Nat) : Int) by omega] at hu
    simp only [dsts]
    rw [hu]
    split <;> omega
theorem mea_le (hb : byB l) (hN : l.length = N) (h64 : N ≤ 64) {q : Nat} (h1 : 1 ≤ q) (h2 : q ≤ 64) : ∀ n : Nat, meaR l n ≤ (upto l n : Int) * lgT N - (dsts l n * gT q + dT q * ((upto l n : Int) - dsts l n * q)) := fun n => by
  induction n with
  | zero =>
    have := upto_zero hb
    have e : upto l ((0 : Nat) : Int) = 0 := this
    rw [e]; simp [meaR, dsts]
  | succ n ih =>
    have hu := upto_succ (n : Int) l
    rw [show ((n : Int) + 1) = ((n + 1 : Nat) : Int) by omega] at hu
    by_cases hc : 0 < l.count (n : Int)
    · have hcN : l.count (n : Int) ≤ N := by have := List.count_le_length (l := l) (a := (n : Int)); omega
      have ht := tangent h1 h2 (c := l.count (n : Int)) (by omega) (by omega)
      rw [(mea_bd hb hN h64 n).2.2 hc, hu]
      have hd : dsts l (n + 1) = dsts l n + 1 := by simp only [dsts]; rw [if_pos hc]
      rw [hd]
      generalize l.count (n : Int) = c at ht ⊢
      generalize upto l (n : Int) = U at ih ⊢
      generalize dsts l n = D at ih ⊢
      have e1 : (c : Int) * (lgT N - lgT c) = (c : Int) * lgT N - gT c := by rw [Int.mul_sub]; rfl
      have e2 : ((U + c : Nat) : Int) * lgT N = (U : Int) * lgT N + (c : Int) * lgT N := by rw [Int.natCast_add, Int.add_mul]
      have e3 : (D + 1) * gT q = D * gT q + gT q := by rw [Int.add_mul, Int.one_mul]
      have e4 : ((U + c : Nat) : Int) - (D + 1) * (q : Int) = ((U : Int) - D * q) + ((c : Int) - q) := by rw [Int.natCast_add, Int.add_mul, Int.one_mul]; omega
      rw [e1, e2, e3, e4, Int.mul_add]
      omega
    · have hd : dsts l (n + 1) = dsts l n := by simp only [dsts]; rw [if_neg hc]; omega
      have hm : meaR l (n + 1) = meaR l n := by simp only [meaR]; rw [if_neg hc]
      have h0 : l.count (n : Int) = 0 := by omega
      rw [hd, hm, hu, h0]; exact ih
theorem mean_le (hb : byB l) (hN : l.length = N) (h0 : 1 ≤ N) (h64 : N ≤ 64) : 0 ≤ meaR l 256 ∧ meanV l ≤ lgv (dsts l 256) + 8 ∧ meanV l ≤ 100000000 ∧ 0 ≤ lgv (dsts l 256) ∧ lgv (dsts l 256) ≤ 393216 := by
  have hup : upto l ((256 : Nat) : Int) = N := (upto_all hb).trans hN
  obtain ⟨m1, m2, _⟩ := mea_bd hb hN h64 256
  have hd1 := dsts_le (l := l) 256 hb
  have hd0 := (dsts_bd l 256).1
  rw [hup] at m2 hd1
  obtain ⟨k, hk⟩ : ∃ k : Nat, dsts l 256 = k := ⟨(dsts l 256).toNat, by omega⟩
  have hk1 : 1 ≤ k := by
    apply Decidable.byContradiction
    intro hn
    have hz : dsts l 256 = 0 := by omega
    have all : ∀ n : Nat, dsts l n = 0 → upto l n = 0 := fun n => by
      induction n with
      | zero => intro _; exact upto_zero hb
      | succ n ih =>
        intro h
        have hu := upto_succ (n : Int) l
        rw [show ((n : Int) + 1) = ((n + 1 : Nat) : Int) by omega] at hu
        have := (dsts_bd l n).1
        simp only [dsts] at h
        split at h
        · omega
        · rw [hu, ih (by omega)]; omega
    have := all 256 hz
    rw [hup] at this; omega
  have hkN : k ≤ N := by omega
  have hq1 : 1 ≤ N / k := Nat.div_pos hkN hk1
  have hq2 : N / k ≤ 64 := Nat.le_trans (Nat.div_le_self _ _) h64
  have h := mea_le hb hN h64 hq1 hq2 256
  have hj := jensen hk1 hkN h64
  obtain ⟨a1, a2, a3⟩ := lgT_mono hkN h64
  rw [hup, hk] at h
  rw [hk, lgv_tab (by omega)]
  have hdiv : (meaR l 256).tdiv (N : Int) = meaR l 256 / (N : Int) := Int.tdiv_eq_ediv_of_nonneg m1
  have hN0 : (0 : Int) < N := by omega
  have hlt : meaR l 256 / (N : Int) < lgT k + 9 := Int.ediv_lt_of_lt_mul hN0 (by rw [Int.mul_comm]; omega)
  have hge : 0 ≤ meaR l 256 / (N : Int) := Int.ediv_nonneg m1 (by omega)
  unfold meanV
  rw [if_neg (by omega), hN, hdiv, w64 (by omega) (by omega)]
  omega
theorem mea_same {l : List Int} {N : Nat} (hN : l.length = N) (h64 : N ≤ 64) (h : ∀ v : Int, l.count v = 0 ∨ l.count v = N) : ∀ n : Nat, meaR l n = 0 := fun n => by
  induction n with
  | zero => rfl
  | succ n ih =>
    simp only [meaR]
    split
    · rename_i hc
      have e : l.count (n : Int) = N := by rcases h n with h | h <;> omega
      have := (mea_term (l := l) hN h64 (Nat.le_refl N)).1
      rw [ih, e, this, Int.sub_self, Int.mul_zero]; rfl
    · exact ih
end
theorem mea_perm {l m : List Int} (hl : l.length = m.length) (h : ∀ v : Int, l.count v = m.count v) : ∀ n : Nat, meaR l n = meaR m n := fun n => by
  induction n with
  | zero => rfl
  | succ n ih => simp only [meaR, h, hl, ih]
end Go.Vl
