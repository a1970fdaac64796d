/- Walks over functions of the given program in the value logic: what each computes, and plain laws of it. Conditions: none. -/
import Derived.Test.YtkgimfomocpebaaEntE
set_option linter.unusedSimpArgs false
set_option linter.unusedVariables false
namespace Go.Vl
open Go Go.Proofs

theorem logTo_shift (x y d : Int) : ∀ i, (logTo x (y + d) i).1 = (logTo x y i).1 ∧ (logTo x (y + d) i).2 = (logTo x y i).2 + d * 2 ^ i
  | 0 => by simp [logTo]
  | i + 1 => by
    obtain ⟨h1, h2⟩ := logTo_shift x y d i
    have hp : d * (2 : Int) ^ (i + 1) = 2 * (d * 2 ^ i) := by
      rw [Int.pow_succ]; rw [Int.mul_comm ((2 : Int) ^ i) 2, ← Int.mul_assoc, Int.mul_comm d 2, Int.mul_assoc]
    rw [hp]
    simp only [logTo, h1, h2]
    generalize d * (2 : Int) ^ i = w at *
    split <;> (simp only [true_and]; omega)
theorem lg_double {n : Int} (h1 : 1 ≤ n) (h2 : n ≤ 536870912) : lg (2 * n) = lg n + 65536 := by
  obtain ⟨m, rfl⟩ : ∃ m : Nat, n = m := ⟨n.toNat, by omega⟩
  have hm : m ≠ 0 := by omega
  have e0 : (2 * (m : Int)).toNat = 2 * m := by omega
  have hk : (2 * m).log2 = m.log2 + 1 := by
    have a1 := Nat.log2_self_le hm
    have a2 : m < 2 ^ (m.log2 + 1) := Nat.lt_log2_self
    have hm2 : 2 * m ≠ 0 := by omega
    have b1 : m.log2 + 1 ≤ (2 * m).log2 := (Nat.le_log2 hm2).2 (by rw [Nat.pow_succ]; omega)
    have b2 : (2 * m).log2 < m.log2 + 1 + 1 := (Nat.log2_lt hm2).2 (by rw [Nat.pow_succ]; omega)
    omega
  obtain ⟨hk30, _, _⟩ := lg_start (n := 2 * (m : Int)) (by omega) (by omega)
  rw [e0, hk] at hk30
  unfold lg
  rw [if_neg (by omega), if_neg (by omega), e0, hk, Int.toNat_natCast]
  have ex : 2 * (m : Int) * 2 ^ (30 - (m.log2 + 1)) = (m : Int) * 2 ^ (30 - m.log2) := by
    rw [show 30 - m.log2 = (30 - (m.log2 + 1)) + 1 by omega, Int.pow_succ, Int.mul_comm 2 (m : Int), Int.mul_assoc, Int.mul_comm 2 _]
  rw [ex]
  have := (logTo_shift ((m : Int) * 2 ^ (30 - m.log2)) (m.log2 : Int) 1 16).2
  simpa using this
theorem logTo_pow (y : Int) : ∀ i, logTo 1073741824 y i = (1073741824, y * 2 ^ i)
  | 0 => by simp [logTo]
  | i + 1 => by
    simp only [logTo, logTo_pow y i]
    rw [if_neg (by decide)]
    refine Prod.ext (by show (1073741824 * 1073741824 / 1073741824 : Int) = 1073741824; decide) ?_
    show 2 * (y * 2 ^ i) = y * 2 ^ (i + 1)
    rw [Int.pow_succ, Int.mul_comm ((2 : Int) ^ i) 2, ← Int.mul_assoc, ← Int.mul_assoc, Int.mul_comm y 2]
theorem lg_pow (k : Nat) (hk : k ≤ 30) : lg (2 ^ k) = k * 65536 := by
  have e : ((2 ^ k : Nat) : Int) = (2 : Int) ^ k := by simp
  have h1 : 1 ≤ 2 ^ k := Nat.one_le_two_pow
  have h2 : 2 ^ k ≤ 2 ^ 30 := Nat.pow_le_pow_right (by omega) hk
  have el : (2 ^ k : Nat).log2 = k := Nat.log2_two_pow
  rw [← e]
  unfold lg
  rw [if_neg (by omega), Int.toNat_natCast, el, e, ← Int.pow_add, show k + (30 - k) = 30 by omega]
  have := logTo_pow (k : Int) 16
  show (logTo 1073741824 k 16).2 = _
  rw [this]; rfl
def lexLe (a b : Int × Int) : Prop := a.2 < b.2 ∨ (a.2 = b.2 ∧ a.1 ≤ b.1)
theorem logTo_mono {x y x' y' : Int} (hx : 0 ≤ x) (h : lexLe (x, y) (x', y')) : ∀ i, 0 ≤ (logTo x y i).1 ∧ lexLe (logTo x y i) (logTo x' y' i)
  | 0 => ⟨hx, h⟩
  | i + 1 => by
    obtain ⟨h0, h1⟩ := logTo_mono hx h i
    generalize ha : logTo x y i = a at *
    generalize hb : logTo x' y' i = b at *
    have hsq : 0 ≤ a.1 * a.1 := Int.mul_nonneg h0 h0
    simp only [logTo, ha, hb]
    unfold lexLe at h1 ⊢
    rcases h1 with h1 | ⟨h1, h2⟩
    · generalize a.1 * a.1 = p at *
      generalize b.1 * b.1 = q at *
      split <;> split <;> (constructor <;> simp only <;> omega)
    · have hle : a.1 * a.1 ≤ b.1 * b.1 := Int.mul_le_mul h2 h2 h0 (by omega)
      generalize a.1 * a.1 = p at *
      generalize b.1 * b.1 = q at *
      split <;> split <;> (constructor <;> simp only <;> omega)
theorem lg_mono {a b : Int} (h1 : 1 ≤ a) (h : a ≤ b) (h2 : b ≤ 1073741824) : lg a ≤ lg b := by
  obtain ⟨_, xa, _⟩ := lg_start h1 (by omega)
  unfold lg
  rw [if_neg (by omega), if_neg (by omega)]
  have hl : a.toNat.log2 ≤ b.toNat.log2 := by
    rw [Nat.le_log2 (by omega)]
    have := Nat.log2_self_le (n := a.toNat) (by omega)
    omega
  have key : lexLe (a * 2 ^ (30 - a.toNat.log2), (a.toNat.log2 : Int)) (b * 2 ^ (30 - b.toNat.log2), (b.toNat.log2 : Int)) := by
    rcases Nat.lt_or_ge a.toNat.log2 b.toNat.log2 with h3 | h3
    · left; simp only; omega
    · have e : a.toNat.log2 = b.toNat.log2 := by omega
      right; simp only [e]
      exact ⟨trivial, Int.mul_le_mul_of_nonneg_right h (Int.pow_nonneg (by omega))⟩
  have := (logTo_mono (by omega) key 16).2
  unfold lexLe at this
  omega
theorem bAndM1 (x : Int) : bAnd .i64 x 1 = x % 2 := by
  have h : (BitVec.ofInt 64 x &&& BitVec.ofInt 64 1).toNat = (x % 2).toNat := by
    rw [BitVec.toNat_and]
    have h1 : (BitVec.ofInt 64 1).toNat = 2 ^ 1 - 1 := by decide
    rw [h1, Nat.and_two_pow_sub_one_eq_mod, BitVec.toNat_ofInt]
    omega
  show IntKind.i64.wrap (((BitVec.ofInt 64 x &&& BitVec.ofInt 64 1).toNat : Nat) : Int) = x % 2
  rw [h, IntKind.wrap_i64]
  omega
theorem bAndM4 (x : Int) : bAnd .i64 x 15 = x % 16 := by
  have h : (BitVec.ofInt 64 x &&& BitVec.ofInt 64 15).toNat = (x % 16).toNat := by
    rw [BitVec.toNat_and]
    have h1 : (BitVec.ofInt 64 15).toNat = 2 ^ 4 - 1 := by decide
    rw [h1, Nat.and_two_pow_sub_one_eq_mod, BitVec.toNat_ofInt]
    omega
  show IntKind.i64.wrap (((BitVec.ofInt 64 x &&& BitVec.ofInt 64 15).toNat : Nat) : Int) = x % 16
  rw [h, IntKind.wrap_i64]
  omega
theorem bAndM5 (x : Int) : bAnd .i64 x 31 = x % 32 := by
  have h : (BitVec.ofInt 64 x &&& BitVec.ofInt 64 31).toNat = (x % 32).toNat := by
    rw [BitVec.toNat_and]
    have h1 : (BitVec.ofInt 64 31).toNat = 2 ^ 5 - 1 := by decide
    rw [h1, Nat.and_two_pow_sub_one_eq_mod, BitVec.toNat_ofInt]
    omega
  show IntKind.i64.wrap (((BitVec.ofInt 64 x &&& BitVec.ofInt 64 31).toNat : Nat) : Int) = x % 32
  rw [h, IntKind.wrap_i64]
  omega
theorem bAndM8 (x : Int) : bAnd .i64 x 255 = x % 256 := by
  have h : (BitVec.ofInt 64 x &&& BitVec.ofInt 64 255).toNat = (x % 256).toNat := by
    rw [BitVec.toNat_and]
    have h1 : (BitVec.ofInt 64 255).toNat = 2 ^ 8 - 1 := by decide
    rw [h1, Nat.and_two_pow_sub_one_eq_mod, BitVec.toNat_ofInt]
    omega
  show IntKind.i64.wrap (((BitVec.ofInt 64 x &&& BitVec.ofInt 64 255).toNat : Nat) : Int) = x % 256
  rw [h, IntKind.wrap_i64]
  omega
theorem bAndM20 (x : Int) : bAnd .i64 x 1048575 = x % 1048576 := by
  have h : (BitVec.ofInt 64 x &&& BitVec.ofInt 64 1048575).toNat = (x % 1048576).toNat := by
    rw [BitVec.toNat_and]
    have h1 : (BitVec.ofInt 64 1048575).toNat = 2 ^ 20 - 1 := by decide
    rw [h1, Nat.and_two_pow_sub_one_eq_mod, BitVec.toNat_ofInt]
    omega
  show IntKind.i64.wrap (((BitVec.ofInt 64 x &&& BitVec.ofInt 64 1048575).toNat : Nat) : Int) = x % 1048576
  rw [h, IntKind.wrap_i64]
  omega
theorem bAndM30 (x : Int) : bAnd .i64 x 1073741823 = x % 1073741824 := by
  have h : (BitVec.ofInt 64 x &&& BitVec.ofInt 64 1073741823).toNat = (x % 1073741824).toNat := by
    rw [BitVec.toNat_and]
    have h1 : (BitVec.ofInt 64 1073741823).toNat = 2 ^ 30 - 1 := by decide
    rw [h1, Nat.and_two_pow_sub_one_eq_mod, BitVec.toNat_ofInt]
    omega
  show IntKind.i64.wrap (((BitVec.ofInt 64 x &&& BitVec.ofInt 64 1073741823).toNat : Nat) : Int) = x % 1073741824
  rw [h, IntKind.wrap_i64]
  omega
theorem wrapP (k : Nat) (hk : k ≤ 15) : IntKind.i64.wrap (1 * 2 ^ (min k IntKind.i64.bits)) = 2 ^ k := by
  rw [Nat.min_eq_left (by show k ≤ 64; omega), Int.one_mul]
  have : (2 : Nat) ^ k ≤ 2 ^ 15 := Nat.pow_le_pow_right (by omega) hk
  have h2 : ((2 ^ k : Nat) : Int) = (2 : Int) ^ k := by simp
  have h3 : (0 : Int) ≤ 2 ^ k := Int.pow_nonneg (by omega)
  exact wrapI (by omega) (by omega)

set_option maxHeartbeats 4000000 in
theorem grows_ok (n m : Int) : FnOK Try.prog 7 [] [.d (.int .i64 n), .d (.int .i64 m)] (.d (.bool true)) [] := by
  refine fn_ok (nt := 47) (rs := [.tmp 4]) Try.func7 rfl Try.ntmps7 rfl (by simp) (by decide) rfl fun K => ?_
  have a1 : bAnd .i64 n 1048575 = n % 1048576 := bAndM20 n
  have a2 : bAnd .i64 m 1048575 = m % 1048576 := bAndM20 m
  have a3 : bAnd .i64 n 15 = n % 16 := bAndM4 n
  have c1 : 0 ≤ n % 1048576 ∧ n % 1048576 < 1048576 := by omega
  have c2 : 0 ≤ m % 1048576 ∧ m % 1048576 < 1048576 := by omega
  have c3 : 0 ≤ n % 16 ∧ n % 16 < 16 := by omega
  obtain ⟨k, hk⟩ : ∃ k : Nat, n % 16 = k := ⟨(n % 16).toNat, by omega⟩
  rw [hk] at a3 c3
  generalize n % 1048576 = x at *
  generalize m % 1048576 = y at *
  have e1 : IntKind.i64.wrap (1 + x) = 1 + x := wrapI (by omega) (by omega)
  have e2 : IntKind.i64.wrap (1 + y) = 1 + y := wrapI (by omega) (by omega)
  refine sr (by simp; rfl) ?_ -- region 0
  refine sr (by simp [a1, a2, e1, e2]; rfl) ?_ -- region 1
  obtain ⟨u, v, hu1, huv, hv2, hcase⟩ : ∃ u v : Int, 1 ≤ u ∧ u ≤ v ∧ v ≤ 1048576 ∧ ((y < x ∧ u = 1 + y ∧ v = 1 + x) ∨ (x ≤ y ∧ u = 1 + x ∧ v = 1 + y)) := by
    rcases Int.lt_or_le y x with h | h
    · exact ⟨1 + y, 1 + x, by omega, by omega, by omega, .inl ⟨h, rfl, rfl⟩⟩
    · exact ⟨1 + x, 1 + y, by omega, by omega, by omega, .inr ⟨h, rfl, rfl⟩⟩
  refine sjoin { nt := 47, env := [(5, .d (.int .i64 u)), (6, .d (.int .i64 v)), (0, .d (.int .i64 n))], box := [], vec := [] } ?_ ?_
  · refine sr (by simp; rfl) ?_ -- region 2
    rcases hcase with ⟨h, rfl, rfl⟩ | ⟨h, rfl, rfl⟩
    · refine tr_cond (b := true) (by simp; omega) (fun _ => ?_) (fun h => by cases h)
      refine lr (by simp; rfl) ?_ -- region 3
      show Weak _ _
      simp [weak_iff]
    · refine tr_cond (b := false) (by simp; omega) (fun h => by cases h) (fun _ => ?_)
      refine tr_skip ?_
      show Weak _ _
      simp [weak_iff]
  have m1 := lg_mono hu1 huv (by omega)
  have m2 := lg_double hu1 (by omega)
  have m3 := lg_pow k (by omega)
  have l1 := log_ok u
  have l2 := log_ok v
  have l3 := log_ok (2 * u)
  have l4 := log_ok (2 ^ k)
  have b1 := lg_bd u
  rw [m2] at l3
  rw [m3] at l4
  generalize lg u = p at *
  generalize lg v = q at *
  have f1 : IntKind.i64.wrap (2 * u) = 2 * u := wrapI (by omega) (by omega)
  have f2 : IntKind.i64.wrap (p + 65536) = p + 65536 := wrapI (by omega) (by omega)
  have f3 : IntKind.u64.wrap (k : Int) = (k : Int) := by simp [IntKind.wrap, IntKind.signed, IntKind.bits]; omega
  have f4 := wrapP k (by omega)
  rw [Int.one_mul] at f4
  have f5 : IntKind.i64.wrap ((k : Int) * 65536) = (k : Int) * 65536 := wrapI (by omega) (by omega)
  refine sr (by simp [a3]; rfl) ?_ -- region 4
  refine sc ?_ -- region 5
  refine so 1 (by simp; rfl) ?_
  refine tops_call [] l1 (by simp) rfl rfl rfl Try.call15 (by simp) (by simp) (by simp) (by simp) (by simp) ?_
  refine so 1 (by simp; rfl) ?_
  refine tops_call [] l2 (by simp) rfl rfl rfl Try.call15 (by simp) (by simp) (by simp) (by simp) (by simp) ?_
  refine so 4 (by simp [m1, f1]; rfl) ?_
  refine tops_call [] l3 (by simp [m1]) rfl rfl rfl Try.call15 (by simp) (by simp) (by simp) (by simp) (by simp) ?_
  refine so 1 (by simp [m1]; rfl) ?_
  refine tops_call [] l1 (by simp [m1]) rfl rfl rfl Try.call15 (by simp) (by simp) (by simp) (by simp) (by simp) ?_
  refine so 7 (by simp [m1, f2, f3, f4]; rfl) ?_
  refine tops_call [] l4 (by simp [m1]) rfl rfl rfl Try.call15 (by simp) (by simp) (by simp) (by simp) (by simp) ?_
  refine so 5 (by simp [m1, f5]; rfl) ?_
  refine tops_call [] awake2_ok (by simp [m1]) rfl rfl rfl Try.call17 (by simp) (by simp) (by simp) (by simp) (by simp) ?_
  refine sl (by simp [m1]; rfl) ?_
  exact tr_ret ⟨[], by simp, rfl, by simp⟩
end Go.Vl
