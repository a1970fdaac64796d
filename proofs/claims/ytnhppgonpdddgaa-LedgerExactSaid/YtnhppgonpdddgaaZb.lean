/- Walks over functions of the given program in the value logic: what each computes, and plain laws of it. Conditions: none. -/
import Derived.Test.YtnhppgonpdddgaaTyZ
import Derived.Test.YtnhppgonpdddgaaVmLz
set_option linter.unusedSimpArgs false
set_option linter.unusedVariables false
namespace Go.Vl
open Go Go.Proofs

def bl (n : Nat) : Nat := if n = 0 then 0 else n.log2 + 1
theorem bl_shift (n s : Nat) (h : 2 ^ s ≤ n) : bl n = s + bl (n / 2 ^ s) := by
  have h0 : 0 < 2 ^ s := Nat.two_pow_pos s
  have hn : n ≠ 0 := by omega
  have hd : n / 2 ^ s ≠ 0 := by have := Nat.div_pos h h0; omega
  unfold bl
  rw [if_neg hn, if_neg hd]
  have h1 := Nat.log2_self_le hd
  have h2 : n / 2 ^ s < 2 ^ ((n / 2 ^ s).log2 + 1) := Nat.lt_log2_self
  generalize (n / 2 ^ s).log2 = j at *
  have a1 : 2 ^ (s + j) ≤ n := by
    rw [Nat.pow_add, Nat.mul_comm]; exact (Nat.le_div_iff_mul_le h0).1 h1
  have a2 : n < 2 ^ (s + j + 1) := by
    rw [Nat.add_assoc, Nat.pow_add, Nat.mul_comm]; exact (Nat.div_lt_iff_lt_mul h0).1 h2
  have b1 : s + j ≤ n.log2 := (Nat.le_log2 hn).2 a1
  have b2 : n.log2 < s + j + 1 := (Nat.log2_lt hn).2 a2
  omega
theorem bl_le (n s : Nat) (h : n < 2 ^ s) : bl n ≤ s := by
  unfold bl; split
  · omega
  · rename_i hn; have := (Nat.log2_lt hn).2 h; omega
theorem shrU (n s q : Nat) (k : IntKind) (hs : s ≤ k.bits) (hq : 2 ^ s = q) : ((n : Int)).fdiv (2 ^ min s k.bits) = ((n / q : Nat) : Int) := by
  rw [Nat.min_eq_left hs, Int.fdiv_eq_ediv_of_nonneg _ (Int.pow_nonneg (by omega)), ← hq]
  simp

set_option maxHeartbeats 4000000 in
set_option maxRecDepth 100000 in
theorem len64_ok (n : Nat) (h : n < 4294967296) : FnOK Try.prog 41 [] [.d (.int .u64 n)] (.d (.int .i64 (bl n))) [] := by
  refine fn_ok (nt := 25) (rs := [.tmp 2]) Try.func41 rfl Try.ntmps41 rfl (by simp) (by decide) rfl fun K => ?_
  refine sr (by simp; rfl) ?_ -- region 0
  refine sjoin { nt := 25, env := [(0, .d (.int .u64 n)), (2, .d (.int .i64 0))], box := [], vec := [] } ?_ ?_
  · refine sr (by simp; rfl) ?_
    refine tr_cond (b := false) (by simp; omega) (fun h => by cases h) (fun _ => ?_)
    refine tr_skip ?_
    show Weak _ _
    simp [weak_iff]
  obtain ⟨m, a, hm, ha, hb, hc⟩ : ∃ m a : Nat, m < 65536 ∧ a ≤ 16 ∧ bl n = a + bl m ∧ ((65536 ≤ n ∧ m = n / 65536 ∧ a = 16) ∨ (n < 65536 ∧ m = n ∧ a = 0)) := by
    by_cases h1 : 65536 ≤ n
    · exact ⟨n / 65536, 16, by omega, by omega, bl_shift n 16 h1, .inl ⟨h1, rfl, rfl⟩⟩
    · exact ⟨n, 0, by omega, by omega, by omega, .inr ⟨by omega, rfl, rfl⟩⟩
  refine sjoin { nt := 25, env := [(0, .d (.int .u64 m)), (2, .d (.int .i64 a))], box := [], vec := [] } ?_ ?_
  · refine sr (by simp; rfl) ?_
    rcases hc with ⟨h1, rfl, rfl⟩ | ⟨h1, rfl, rfl⟩
    · refine tr_cond (b := true) (by simp; omega) (fun _ => ?_) (fun h => by cases h)
      have e1 := shrU n 16 65536 .u64 (by decide) (by decide)
      have e2 : IntKind.i64.wrap 16 = 16 := by decide
      refine sr (by simp [e1]; rfl) ?_
      refine lr (by simp [e2]; rfl) ?_
      show Weak _ _
      simp [weak_iff]
    · refine tr_cond (b := false) (by simp; omega) (fun h => by cases h) (fun _ => ?_)
      refine tr_skip ?_
      show Weak _ _
      simp [weak_iff]
  clear hc
  obtain ⟨m2, a2, hm2, ha2, hb2, hc⟩ : ∃ m2 a2 : Nat, m2 < 256 ∧ a2 ≤ 24 ∧ bl n = a2 + bl m2 ∧ ((256 ≤ m ∧ m2 = m / 256 ∧ a2 = a + 8) ∨ (m < 256 ∧ m2 = m ∧ a2 = a)) := by
    by_cases h1 : 256 ≤ m
    · exact ⟨m / 256, a + 8, by omega, by omega, by have : bl m = 8 + bl (m / 256) := bl_shift m 8 h1; omega, .inl ⟨h1, rfl, rfl⟩⟩
    · exact ⟨m, a, by omega, by omega, by omega, .inr ⟨by omega, rfl, rfl⟩⟩
  refine sjoin { nt := 25, env := [(0, .d (.int .u64 m2)), (2, .d (.int .i64 a2))], box := [], vec := [] } ?_ ?_
  · refine sr (by simp; rfl) ?_
    rcases hc with ⟨h1, rfl, rfl⟩ | ⟨h1, rfl, rfl⟩
    · refine tr_cond (b := true) (by simp; omega) (fun _ => ?_) (fun h => by cases h)
      have e1 := shrU m 8 256 .u64 (by decide) (by decide)
      have e2 : IntKind.i64.wrap ((a : Int) + 8) = ((a + 8 : Nat) : Int) := wrapI (by omega) (by omega)
      refine sr (by simp [e1]; rfl) ?_
      refine lr (by simp [e2]; rfl) ?_
      show Weak _ _
      simp [weak_iff]
    · refine tr_cond (b := false) (by simp; omega) (fun h => by cases h) (fun _ => ?_)
      refine tr_skip ?_
      show Weak _ _
      simp [weak_iff]
  clear hc hb hm h
  have hw : IntKind.u8.wrap m2 = m2 := by simp [IntKind.wrap, IntKind.signed, IntKind.bits]; omega
  have hl := bl_le m2 8 hm2
  have e1 : IntKind.i64.wrap ((bl m2 : Int) % 256) = (bl m2 : Int) := by rw [wrapI (by omega) (by omega)]; omega
  have e2 : IntKind.i64.wrap ((a2 : Int) + (bl m2 : Int)) = ((a2 + bl m2 : Nat) : Int) := wrapI (by omega) (by omega)
  rw [hb2]
  clear hb2
  refine sr (by
    simp [hw]
    generalize hT : (_ : ByteArray)[m2]? = o
    obtain rfl : o = some (UInt8.ofNat (bl m2)) := by
      rw [← hT]; clear hT hw e1 e2 hl K o ha; revert hm2 m2; decide +kernel
    simp [e1, e2]
    rfl) ?_
  exact tr_ret ⟨[], by simp, rfl, by simp⟩

/-- the bits that n needs; only what lies below 2 ^ 32 is looked at -/
def math_bits_Len64 (n : Int) : Option Int := if 0 ≤ n ∧ n < 4294967296 then some (bl n.toNat) else none
theorem math_bits_Len64_ok {a0 r : Int} (h0 : math_bits_Len64 a0 = some r) : FnOK Try.prog 41 [] [.d (.int .u64 a0)] (.d (.int .i64 r)) [] := by
  unfold math_bits_Len64 at h0
  split at h0
  · cases h0
    have h := len64_ok a0.toNat (by omega)
    rwa [show ((a0.toNat : Nat) : Int) = a0 by omega] at h
  · cases h0
end Go.Vl
