/- Walks over functions of the given program in the value logic: what each computes, and plain laws of it. Conditions: none. -/
import Derived.Test.YtkgimfomocpebaaEntA
set_option linter.unusedSimpArgs false
set_option linter.unusedVariables false
namespace Go.Vl
open Go Go.Proofs

theorem lg_start {n : Int} (h1 : 1 ≤ n) (h2 : n ≤ 1073741824) : n.toNat.log2 ≤ 30 ∧ 1073741824 ≤ n * 2 ^ (30 - n.toNat.log2) ∧ n * 2 ^ (30 - n.toNat.log2) < 2147483648 := by
  obtain ⟨m, rfl⟩ : ∃ m : Nat, n = m := ⟨n.toNat, by omega⟩
  have hm : m ≠ 0 := by omega
  simp only [Int.toNat_natCast]
  have a1 := Nat.log2_self_le hm
  have a2 : m < 2 ^ (m.log2 + 1) := Nat.lt_log2_self
  have a3 : m.log2 ≤ 30 := by
    have : m.log2 < 31 := (Nat.log2_lt hm).2 (by omega)
    omega
  refine ⟨a3, ?_⟩
  generalize m.log2 = k at *
  have e : (2 : Nat) ^ k * 2 ^ (30 - k) = 1073741824 := by rw [← Nat.pow_add, show k + (30 - k) = 30 by omega]
  have e2 : (2 : Nat) ^ (k + 1) * 2 ^ (30 - k) = 2147483648 := by rw [← Nat.pow_add, show k + 1 + (30 - k) = 31 by omega]
  have b1 : 2 ^ k * 2 ^ (30 - k) ≤ m * 2 ^ (30 - k) := Nat.mul_le_mul_right _ a1
  have b2 : m * 2 ^ (30 - k) < 2 ^ (k + 1) * 2 ^ (30 - k) := Nat.mul_lt_mul_of_pos_right a2 (Nat.two_pow_pos _)
  rw [e] at b1; rw [e2] at b2
  have c : ((m * 2 ^ (30 - k) : Nat) : Int) = (m : Int) * 2 ^ (30 - k) := by simp
  rw [← c]; omega

set_option maxHeartbeats 4000000 in
theorem log_ok (n : Int) : FnOK Try.prog 15 [] [.d (.int .i64 n)] (.d (.int .i64 (lg n))) [] := by
  refine fn_ok (nt := 35) (rs := [.tmp 2]) Try.func15 rfl Try.ntmps15 rfl (by simp) (by decide) rfl fun K => ?_
  refine sr (by simp; rfl) ?_ -- region 0
  refine tr_seq ?_
  by_cases h1 : n < 1
  · have hl : lg n = 0 := by unfold lg; rw [if_pos (.inl h1)]
    refine sr (by simp [h1]; rfl) ?_
    refine tr_cond (b := true) (by simp) (fun _ => ?_) (fun h => by cases h)
    refine sr (by simp; rfl) ?_
    exact tr_ret ⟨[], by simp [hl], rfl, by simp⟩
  by_cases h2 : 1073741824 < n
  · have hl : lg n = 0 := by unfold lg; rw [if_pos (.inr h2)]
    refine sr (by simp [h1, h2]; rfl) ?_
    refine tr_cond (b := true) (by simp [h2]) (fun _ => ?_) (fun h => by cases h)
    refine sr (by simp; rfl) ?_
    exact tr_ret ⟨[], by simp [hl], rfl, by simp⟩
  have hl : lg n = (logTo (n * 2 ^ (30 - n.toNat.log2)) n.toNat.log2 16).2 := by unfold lg; rw [if_neg (by omega)]
  obtain ⟨hk, hx1, hx2⟩ := lg_start (show 1 ≤ n by omega) (show n ≤ 1073741824 by omega)
  have hb := logTo_bounds hx1 hx2 (y := n.toNat.log2) (by omega) (by omega)
  have hbl : bl n.toNat = n.toNat.log2 + 1 := by unfold bl; rw [if_neg (by omega)]
  have hlen := len_ok n.toNat (by omega)
  have hn : ((n.toNat : Nat) : Int) = n := by omega
  rw [hn, hbl] at hlen
  rw [hl]
  generalize n.toNat.log2 = k at *
  have ew : IntKind.u64.wrap n = n := by simp [IntKind.wrap, IntKind.signed, IntKind.bits]; omega
  have e1 : IntKind.i64.wrap (k : Int) = (k : Int) := wrapI (by omega) (by omega)
  have e2 : IntKind.i64.wrap (30 - (k : Int)) = ((30 - k : Nat) : Int) := by rw [wrapI (by omega) (by omega)]; omega
  have e3 : IntKind.i64.wrap (n * 2 ^ (min (30 - k) IntKind.i64.bits)) = n * 2 ^ (30 - k) := by
    rw [Nat.min_eq_left (by show 30 - k ≤ 64; omega)]; exact wrapI (by omega) (by omega)
  refine sr (by simp [h1, h2]; rfl) ?_ -- region 1
  refine tr_cond (b := false) (by simp [h2]) (fun h => by cases h) (fun _ => ?_)
  refine tr_skip ?_
  refine sc ?_ -- region 3
  refine so 2 (by simp [ew]; rfl) ?_
  refine tops_call [] hlen (by simp) rfl rfl rfl Try.call22 (by simp) (by simp) (by simp) (by simp) (by simp) ?_
  refine sl (by simp [e1]; rfl) ?_
  refine sr (by simp [e2, e3]; rfl) ?_ -- region 4
  generalize n * 2 ^ (30 - k) = x at *
  refine tr_seq ?_
  refine sr (by simp; rfl) ?_ -- region 5
  refine tr_block (tr_loop (ι := { i : Nat // i ≤ 16 })
    (fun i => { nt := 35, env := [(19, .d (.int .i64 i.1)), (4, .d (.int .i64 (logTo x k i.1).1)), (3, .d (.int .i64 (logTo x k i.1).2))], box := [], vec := [] })
    (fun i => 16 - i.1) ⟨0, by omega⟩ (by simp [weak_iff, logTo]) fun ⟨i, hi⟩ => ?_) -- block 0
  refine sr (by simp; rfl) ?_ -- region 6
  refine tr_seq ?_
  refine tr_cond (by simp; rfl) (fun h => ?_) (fun h => ?_)
  · simp at h
    obtain ⟨⟨a, b⟩, c, d⟩ := hb i
    have hp : (2 : Int) ^ i ≤ 65536 := by
      have : (2 : Nat) ^ i ≤ 2 ^ 16 := Nat.pow_le_pow_right (by omega) (by omega)
      have h2 : ((2 ^ i : Nat) : Int) = (2 : Int) ^ i := by simp
      omega
    have hstep : logTo x k (i + 1) = let c := logTo x k i; if 2147483648 ≤ c.1 * c.1 / 1073741824 then (c.1 * c.1 / 1073741824 / 2, 2 * c.2 + 1) else (c.1 * c.1 / 1073741824, 2 * c.2) := rfl
    have hs := sq_bounds a b
    generalize (2 : Int) ^ i = w at *
    generalize logTo x k i = q at *
    simp only at hstep
    have f1 : IntKind.i64.wrap (q.1 * q.1) = q.1 * q.1 := wrapI (by omega) (by omega)
    have f2 : (q.1 * q.1).tdiv 1073741824 = q.1 * q.1 / 1073741824 := Int.tdiv_eq_ediv_of_nonneg (by omega)
    generalize hz : q.1 * q.1 = z at *
    have f3 : IntKind.i64.wrap (z / 1073741824) = z / 1073741824 := wrapI (by omega) (by omega)
    have f4 : IntKind.i64.wrap (q.2 * 2) = 2 * q.2 := by rw [wrapI (by omega) (by omega)]; omega
    have f5 : (z / 1073741824).tdiv 2 = z / 1073741824 / 2 := Int.tdiv_eq_ediv_of_nonneg (by omega)
    have f6 : IntKind.i64.wrap (z / 1073741824 / 2) = z / 1073741824 / 2 := wrapI (by omega) (by omega)
    have f7 : IntKind.i64.wrap (2 * q.2 + 1) = 2 * q.2 + 1 := wrapI (by omega) (by omega)
    have f8 : IntKind.i64.wrap ((i : Int) + 1) = ((i + 1 : Nat) : Int) := wrapI (by omega) (by omega)
    refine tr_skip ?_
    refine tr_seq ?_
    refine tr_block ?_ -- block 1
    refine sr (by simp [hz, f1, f2, f3]; rfl) ?_ -- region 7
    refine sr (by simp [f4]; rfl) ?_ -- region 8
    refine sr (by simp; rfl) ?_ -- region 9
    by_cases hge : 2147483648 ≤ z / 1073741824
    · refine tr_cond (b := true) (by simp [hge]) (fun _ => ?_) (fun h => by cases h)
      refine sr (by simp [f5, f6]; rfl) ?_ -- region 10
      refine lr (by simp [f7]; rfl) ?_ -- region 11
      refine lr (by simp [f8]; rfl) ?_ -- region 12
      exact ⟨⟨i + 1, by omega⟩, by simp; omega, by simp [weak_iff, hstep, hge]⟩
    · refine tr_cond (b := false) (by simp; omega) (fun h => by cases h) (fun _ => ?_)
      refine tr_skip ?_
      refine lr (by simp [f8]; rfl) ?_ -- region 12
      exact ⟨⟨i + 1, by omega⟩, by simp; omega, by simp [weak_iff, hstep, hge]⟩
  · simp at h
    obtain rfl : i = 16 := by omega
    refine tr_exit ?_ -- 0
    refine sr (by simp; rfl) ?_ -- region 13
    exact tr_ret ⟨[], by simp, rfl, by simp⟩
end Go.Vl
