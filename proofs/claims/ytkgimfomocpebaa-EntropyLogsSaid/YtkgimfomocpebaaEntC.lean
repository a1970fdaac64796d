/- Walks over functions of the given program in the value logic: what each computes, and plain laws of it. Conditions: none. -/
import Derived.Test.YtkgimfomocpebaaEntB
set_option linter.unusedSimpArgs false
set_option linter.unusedVariables false
namespace Go.Vl
open Go Go.Proofs

set_option maxHeartbeats 4000000 in
theorem reflog_ok (n : Int) : FnOK Try.prog 16 [] [.d (.int .i64 n)] (.d (.int .i64 (lg n))) [] := by
  refine fn_ok (nt := 41) (rs := [.tmp 2]) Try.func16 rfl Try.ntmps16 rfl (by simp) (by decide) rfl fun K => ?_
  refine sr (by simp; rfl) ?_ -- region 0
  refine tr_seq ?_
  by_cases h1 : n < 1
  · have hl : lg n = 0 := by unfold lg; rw [if_pos (.inl h1)]
    refine sr (by simp [h1]; rfl) ?_
    refine tr_cond (b := true) (by simp) (fun _ => ?_) (fun h => by cases h)
    refine sr (by simp; rfl) ?_
    exact tr_ret ⟨[], by simp [hl], rfl, by simp⟩
  by_cases h2 : 1073741824 < n
  · have hl : lg n = 0 := by unfold lg; rw [if_pos (.inr h2)]
    refine sr (by simp [h1, h2]; rfl) ?_
    refine tr_cond (b := true) (by simp [h2]) (fun _ => ?_) (fun h => by cases h)
    refine sr (by simp; rfl) ?_
    exact tr_ret ⟨[], by simp [hl], rfl, by simp⟩
  have hl : lg n = (logTo (n * 2 ^ (30 - n.toNat.log2)) n.toNat.log2 16).2 := by unfold lg; rw [if_neg (by omega)]
  obtain ⟨hk, hx1, hx2⟩ := lg_start (show 1 ≤ n by omega) (show n ≤ 1073741824 by omega)
  have hb := logTo_bounds hx1 hx2 (y := n.toNat.log2) (by omega) (by omega)
  have hle : ∀ k : Nat, (2 : Int) * 2 ^ k ≤ n ↔ k < n.toNat.log2 := by
    intro k
    rw [show k < n.toNat.log2 ↔ k + 1 ≤ n.toNat.log2 from Iff.rfl, Nat.le_log2 (by omega)]
    have : ((2 ^ (k + 1) : Nat) : Int) = 2 * 2 ^ k := by rw [Nat.pow_succ]; simp; omega
    omega
  rw [hl]
  generalize n.toNat.log2 = k at *
  have e2 : IntKind.i64.wrap (30 - (k : Int)) = ((30 - k : Nat) : Int) := by rw [wrapI (by omega) (by omega)]; omega
  have e3 : IntKind.i64.wrap (n * 2 ^ (min (30 - k) IntKind.i64.bits)) = n * 2 ^ (30 - k) := by
    rw [Nat.min_eq_left (by show 30 - k ≤ 64; omega)]; exact wrapI (by omega) (by omega)
  refine sr (by simp [h1, h2]; rfl) ?_ -- region 1
  refine tr_cond (b := false) (by simp [h2]) (fun h => by cases h) (fun _ => ?_)
  refine tr_skip ?_
  refine sr (by simp; rfl) ?_ -- region 3
  refine tr_seq ?_
  refine tr_block (tr_loop (ι := { j : Nat // j ≤ k })
    (fun j => { nt := 41, env := [(3, .d (.int .i64 j.1)), (0, .d (.int .i64 n))], box := [], vec := [] })
    (fun j => k - j.1) ⟨0, by omega⟩ (by simp [weak_iff]) fun ⟨j, hj⟩ => ?_) -- block 0
  refine tr_seq ?_
  have g1 : IntKind.i64.wrap (2 * 2 ^ (min j IntKind.i64.bits)) = 2 * 2 ^ j := by
    rw [Nat.min_eq_left (by show j ≤ 64; omega)]
    have : (2 : Nat) ^ j ≤ 2 ^ 30 := Nat.pow_le_pow_right (by omega) (by omega)
    have h2 : ((2 ^ j : Nat) : Int) = (2 : Int) ^ j := by simp
    have h0 : 0 ≤ (2 : Int) ^ j := Int.pow_nonneg (by omega)
    exact wrapI (by omega) (by omega)
  refine sr (by simp [g1]; rfl) ?_ -- region 4
  by_cases hjk : j < k
  · have := (hle j).2 hjk
    have f8 : IntKind.i64.wrap ((j : Int) + 1) = ((j + 1 : Nat) : Int) := wrapI (by omega) (by omega)
    refine tr_cond (b := true) (by simp [this]) (fun _ => ?_) (fun h => by cases h)
    refine tr_skip ?_
    refine tr_block ?_ -- block 1
    refine lr (by simp [f8]; rfl) ?_ -- region 5
    exact ⟨⟨j + 1, by omega⟩, by simp; omega, by simp [weak_iff]⟩
  have hn : n < 2 * 2 ^ j := Int.not_le.1 fun h => hjk ((hle j).1 h)
  refine tr_cond (b := false) (by simp [hn]) (fun h => by cases h) (fun _ => ?_)
  obtain rfl : j = k := by omega
  refine tr_exit ?_ -- 0
  refine sr (by simp [e2, e3]; rfl) ?_ -- region 6
  generalize n * 2 ^ (30 - j) = x at *
  refine tr_seq ?_
  refine sr (by simp; rfl) ?_ -- region 7
  refine tr_block (tr_loop (ι := { i : Nat // i ≤ 16 })
    (fun i => { nt := 41, env := [(6, .d (.int .i64 i.1)), (4, .d (.int .i64 (logTo x j i.1).1)), (5, .d (.int .i64 (logTo x j i.1).2))], box := [], vec := [] })
    (fun i => 16 - i.1) ⟨0, by omega⟩ (by simp [weak_iff, logTo]) fun ⟨i, hi⟩ => ?_) -- block 2
  refine tr_seq ?_
  refine sr (by simp; rfl) ?_ -- region 8
  refine tr_cond (by simp; rfl) (fun h => ?_) (fun h => ?_)
  · simp at h
    obtain ⟨⟨a, b⟩, c, d⟩ := hb i
    have hp : (2 : Int) ^ i ≤ 65536 := by
      have : (2 : Nat) ^ i ≤ 2 ^ 16 := Nat.pow_le_pow_right (by omega) (by omega)
      have h2 : ((2 ^ i : Nat) : Int) = (2 : Int) ^ i := by simp
      omega
    have hstep : logTo x j (i + 1) = let c := logTo x j i; if 2147483648 ≤ c.1 * c.1 / 1073741824 then (c.1 * c.1 / 1073741824 / 2, 2 * c.2 + 1) else (c.1 * c.1 / 1073741824, 2 * c.2) := rfl
    have hs := sq_bounds a b
    generalize (2 : Int) ^ i = w at *
    generalize logTo x j i = q at *
    simp only at hstep
    have f1 : IntKind.i64.wrap (q.1 * q.1) = q.1 * q.1 := wrapI (by omega) (by omega)
    generalize hz : q.1 * q.1 = z at *
    have f2 : z.fdiv (2 ^ min 30 IntKind.i64.bits) = z / 1073741824 := by
      rw [Int.fdiv_eq_ediv_of_nonneg _ (Int.pow_nonneg (by omega))]; rfl
    have f4 : IntKind.i64.wrap (q.2 * 2) = 2 * q.2 := by rw [wrapI (by omega) (by omega)]; omega
    have f5 : (z / 1073741824).fdiv (2 ^ min 1 IntKind.i64.bits) = z / 1073741824 / 2 := by
      rw [Int.fdiv_eq_ediv_of_nonneg _ (Int.pow_nonneg (by omega))]; rfl
    have f7 : IntKind.i64.wrap (2 * q.2 + 1) = 2 * q.2 + 1 := wrapI (by omega) (by omega)
    have f8 : IntKind.i64.wrap ((i : Int) + 1) = ((i + 1 : Nat) : Int) := wrapI (by omega) (by omega)
    refine tr_skip ?_
    refine tr_seq ?_
    refine tr_block ?_ -- block 3
    refine sr (by simp [hz, f1, f2]; rfl) ?_ -- region 10
    refine sr (by simp [f4]; rfl) ?_ -- region 11
    refine sr (by simp; rfl) ?_ -- region 12
    by_cases hge : 2147483648 ≤ z / 1073741824
    · refine tr_cond (b := true) (by simp [hge]) (fun _ => ?_) (fun h => by cases h)
      refine sr (by simp [f5]; rfl) ?_ -- region 13
      refine lr (by simp [f7]; rfl) ?_ -- region 14
      refine lr (by simp [f8]; rfl) ?_ -- region 9
      exact ⟨⟨i + 1, by omega⟩, by simp; omega, by simp [weak_iff, hstep, hge]⟩
    · refine tr_cond (b := false) (by simp; omega) (fun h => by cases h) (fun _ => ?_)
      refine tr_skip ?_
      refine lr (by simp [f8]; rfl) ?_ -- region 9
      exact ⟨⟨i + 1, by omega⟩, by simp; omega, by simp [weak_iff, hstep, hge]⟩
  · simp at h
    obtain rfl : i = 16 := by omega
    refine tr_exit ?_ -- 2
    refine sr (by simp; rfl) ?_ -- region 15
    exact tr_ret ⟨[], by simp, rfl, by simp⟩
end Go.Vl
