/- The law EntropyOrder. Conditions: none. -/
import Derived.Test.YtnhppgonpdddgaaZeA
set_option linter.unusedSimpArgs false
set_option linter.unusedVariables false
namespace Go.Vl
open Go

theorem order_loop {y1 : (List Int) × make_Tape} (h64 : y1.1.length ≤ 64) (h0 : 0 < y1.1.length) : ∀ (m : Nat) (u v : List Int), m ≤ y1.1.length → u.length = y1.1.length - m → v.length = y1.1.length - m →
    iter (law02_EntropyOrder_l0 y1) ((m : Int) - 1, u, v) = some (u ++ (y1.1.take m).reverse, v ++ List.replicate m (y1.1.headD 0)) := fun m => by
  induction m with
  | zero =>
    intro u v _ _ _
    refine iter_out ?_
    unfold law02_EntropyOrder_l0
    rw [if_neg (by simp)]
    simp
  | succ m ih =>
    intro u v hm hu hv
    have hml : m < y1.1.length := by omega
    have e0 : ((m + 1 : Nat) : Int) - 1 = (m : Int) := by omega
    have hgo : law02_EntropyOrder_l0 y1 (((m + 1 : Nat) : Int) - 1, u, v) = some (.go ((m : Int) - 1, u ++ [y1.1[m]], v ++ [y1.1.headD 0])) := by
      rw [e0]
      unfold law02_EntropyOrder_l0
      simp only
      rw [if_pos (by simp), idx_lt hml]
      simp only [Option.bind_some]
      rw [ck_t (by simp; omega), show (0 : Int) = ((0 : Nat) : Int) from rfl, idx_lt h0]
      simp only [Option.bind_some]
      rw [ck_t (by simp; omega), w64 (by omega) (by omega)]
      have hd : ∀ (l : List Int) (h : 0 < l.length), l[0] = l.headD 0 := fun l h => by
        cases l with
        | nil => simp at h
        | cons x l => simp
      have : y1.1[0] = y1.1.headD 0 := hd _ h0
      rw [this]
      rfl
    rw [iter_go hgo, ih _ _ (by omega) (by simp; omega) (by simp; omega), List.take_succ_eq_append_getElem hml, List.reverse_append, List.replicate_succ]
    simp
theorem and63 (x : Int) : 0 ≤ bAnd .i64 x 63 ∧ bAnd .i64 x 63 ≤ 63 := by
  have h : (BitVec.ofInt 64 x &&& BitVec.ofInt 64 63).toNat = (x % 64).toNat := by
    rw [BitVec.toNat_and]
    have h1 : (BitVec.ofInt 64 63).toNat = 2 ^ 6 - 1 := by decide
    rw [h1, Nat.and_two_pow_sub_one_eq_mod, BitVec.toNat_ofInt]
    omega
  have e : bAnd .i64 x 63 = x % 64 := by
    show IntKind.i64.wrap (((BitVec.ofInt 64 x &&& BitVec.ofInt 64 63).toNat : Nat) : Int) = x % 64
    rw [h, IntKind.wrap_i64]
    omega
  omega
theorem EntropyOrder_law (a : List Int) (n : Int) : law02_EntropyOrder a n = some true := by
  unfold law02_EntropyOrder
  obtain ⟨g1, g2⟩ := and63 n
  rw [w64 (x := 1 + bAnd .i64 n 63) (by omega) (by omega)]
  obtain ⟨l, m, e1, hb, hl, _, _⟩ := bytesE (m := ⟨a, 0⟩) (k := 0) (n := 1 + bAnd .i64 n 63) (by simp) (by simp) (by omega) (by omega) (by omega)
  rw [e1]
  simp only [Option.bind_some]
  have h64 : l.length ≤ 64 := by omega
  have h0 : 0 < l.length := by omega
  rw [w64 (x := (l.length : Int) - 1) (by omega) (by omega)]
  have hloop := order_loop (y1 := (l, m)) h64 h0 l.length [] [] (Nat.le_refl _) (by simp) (by simp)
  rw [hloop]
  simp only [Option.bind_some, List.nil_append, List.take_length]
  have hbr : byB l.reverse := fun x hx => hb x (List.mem_reverse.1 hx)
  have hbs : byB (List.replicate l.length (l.headD 0)) := fun x hx => by
    rw [List.eq_of_mem_replicate hx]
    cases hl2 : l with
    | nil => rw [hl2] at h0; simp at h0
    | cons y l' => exact hb y (by rw [hl2]; simp)
  rw [measE hb (by omega), measE hbr (by simp; omega), measE hbs (by simp; omega)]
  simp only [Option.bind_some]
  have hp : meaR l 256 = meaR l.reverse 256 := mea_perm (by simp) (fun v => by rw [List.count_reverse]) 256
  have hs : meaR (List.replicate l.length (l.headD 0)) 256 = 0 := mea_same (N := l.length) (by simp) h64 (fun v => by
    rw [List.count_replicate]
    split
    · exact .inr rfl
    · exact .inl rfl) 256
  obtain ⟨k1, k2, k3, k4, k5⟩ := mean_le hb (rfl : l.length = l.length) h0 h64
  rw [if_neg (by rw [hp]; simp), hs, if_neg (by simp)]
  simp only [Option.bind_some]
  rw [if_neg (by simp; omega), meanE hb (by omega), distinctE hb (by omega)]
  simp only [Option.bind_some, logE]
  rw [w64 (x := lgv (dsts l 256) + 8) (by omega) (by omega), if_pos (by simpa using k2), awakeE]
  rfl
end Go.Vl
