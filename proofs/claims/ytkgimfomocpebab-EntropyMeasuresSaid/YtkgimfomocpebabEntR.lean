/- Plain laws of counts: the reference's answers are the same; EntropyMeasures. Conditions: none. -/
import Derived.Test.YtkgimfomocpebabR1gm
import Derived.Test.YtkgimfomocpebabEntQ
set_option linter.unusedSimpArgs false
set_option linter.unusedVariables false
namespace Go.Vl
open Go

theorem countsRef {l : List Int} (hb : byB l) (hl : l.length ≤ 65536) : ref02_Counts l = some (cnt l) := by
  unfold ref02_Counts
  rw [if_neg (by simp; omega)]
  have key : iter (ref02_Counts_l0 l) (0, zerosI 256) = some (cnt l) := by
    refine iter_eq (body := ref02_Counts_l0 l) (fun s => 0 ≤ s.1 ∧ s.1 ≤ l.length ∧ s.2 = cnt (l.take s.1.toNat)) (fun s => (l.length - s.1).toNat) (fun _ => cnt l) ?_ ⟨by simp, by simp, by simpa using cnt_nil⟩
    rintro ⟨i, c⟩ ⟨g1, g2, g3⟩
    simp only at g1 g2 g3
    unfold ref02_Counts_l0
    simp only
    by_cases hi : i < l.length
    · left
      have hin : i.toNat < l.length := by omega
      have hx := hb _ (List.getElem_mem hin)
      rw [if_pos (by simpa using hi), idx_toNat g1 hin]
      generalize hxx : l[i.toNat] = x at *
      subst g3
      have hcount : (l.take i.toNat).count x ≤ 65536 := Nat.le_trans List.count_le_length (by rw [List.length_take]; omega)
      simp only [Option.bind_some, ck_t (show 0 ≤ x ∧ x < 256 from hx), cnt_at _ hx.1 hx.2, ck_t (show x.toNat < (cnt (l.take i.toNat)).length by rw [cnt_len]; omega)]
      rw [w64 (x := i + 1) (by omega) (by omega), w64 (x := (((l.take i.toNat).count x : Nat) : Int) + 1) (by omega) (by omega), cnt_push _ hx.1 hx.2]
      refine ⟨_, rfl, ⟨by simp <;> omega, by simp <;> omega, ?_⟩, by simp <;> omega, trivial⟩
      show cnt _ = cnt _
      rw [show (i + 1).toNat = i.toNat + 1 by omega, List.take_add_one, List.getElem?_eq_getElem hin, hxx]; rfl
    · right
      rw [if_neg (by simpa using hi), g3, List.take_of_length_le (by omega)]
  rw [key]
  simp only [Option.bind_some, ck_t (cnt_len l)]

theorem iter_logR (y x : Int) (h0 : 0 ≤ x) (h1 : x < 2147483648) : iter ref02_Log_l1 (x, y, 0) = some (logR 16 y x) := by
  refine iter_eq (body := ref02_Log_l1) (s := (x, y, 0)) (fun s => 0 ≤ s.2.2 ∧ s.2.2 ≤ 16 ∧ 0 ≤ s.1 ∧ s.1 < 2147483648) (fun s => (16 - s.2.2).toNat) (fun s => logR (16 - s.2.2).toNat s.2.1 s.1) ?_ ⟨by simp, by simp, h0, h1⟩
  rintro ⟨x, y, i⟩ ⟨g1, g2, g3, g4⟩
  simp only at g1 g2 g3 g4
  unfold ref02_Log_l1
  simp only
  by_cases hi : i < 16
  · left
    have m1 : x * x ≤ 2147483648 * 2147483648 := Int.mul_le_mul (by omega) (by omega) g3 (by omega)
    have m0 : 0 ≤ x * x := Int.mul_nonneg g3 g3
    have m2 : x * x < 4611686018427387904 := by
      have : x * x ≤ 2147483647 * 2147483647 := Int.mul_le_mul (by omega) (by omega) g3 (by omega)
      omega
    have q1 : IntKind.i64.wrap ((IntKind.i64.wrap (x * x)).tdiv 1073741824) = x * x / 1073741824 := by
      rw [w64 (x := x * x) (by omega) (by omega), Int.tdiv_eq_ediv_of_nonneg m0, w64 (by omega) (by omega)]
    have q2 : IntKind.i64.wrap ((x * x / 1073741824).tdiv 2) = x * x / 1073741824 / 2 := by
      rw [Int.tdiv_eq_ediv_of_nonneg (by omega), w64 (by omega) (by omega)]
    obtain ⟨n, hn⟩ : ∃ n, (16 - i).toNat = n + 1 := ⟨(15 - i).toNat, by omega⟩
    have hn2 : (16 - (i + 1)).toNat = n := by omega
    have key : logR (16 - i).toNat y x = if 2147483648 ≤ x * x / 1073741824 then logR n (IntKind.i64.wrap (IntKind.i64.wrap (y * 2) + 1)) (x * x / 1073741824 / 2) else logR n (IntKind.i64.wrap (y * 2)) (x * x / 1073741824) := by
      rw [hn]
      simp only [logR, q1, q2]
    clear q1 q2
    generalize x * x = z at *
    have e30 : (2 : Int) ^ (min 30 IntKind.i64.bits) = 1073741824 := by decide
    have e1 : (2 : Int) ^ (min 1 IntKind.i64.bits) = 2 := by decide
    rw [if_pos (by simpa using hi), w64 (x := i + 1) (by omega) (by omega), e30, e1, w64 (x := z) (by omega) (by omega), Int.fdiv_eq_ediv_of_nonneg _ (by omega), Int.fdiv_eq_ediv_of_nonneg _ (by omega)]
    split
    · rename_i h
      rw [decide_eq_true_eq] at h
      refine ⟨_, rfl, ⟨by simp <;> omega, by simp <;> omega, by simp only; omega, by simp only; omega⟩, by simp <;> omega, ?_⟩
      simp only [hn2]
      rw [key, if_pos h]
    · rename_i h
      rw [decide_eq_true_eq] at h
      refine ⟨_, rfl, ⟨by simp <;> omega, by simp <;> omega, by simp only; omega, by simp only; omega⟩, by simp <;> omega, ?_⟩
      simp only [hn2]
      rw [key, if_neg h]
  · right
    have : i = 16 := by omega
    subst this
    rw [if_neg (by simp)]; rfl
theorem logRef (n : Int) : ref02_Log n = some (lgv n) := by
  unfold ref02_Log lgv
  simp only [Option.bind_some]
  by_cases h : n < 1 ∨ 1073741824 < n
  · rw [if_pos (by simpa using h), if_pos h]
  · rw [if_neg (by simpa using h), if_neg h]
    have hb1 := bl_pos (n := n.toNat) (by omega)
    have hb2 : bl n.toNat ≤ 31 := bl_le _ _ (by omega)
    have hdn := bl_dn (n := n.toNat) (by omega)
    have hup := bl_up (n := n.toNat) (by omega)
    obtain ⟨j, hj⟩ : ∃ j, bl n.toNat = j + 1 := ⟨bl n.toNat - 1, by omega⟩
    rw [hj] at hb2 hdn hup ⊢
    simp only [Nat.add_sub_cancel] at hdn ⊢
    have k0 : iter (ref02_Log_l0 n) 0 = some (j : Int) := by
      refine iter_eq (body := ref02_Log_l0 n) (s := 0) (fun s => 0 ≤ s ∧ s ≤ j) (fun s => ((j : Int) - s).toNat) (fun _ => (j : Int)) ?_ ⟨by omega, by omega⟩
      rintro s ⟨g1, g2⟩
      obtain ⟨v, rfl⟩ : ∃ v : Nat, s = v := ⟨s.toNat, by omega⟩
      unfold ref02_Log_l0
      rw [ck_t (by omega), Int.toNat_natCast, show min v IntKind.i64.bits = v from Nat.min_eq_left (by show v ≤ 64; omega)]
      simp only [Option.bind_some]
      have e2 : (2 : Int) * 2 ^ v = ((2 ^ (v + 1) : Nat) : Int) := by rw [Int.natCast_pow, Int.pow_succ, Int.mul_comm]; rfl
      have hle : (2 : Nat) ^ (v + 1) ≤ 2 ^ 31 := Nat.pow_le_pow_right (by omega) (by omega)
      have c1 : v < j → (2 : Nat) ^ (v + 1) ≤ 2 ^ j := fun h => Nat.pow_le_pow_right (by omega) (by omega)
      have c2 : v = j → (2 : Nat) ^ (v + 1) = 2 ^ (j + 1) := fun h => by rw [h]
      generalize hq : (2 : Nat) ^ (v + 1) = q at e2 hle c1 c2
      clear hq
      rw [e2, w64 (by omega) (by omega), w64 (x := (v : Int) + 1) (by omega) (by omega)]
      by_cases hv : v < j
      · left
        have := c1 hv
        rw [if_pos (by rw [decide_eq_true_eq]; omega)]
        exact ⟨_, rfl, ⟨by omega, by omega⟩, by omega, trivial⟩
      · right
        have hvj : v = j := by omega
        have := c2 hvj
        subst hvj
        rw [if_neg (by rw [decide_eq_true_eq]; omega)]
    rw [k0]
    simp only [Option.bind_some]
    rw [w64 (x := 30 - (j : Int)) (by omega) (by omega), ck_t (by omega)]
    simp only [Option.bind_some]
    have e1 : (30 - (j : Int)).toNat = 30 - j := by omega
    have e2 : min (30 - j) IntKind.i64.bits = 30 - j := Nat.min_eq_left (by show 30 - j ≤ 64; omega)
    rw [e1, e2]
    have hpow : (2 : Nat) ^ (j + 1) * 2 ^ (30 - j) = 2 ^ 31 := by rw [← Nat.pow_add]; congr 1; omega
    have hm : (n.toNat + 1) * 2 ^ (30 - j) ≤ 2 ^ (j + 1) * 2 ^ (30 - j) := Nat.mul_le_mul_right _ (by omega)
    rw [hpow, Nat.add_mul, Nat.one_mul] at hm
    have hp := Nat.two_pow_pos (30 - j)
    have hx : n * 2 ^ (30 - j) = ((n.toNat * 2 ^ (30 - j) : Nat) : Int) := by
      rw [Int.natCast_mul, Int.natCast_pow]
      congr 1
      omega
    rw [w64 (x := n * 2 ^ (30 - j)) (by rw [hx]; omega) (by rw [hx]; omega), iter_logR _ _ (by rw [hx]; omega) (by rw [hx]; omega)]
    rw [show (((j + 1 : Nat) : Int) - 1) = (j : Int) by omega]
    rfl
theorem measRef {l : List Int} (hb : byB l) (hl : l.length ≤ 65536) : ref02_Measure l = some (meaR l 256) := by
  unfold ref02_Measure
  rw [if_neg (by simp; omega), countsRef hb hl]
  simp only [Option.bind_some, ck_t (cnt_len l)]
  have key : iter (ref02_Measure_l0 (cnt l) l) (0, 0) = some (meaR l 256) := by
    refine iter_eq (body := ref02_Measure_l0 (cnt l) l) (fun s => 0 ≤ s.2 ∧ s.2 ≤ 256 ∧ s.1 = meaR l s.2.toNat) (fun s => (256 - s.2).toNat) (fun _ => meaR l 256) ?_ ⟨by simp, by simp, by simp [meaR]⟩
    rintro ⟨d, i⟩ ⟨g1, g2, g3⟩
    simp only at g1 g2 g3
    unfold ref02_Measure_l0
    simp only
    by_cases hi : i < 256
    · left
      obtain ⟨v, rfl⟩ : ∃ v : Nat, i = v := ⟨i.toNat, by omega⟩
      have hck : ck ((0 : Int) ≤ (v : Int) ∧ (v : Int) < 256) = some () := ck_t ⟨g1, hi⟩
      rw [if_pos (by simpa using hi)]
      simp only [hck, Option.bind_some, cnt_at _ g1 hi, logRef]
      rw [Int.toNat_natCast] at g3
      subst g3
      rw [w64 (x := (v : Int) + 1) (by omega) (by omega)]
      have e1 : ((v : Int) + 1).toNat = v + 1 := by omega
      split
      · rename_i h
        rw [decide_eq_true_eq] at h
        refine ⟨_, rfl, ⟨by simp <;> omega, by simp <;> omega, ?_⟩, by simp <;> omega, trivial⟩
        show _ = meaR l ((v : Int) + 1).toNat
        rw [e1]; simp only [meaR]; rw [if_pos (by omega)]
      · rename_i h
        rw [decide_eq_true_eq] at h
        refine ⟨_, rfl, ⟨by simp <;> omega, by simp <;> omega, ?_⟩, by simp <;> omega, trivial⟩
        show _ = meaR l ((v : Int) + 1).toNat
        rw [e1]; simp only [meaR]; rw [if_neg (by omega)]
    · right
      have : i = 256 := by omega
      subst this
      rw [if_neg (by simp), g3]; rfl
  rw [key]; rfl
theorem distinctRef {l : List Int} (hb : byB l) (hl : l.length ≤ 65536) : ref02_Distinct l = some (dsts l 256) := by
  unfold ref02_Distinct
  rw [countsRef hb hl]
  simp only [Option.bind_some, ck_t (cnt_len l)]
  have key : iter (ref02_Distinct_l0 (cnt l)) (0, 0) = some (dsts l 256) := by
    refine iter_eq (body := ref02_Distinct_l0 (cnt l)) (fun s => 0 ≤ s.2 ∧ s.2 ≤ 256 ∧ s.1 = dsts l s.2.toNat) (fun s => (256 - s.2).toNat) (fun _ => dsts l 256) ?_ ⟨by simp, by simp, by simp [dsts]⟩
    rintro ⟨d, i⟩ ⟨g1, g2, g3⟩
    simp only at g1 g2 g3
    unfold ref02_Distinct_l0
    simp only
    by_cases hi : i < 256
    · left
      obtain ⟨v, rfl⟩ : ∃ v : Nat, i = v := ⟨i.toNat, by omega⟩
      rw [if_pos (by simpa using hi), ck_t ⟨g1, hi⟩, Option.bind_some, cnt_at _ g1 hi]
      simp only [Option.bind_some]
      have hd := dsts_bd l v
      rw [Int.toNat_natCast] at g3
      subst g3
      rw [w64 (x := (v : Int) + 1) (by omega) (by omega), w64 (x := dsts l v + 1) (by omega) (by omega)]
      have e1 : ((v : Int) + 1).toNat = v + 1 := by omega
      split
      · rename_i h
        rw [decide_eq_true_eq] at h
        refine ⟨_, rfl, ⟨by simp <;> omega, by simp <;> omega, ?_⟩, by simp <;> omega, trivial⟩
        show _ = dsts l ((v : Int) + 1).toNat
        rw [e1]; simp only [dsts]; rw [if_pos (by omega)]
      · rename_i h
        rw [decide_eq_true_eq] at h
        refine ⟨_, rfl, ⟨by simp <;> omega, by simp <;> omega, ?_⟩, by simp <;> omega, trivial⟩
        show _ = dsts l ((v : Int) + 1).toNat
        rw [e1]; simp only [dsts]; rw [if_neg (by omega)]; omega
    · right
      have : i = 256 := by omega
      subst this
      rw [if_neg (by simp), g3]; rfl
  rw [key]; rfl
/-- the mean -/
def meanV (l : List Int) : Int := if l.length = 0 then 0 else IntKind.i64.wrap ((meaR l 256).tdiv (l.length : Int))
theorem meanE {l : List Int} (hb : byB l) (hl : l.length ≤ 65536) : entropy_Mean l = some (meanV l) := by
  unfold entropy_Mean meanV
  rw [measE hb hl]
  simp only [Option.bind_some]
  by_cases h : l.length = 0
  · have hl0 : l = [] := List.eq_nil_of_length_eq_zero h
    subst hl0
    have e : meaR [] 256 = 0 := (mea_none (l := []) (a := 0) 256 (fun v _ _ => rfl)).trans rfl
    rw [e, ck_t (by simp)]
    decide
  · have e : (if 1 > (l.length : Int) then (1 : Int) else (l.length : Int)) = l.length := if_neg (by omega)
    rw [e, ck_t (by omega), if_neg h]
    rfl
theorem meanRef {l : List Int} (hb : byB l) (hl : l.length ≤ 65536) : ref02_Mean l = some (meanV l) := by
  unfold ref02_Mean meanV
  by_cases h : l.length = 0
  · rw [if_pos (by simp [h]), if_pos h]
  · rw [if_neg (by rw [beq_iff_eq]; omega), if_neg h, measRef hb hl]
    simp only [Option.bind_some]
    rw [ck_t (by omega)]
    rfl

theorem entropyMeasures_plain (t : List Int) (b : List Int) (hb : byB b) : law02_EntropyMeasures t b = some true := by
  unfold law02_EntropyMeasures
  obtain ⟨v, m1, e1, a1, a2, a3, a4⟩ := nextE (m := ⟨t, 0⟩) (k := 0) (by simp) (by simp) (by omega) (n := 40) (by omega)
  rw [e1]
  obtain ⟨u, m2, e2, u1, u2, u3, u4⟩ := bytesE (m := m1) (k := 1) (n := v) a3 (by omega) (by omega) a1 (by omega)
  simp only [Option.bind_some, e2]
  have key : iter (law02_EntropyMeasures_l0 [b, u, []]) 0 = some (.inl ()) := by
    refine iter_eq (body := law02_EntropyMeasures_l0 [b, u, []]) (s := 0) (fun s => 0 ≤ s ∧ s ≤ 3) (fun s => (3 - s).toNat) (fun _ => .inl ()) ?_ ⟨by omega, by omega⟩
    rintro s ⟨g1, g2⟩
    unfold law02_EntropyMeasures_l0
    by_cases hs : s < 3
    · left
      have hin : s.toNat < [b, u, []].length := by simp only [List.length_cons, List.length_nil]; omega
      have hx : byB ([b, u, []][s.toNat]'hin) := by
        have hm := List.getElem_mem hin
        generalize [b, u, []][s.toNat] = x at *
        simp only [List.mem_cons, List.not_mem_nil, or_false] at hm
        rcases hm with rfl | rfl | rfl
        · exact hb
        · exact u1
        · intro y hy; simp at hy
      rw [if_pos (by simpa using hs), ck_t ⟨g1, hin⟩, Option.bind_some, idx_toNat g1 hin]
      generalize [b, u, []][s.toNat] = x at *
      simp only [Option.bind_some]
      rw [w64 (x := s + 1) (by omega) (by omega)]
      by_cases hlen : 4000 < (x.length : Int)
      · rw [if_pos (by simpa using hlen)]
        exact ⟨_, rfl, ⟨by omega, by omega⟩, by omega, trivial⟩
      · rw [if_neg (by simpa using hlen)]
        have hl : x.length ≤ 65536 := by omega
        simp only [countsE hx hl, countsRef hx hl, measE hx hl, measRef hx hl, distinctE hx hl, distinctRef hx hl, meanE hx hl, meanRef hx hl, Option.bind_some, ck_t (cnt_len x)]
        rw [if_neg (by simp), if_neg (by simp), if_neg (by simp)]
        simp only [Option.bind_some]
        rw [if_neg (by simp)]
        exact ⟨_, rfl, ⟨by omega, by omega⟩, by omega, trivial⟩
    · right
      rw [if_neg (by simpa using hs)]
  rw [key]
  simp only [Option.bind_some, awakeE]
theorem byB_wf {l : List Int} (h : ∀ x ∈ l, IntKind.u8.min ≤ x ∧ x ≤ IntKind.u8.max) : byB l := fun x hx => by
  have h1 := h x hx
  have e1 : IntKind.u8.min = 0 := by decide
  have e2 : IntKind.u8.max = 255 := by decide
  omega
end Go.Vl
