/- Plain laws of counts: the reference logarithm's steps at the values of the small check, and EntropyCounts. Conditions: none. -/
import Derived.Test.YtkgimfomocpebabEntP
set_option linter.unusedSimpArgs false
set_option linter.unusedVariables false
namespace Go.Vl
open Go

def logR : Nat → Int → Int → Int
  | 0, y, _ => y
  | k + 1, y, x =>
    let q := IntKind.i64.wrap ((IntKind.i64.wrap (x * x)).tdiv 1073741824)
    if 2147483648 ≤ q then logR k (IntKind.i64.wrap (IntKind.i64.wrap (y * 2) + 1)) (IntKind.i64.wrap (q.tdiv 2)) else logR k (IntKind.i64.wrap (y * 2)) q
theorem iter_log (y x : Int) : iter entropy_Log_l0 (y, x, 0) = some (logR 16 y x) := by
  refine iter_eq (body := entropy_Log_l0) (s := (y, x, 0)) (fun s => 0 ≤ s.2.2 ∧ s.2.2 ≤ 16) (fun s => (16 - s.2.2).toNat) (fun s => logR (16 - s.2.2).toNat s.1 s.2.1) ?_ ⟨by show (0 : Int) ≤ 0; omega, by show (0 : Int) ≤ 16; omega⟩
  rintro ⟨y, x, i⟩ ⟨g1, g2⟩
  simp only at g1 g2
  unfold entropy_Log_l0
  simp only
  by_cases hi : i < 16
  · left
    rw [if_pos (by simpa using hi), w64 (x := i + 1) (by omega) (by omega)]
    obtain ⟨n, hn⟩ : ∃ n, (16 - i).toNat = n + 1 := ⟨(15 - i).toNat, by omega⟩
    have hn2 : (16 - (i + 1)).toNat = n := by omega
    rw [hn]
    simp only [logR]
    split
    · rename_i h
      rw [decide_eq_true_eq] at h
      refine ⟨_, rfl, ⟨by simp <;> omega, by simp <;> omega⟩, by simp <;> omega, ?_⟩
      simp only [hn2]
      rw [if_pos h]
    · rename_i h
      rw [decide_eq_true_eq] at h
      refine ⟨_, rfl, ⟨by simp <;> omega, by simp <;> omega⟩, by simp <;> omega, ?_⟩
      simp only [hn2]
      rw [if_neg h]
  · right
    have : i = 16 := by omega
    subst this
    rw [if_neg (by simp)]; rfl
/-- the logarithm of n, as the code takes it -/
def lgv (n : Int) : Int := if n < 1 ∨ 1073741824 < n then 0 else logR 16 ((bl n.toNat : Int) - 1) (n * 2 ^ (30 - ((bl n.toNat) - 1)))
theorem bl_pos {n : Nat} (h : n ≠ 0) : 1 ≤ bl n := by unfold bl; rw [if_neg h]; omega
theorem bl_up {n : Nat} (h : n ≠ 0) : n < 2 ^ bl n := by unfold bl; rw [if_neg h]; exact Nat.lt_log2_self
theorem bl_dn {n : Nat} (h : n ≠ 0) : 2 ^ (bl n - 1) ≤ n := by unfold bl; rw [if_neg h]; exact Nat.log2_self_le h
theorem logE (n : Int) : entropy_Log n = some (lgv n) := by
  unfold entropy_Log lgv
  simp only [Option.bind_some]
  by_cases h : n < 1 ∨ 1073741824 < n
  · rw [if_pos (by simpa using h), if_pos h]
  · rw [if_neg (by simpa using h), if_neg h]
    have hb1 := bl_pos (n := n.toNat) (by omega)
    have hb2 : bl n.toNat ≤ 31 := bl_le _ _ (by omega)
    have hdn := bl_dn (n := n.toNat) (by omega)
    have hup := bl_up (n := n.toNat) (by omega)
    unfold math_bits_Len math_bits_Len64
    rw [wu64 (by omega) (by omega), if_pos (by omega)]
    simp only [Option.bind_some]
    rw [w64 (x := (bl n.toNat : Int) - 1) (by omega) (by omega), w64 (x := 30 - ((bl n.toNat : Int) - 1)) (by omega) (by omega), ck_t (by omega)]
    simp only [Option.bind_some]
    obtain ⟨j, hj⟩ : ∃ j, bl n.toNat = j + 1 := ⟨bl n.toNat - 1, by omega⟩
    rw [hj] at hb2 hdn hup ⊢
    simp only [Nat.add_sub_cancel] at hdn ⊢
    have e1 : (30 - (((j + 1 : Nat) : Int) - 1)).toNat = 30 - j := by omega
    have e2 : min (30 - j) IntKind.i64.bits = 30 - j := Nat.min_eq_left (by show 30 - j ≤ 64; omega)
    rw [e1, e2]
    have hpow : (2 : Nat) ^ (j + 1) * 2 ^ (30 - j) = 2 ^ 31 := by rw [← Nat.pow_add]; congr 1; omega
    have hm : n.toNat * 2 ^ (30 - j) ≤ 2 ^ (j + 1) * 2 ^ (30 - j) := Nat.mul_le_mul_right _ (by omega)
    rw [hpow] at hm
    have hx : n * 2 ^ (30 - j) = ((n.toNat * 2 ^ (30 - j) : Nat) : Int) := by
      rw [Int.natCast_mul, Int.natCast_pow]
      congr 1
      omega
    rw [w64 (x := n * 2 ^ (30 - j)) (by rw [hx]; omega) (by rw [hx]; omega), iter_log]
    rfl
theorem bl_eq {n k : Nat} (h1 : 2 ^ k ≤ n) (h2 : n < 2 ^ (k + 1)) : bl n = k + 1 := by
  have : n ≠ 0 := by have := Nat.two_pow_pos k; omega
  unfold bl; rw [if_neg this, (Nat.log2_eq_iff this).2 ⟨h1, h2⟩]
theorem lgv8 : lgv 8 = 196608 := by
  unfold lgv; rw [if_neg (by decide), show (8 : Int).toNat = 8 from rfl, bl_eq (k := 3) (by decide) (by decide)]; decide +kernel
theorem lgv4 : lgv 4 = 131072 := by
  unfold lgv; rw [if_neg (by decide), show (4 : Int).toNat = 4 from rfl, bl_eq (k := 2) (by decide) (by decide)]; decide +kernel
theorem lgv2 : lgv 2 = 65536 := by
  unfold lgv; rw [if_neg (by decide), show (2 : Int).toNat = 2 from rfl, bl_eq (k := 1) (by decide) (by decide)]; decide +kernel
/-- the sum that Measure takes -/
def meaR (l : List Int) : Nat → Int
  | 0 => 0
  | n + 1 => if 0 < l.count (n : Int) then IntKind.i64.wrap (meaR l n + IntKind.i64.wrap ((l.count (n : Int) : Int) * IntKind.i64.wrap (lgv l.length - lgv (l.count (n : Int) : Int)))) else meaR l n
theorem measE {l : List Int} (hb : byB l) (hl : l.length ≤ 65536) : entropy_Measure l = some (meaR l 256) := by
  unfold entropy_Measure
  rw [countsE hb hl]
  simp only [Option.bind_some]
  have key : iter (entropy_Measure_l0 (cnt l) l) (0, 0) = some (meaR l 256) := by
    refine iter_eq (body := entropy_Measure_l0 (cnt l) l) (fun s => 0 ≤ s.2 ∧ s.2 ≤ 256 ∧ s.1 = meaR l s.2.toNat) (fun s => (256 - s.2).toNat) (fun _ => meaR l 256) ?_ ⟨by simp, by simp, by simp [meaR]⟩
    rintro ⟨d, i⟩ ⟨g1, g2, g3⟩
    simp only at g1 g2 g3
    unfold entropy_Measure_l0
    simp only
    by_cases hi : i < 256
    · left
      obtain ⟨v, rfl⟩ : ∃ v : Nat, i = v := ⟨i.toNat, by omega⟩
      rw [if_pos (by simpa using hi), ck_t hi, cnt_at _ g1 hi]
      simp only [Option.bind_some, logE]
      rw [Int.toNat_natCast] at g3
      subst g3
      rw [w64 (x := (v : Int) + 1) (by omega) (by omega)]
      have e1 : ((v : Int) + 1).toNat = v + 1 := by omega
      split
      · rename_i h
        rw [decide_eq_true_eq] at h
        refine ⟨_, rfl, ⟨by simp <;> omega, by simp <;> omega, ?_⟩, by simp <;> omega, trivial⟩
        show _ = meaR l ((v : Int) + 1).toNat
        rw [e1]; simp only [meaR]; rw [if_pos (by omega)]
      · rename_i h
        rw [decide_eq_true_eq] at h
        refine ⟨_, rfl, ⟨by simp <;> omega, by simp <;> omega, ?_⟩, by simp <;> omega, trivial⟩
        show _ = meaR l ((v : Int) + 1).toNat
        rw [e1]; simp only [meaR]; rw [if_neg (by omega)]
    · right
      have : i = 256 := by omega
      subst this
      rw [if_neg (by simp), g3]; rfl
  rw [key]; rfl
theorem mea_none {l : List Int} {a : Nat} : ∀ n : Nat, (∀ v : Nat, a ≤ v → v < a + n → l.count (v : Int) = 0) → meaR l (a + n) = meaR l a
  | 0, _ => rfl
  | n + 1, h => by
    show meaR l ((a + n) + 1) = _
    simp only [meaR]
    rw [if_neg (by rw [h (a + n) (by omega) (by omega)]; omega), mea_none n (fun v h1 h2 => h v h1 (by omega))]
theorem mea_some {l : List Int} {n : Nat} {c : Nat} (h : l.count (n : Int) = c) (hc : 0 < c) : meaR l (n + 1) = IntKind.i64.wrap (meaR l n + IntKind.i64.wrap ((c : Int) * IntKind.i64.wrap (lgv l.length - lgv (c : Int)))) := by
  subst h
  show (if 0 < _ then _ else _) = _
  rw [if_pos hc]
theorem mea_aabb : meaR [97, 97, 98, 98] 256 = 262144 := by
  have c0 : ∀ v : Nat, v ≠ 97 → v ≠ 98 → ([97, 97, 98, 98] : List Int).count (v : Int) = 0 := fun v h1 h2 => by
    refine List.count_eq_zero.2 fun hm => ?_
    simp at hm; omega
  have e1 : meaR [97, 97, 98, 98] 256 = meaR [97, 97, 98, 98] 99 := mea_none (l := [97, 97, 98, 98]) (a := 99) 157 (fun v h1 h2 => c0 v (by omega) (by omega))
  have e2 : meaR [97, 97, 98, 98] 97 = 0 := (mea_none (l := [97, 97, 98, 98]) (a := 0) 97 (fun v h1 h2 => c0 v (by omega) (by omega))).trans rfl
  have e3 : meaR [97, 97, 98, 98] 98 = _ := mea_some (l := [97, 97, 98, 98]) (n := 97) (c := 2) (by decide) (by decide)
  have e4 : meaR [97, 97, 98, 98] 99 = _ := mea_some (l := [97, 97, 98, 98]) (n := 98) (c := 2) (by decide) (by decide)
  rw [e1, e4, e3, e2, show lgv ((([97, 97, 98, 98] : List Int).length : Nat) : Int) = 131072 from lgv4, show lgv ((2 : Nat) : Int) = 65536 from lgv2]
  decide
theorem awakeE : law02_awake = some true := by
  unfold law02_awake
  rw [logE, lgv8, measE (fun x hx => by simp at hx; omega) (by decide), mea_aabb]
  rfl

theorem entropyCounts_plain (l : List Int) (a b : Int) : law02_EntropyCounts l a b = some true := by
  unfold law02_EntropyCounts
  have hand : ∀ x : Int, 0 ≤ bAnd .i64 x 31 ∧ bAnd .i64 x 31 ≤ 31 := fun x => by
    have h : (BitVec.ofInt 64 x &&& BitVec.ofInt 64 31).toNat = (x % 32).toNat := by
      rw [BitVec.toNat_and]
      have h1 : (BitVec.ofInt 64 31).toNat = 2 ^ 5 - 1 := by decide
      rw [h1, Nat.and_two_pow_sub_one_eq_mod, BitVec.toNat_ofInt]
      omega
    have e : bAnd .i64 x 31 = x % 32 := by
      show IntKind.i64.wrap (((BitVec.ofInt 64 x &&& BitVec.ofInt 64 31).toNat : Nat) : Int) = x % 32
      rw [h, IntKind.wrap_i64]
      omega
    rw [e]; omega
  have ha := hand a
  have hb := hand b
  generalize bAnd .i64 a 31 = na at *
  generalize bAnd .i64 b 31 = nb at *
  obtain ⟨u, m1, e1, u1, u2, u3, u4⟩ := bytesE (m := ⟨l, 0⟩) (k := 0) (n := na) (by simp) (by simp) (by omega) ha.1 (by omega)
  rw [e1]
  obtain ⟨v, m2, e2, v1, v2, v3, v4⟩ := bytesE (m := m1) (k := 4 * 31) (n := nb) u3 (by omega) (by omega) hb.1 (by omega)
  simp only [Option.bind_some, e2, List.nil_append]
  have huv : byB (u ++ v) := fun x hx => by
    rcases List.mem_append.1 hx with h | h
    · exact u1 x h
    · exact v1 x h
  have ck1 : ck (([] : List Int).length + u.length ≤ 268435456) = some () := ck_t (by simp <;> omega)
  have ck2 : ck (u.length + v.length ≤ 268435456) = some () := ck_t (by omega)
  simp only [countsE u1 (by omega), countsE v1 (by omega), countsE huv (by rw [List.length_append]; omega), Option.bind_some, ck1, ck2, ck_t (cnt_len _)]
  have key : iter (law02_EntropyCounts_l0 (cnt (u ++ v)) (cnt u) (cnt v)) (0, 0, 0) = some (.inl (((u ++ v).length : Int), dsts u 256)) := by
    refine iter_eq (body := law02_EntropyCounts_l0 (cnt (u ++ v)) (cnt u) (cnt v)) (fun s => 0 ≤ s.2.2 ∧ s.2.2 ≤ 256 ∧ s.1 = upto (u ++ v) s.2.2 ∧ s.2.1 = dsts u s.2.2.toNat) (fun s => (256 - s.2.2).toNat) (fun _ => .inl (((u ++ v).length : Int), dsts u 256)) ?_ ⟨by simp, by simp, by simp [upto_zero huv], by simp [dsts]⟩
    rintro ⟨c, d, i⟩ ⟨g1, g2, g3, g4⟩
    simp only at g1 g2 g3 g4
    unfold law02_EntropyCounts_l0
    simp only
    by_cases hi : i < 256
    · left
      have hck : ck (0 ≤ i ∧ i < 256) = some () := ck_t ⟨g1, hi⟩
      have hs := upto_succ i (u ++ v)
      have hle := upto_le (u ++ v) (i + 1)
      rw [List.length_append] at hle
      have hcc : (u ++ v).count i = u.count i + v.count i := List.count_append
      have hd := dsts_bd u i.toNat
      rw [if_pos (by simpa using hi)]
      simp only [hck, Option.bind_some, cnt_at _ g1 hi]
      subst g3 g4
      rw [w64 (x := ((u.count i : Nat) : Int) + ((v.count i : Nat) : Int)) (by omega) (by omega), w64 (x := i + 1) (by omega) (by omega), w64 (x := (upto (u ++ v) i : Int) + ((u ++ v).count i : Int)) (by omega) (by omega), w64 (x := dsts u i.toNat + 1) (by omega) (by omega)]
      rw [if_neg (by rw [hcc]; simp)]
      have e1 : (i + 1).toNat = i.toNat + 1 := by omega
      have e2 : ((i.toNat : Nat) : Int) = i := by omega
      split
      · rename_i h
        rw [decide_eq_true_eq] at h
        refine ⟨_, rfl, ⟨by simp <;> omega, by simp <;> omega, by simp only; omega, ?_⟩, by simp <;> omega, trivial⟩
        show _ = dsts u (i + 1).toNat
        rw [e1]; simp only [dsts]; rw [e2, if_pos (by omega)]
      · rename_i h
        rw [decide_eq_true_eq] at h
        refine ⟨_, rfl, ⟨by simp <;> omega, by simp <;> omega, by simp only; omega, ?_⟩, by simp <;> omega, trivial⟩
        show _ = dsts u (i + 1).toNat
        rw [e1]; simp only [dsts]; rw [e2, if_neg (by omega)]; omega
    · right
      have : i = 256 := by omega
      subst this
      rw [if_neg (by simp), g3, g4, upto_all huv]; rfl
  rw [key]
  simp only [Option.bind_some]
  rw [w64 (x := (u.length : Int) + (v.length : Int)) (by omega) (by omega), if_pos (by simp), distinctE u1 (by omega)]
  simp only [Option.bind_some, awakeE]
  simp
end Go.Vl
