/- Plain laws of the given program's functions (texts of other seats turned to this one). Conditions: none. -/
import Derived.Test.YtciimncnodejaaaGreatDoorXm
import Derived.Test.YtciimncnodejaaaGreatDoorPlB
import Derived.Test.YtciimncnodejaaaGreatDoorPlC
import Derived.Test.YtciimncnodejaaaGreatDoorPlM
set_option linter.unusedSimpArgs false
set_option linter.unusedVariables false
namespace Go.Vl
open Go



theorem less_int (a b : Int) : cmp_Less_int a b = some (decide (a < b)) := by simp [cmp_Less_int, cmp_isNaN_int]

theorem half {x : Int} (h0 : 0 ≤ x) (h1 : x ≤ 4611686018427387904) : IntKind.i64.wrap ((IntKind.u64.wrap (IntKind.i64.wrap x)).fdiv (2 ^ (min 1 IntKind.u64.bits))) = x / 2 := by
  rw [w64 (x := x) (by omega) (by omega), wu64 h0 (by omega)]
  have : (2 : Int) ^ (min 1 IntKind.u64.bits) = 2 := rfl
  rw [this, Int.fdiv_eq_ediv_of_nonneg _ (by omega), w64 (by omega) (by omega)]

theorem bin_spec {l : List Int} (hs : l.Pairwise (· < ·)) (hl : l.length ≤ 1000000) (x : Int) : ∃ i : Int, slices_BinarySearch_int l x = some (i, decide (x ∈ l)) := by
  have key : ∃ e : Int, iter (slices_BinarySearch_int_l0 l x) (0, (l.length : Int)) = some e ∧ ∃ i : Nat, e = i ∧ i ≤ l.length ∧ (∀ k (hk : k < l.length), k < i → l[k] < x) ∧ (∀ k (hk : k < l.length), i ≤ k → x ≤ l[k]) := by
    refine iter_ex (fun s => ∃ i j : Nat, s = ((i : Int), (j : Int)) ∧ i ≤ j ∧ j ≤ l.length ∧ (∀ k (hk : k < l.length), k < i → l[k] < x) ∧ (∀ k (hk : k < l.length), j ≤ k → x ≤ l[k])) (fun s => (s.2 - s.1).toNat) _ ?_
      ⟨0, l.length, rfl, by omega, by omega, fun k hk h => by omega, fun k hk h => by omega⟩
    rintro _ ⟨i, j, rfl, hij, hj, h1, h2⟩
    unfold slices_BinarySearch_int_l0
    by_cases hlt : i < j
    · left
      rw [if_pos (by simp <;> omega)]
      simp only
      rw [half (by omega) (by omega)]
      have hm : ((i : Int) + j) / 2 = (((i + j) / 2 : Nat) : Int) := by omega
      rw [hm]
      generalize hmd : (i + j) / 2 = m
      have hmi : i ≤ m ∧ m < j := by omega
      rw [idx_lt (by omega : m < l.length)]
      simp only [Option.bind_some, less_int]
      by_cases hx : l[m] < x
      · rw [if_pos (by simpa using hx), w64 (by omega) (by omega)]
        refine ⟨_, rfl, ⟨m + 1, j, rfl, by omega, hj, fun k hk h => ?_, h2⟩, by simp <;> omega⟩
        rcases Nat.lt_succ_iff_lt_or_eq.1 h with h | h
        · exact Int.lt_trans (sorted_split hs h (by omega)) hx
        · subst h; exact hx
      · rw [if_neg (by simpa using hx)]
        refine ⟨_, rfl, ⟨i, m, rfl, by omega, by omega, h1, fun k hk h => ?_⟩, by simp <;> omega⟩
        rcases Nat.lt_or_eq_of_le h with h | h
        · have := sorted_split hs h hk; omega
        · subst h; omega
    · right
      rw [if_neg (by simp <;> omega)]
      have : i = j := by omega
      subst this
      exact ⟨_, rfl, i, rfl, hj, h1, h2⟩
  obtain ⟨e, he, i, rfl, hi, h1, h2⟩ := key
  refine ⟨i, ?_⟩
  unfold slices_BinarySearch_int
  rw [he]
  have hm := mem_at hs h1 h2 hi
  simp only [Option.bind_some]
  by_cases hlt : i < l.length
  · rw [if_pos (by simpa using hlt), idx_lt hlt]
    simp only [Option.bind_some, slices_isNaN_int]
    by_cases hx : l[i] = x
    · have hmem : x ∈ l := hm.1 ⟨hlt, hx⟩
      simp [hx, hmem]
    · have hmem : ¬ x ∈ l := fun h => by obtain ⟨_, h⟩ := hm.2 h; exact hx h
      simp [hx, hmem]
  · rw [if_neg (by simpa using hlt)]
    have hmem : ¬ x ∈ l := fun h => by obtain ⟨h, _⟩ := hm.2 h; exact hlt h
    simp [hmem]

def OkC (c : api_Calendar) : Prop := (1 ≤ c.Day ∧ c.Day ≤ 48) ∧ 0 ≤ c.From ∧ c.From < c.To ∧ c.To ≤ c.Day ∧ (0 ≤ c.Week ∧ c.Week ≤ 127) ∧ c.Holidays.length ≤ 40 ∧ ascB c.Holidays = true ∧ ∀ h ∈ c.Holidays, 0 ≤ h
instance (c : api_Calendar) : Decidable (OkC c) := by unfold OkC; infer_instance

theorem among_sp (a b c : Int) : calendar_among a b c = some (decide (b ≤ a) && decide (a ≤ c)) := rfl
theorem in_sp (a b c : Int) : ref40_in a b c = some (decide (b ≤ a) && decide (a ≤ c)) := rfl

theorem asc_drop {l : List Int} {k : Nat} (hk : k + 1 < l.length) : ascB (l.drop k) = (decide (l[k] < l[k+1]) && ascB (l.drop (k + 1))) := by
  rw [List.drop_eq_getElem_cons (show k < l.length by omega), List.drop_eq_getElem_cons hk]; rfl
theorem asc_end {l : List Int} {k : Nat} (hk : l.length ≤ k + 1) : ascB (l.drop k) = true := by
  have : (l.drop k).length ≤ 1 := by simp <;> omega
  match h : l.drop k with
  | [] => rfl
  | [_] => rfl
  | _ :: _ :: _ => rw [h] at this; simp at this

theorem ascending_sp {l : List Int} (hl : l.length ≤ 1000) : directory_Ascending l = some (ascB l) := by
  unfold directory_Ascending
  rw [iter_eq (fun s => ∃ k : Nat, s = (k : Int) + 1 ∧ k ≤ l.length) (fun s => (l.length + 1 - s).toNat) (fun s => if ascB (l.drop (s - 1).toNat) then .inl () else .inr false) ?_ (s := 1) ⟨0, rfl, by omega⟩]
  · simp only [Option.bind_some]
    cases h : ascB l <;> simp [h]
  · rintro _ ⟨k, rfl, hk⟩
    have e0 : ((k : Int) + 1 - 1).toNat = k := by omega
    unfold directory_Ascending_l0
    by_cases hlt : k + 1 < l.length
    · rw [if_pos (by simp <;> omega), w64 (by omega) (by omega), show (k : Int) + 1 - 1 = (k : Int) by omega, idx_lt (by omega : k < l.length), show (k : Int) + 1 = ((k + 1 : Nat) : Int) by omega, idx_lt hlt]
      simp only [Option.bind_some]
      by_cases hx : l[k+1] ≤ l[k]
      · right
        rw [if_pos (by simpa using hx)]
        have : ascB (l.drop k) = false := by rw [asc_drop hlt]; simp; intro h; omega
        simp [this]
      · left
        rw [if_neg (by simpa using hx), w64 (by omega) (by omega)]
        refine ⟨_, rfl, ⟨k + 1, rfl, by omega⟩, by omega, ?_⟩
        have e1 : (((k + 1 : Nat) : Int) + 1 - 1).toNat = k + 1 := by omega
        have e2 : (((k + 1 : Nat) : Int) - 1).toNat = k := by omega
        rw [e1, Int.toNat_natCast, asc_drop hlt]
        have : l[k] < l[k+1] := by omega
        simp [this]
    · right
      rw [if_neg (by simp <;> omega), e0, asc_end (by omega)]; rfl

theorem head_min {l : List Int} (h : ascB l = true) : (∀ x ∈ l, 0 ≤ x) ↔ ∀ x, l[0]? = some x → 0 ≤ x := by
  rw [ascB_iff] at h
  cases l with
  | nil => simp
  | cons a l =>
    simp only [List.getElem?_cons_zero, Option.some.injEq, List.mem_cons, forall_eq_or_imp]
    constructor
    · rintro ⟨h1, _⟩ x rfl; exact h1
    · intro h1; exact ⟨h1 _ rfl, fun x hx => by have := List.rel_of_pairwise_cons h hx; have := h1 _ rfl; omega⟩

theorem check_sp (c : api_Calendar) : calendar_Check c = some (if OkC c then 0 else 42) := by
  unfold calendar_Check
  simp only [among_sp, Option.bind_some]
  by_cases a1 : 1 ≤ c.Day ∧ c.Day ≤ 48
  case neg => rw [if_pos (by simp <;> omega)]; simp [OkC, a1]
  rw [if_neg (by simp <;> omega)]
  by_cases a2 : 0 ≤ c.From
  case neg => rw [if_pos (by simp <;> omega)]; simp [OkC, a2]
  rw [if_neg (by simp <;> omega)]
  by_cases a3 : c.From < c.To
  case neg => rw [if_pos (by simp <;> omega)]; simp [OkC, a3]
  rw [if_neg (by simp <;> omega)]
  by_cases a4 : c.To ≤ c.Day
  case neg => rw [if_pos (by simp <;> omega)]; simp [OkC, a4]
  rw [if_neg (by simp <;> omega)]
  by_cases a5 : 0 ≤ c.Week ∧ c.Week ≤ 127
  case neg =>
    simp only [Option.bind_some]
    rw [if_pos (by simp <;> omega)]; simp [OkC, a5]
  simp only [Option.bind_some]
  rw [if_neg (by simp <;> omega)]
  by_cases a6 : c.Holidays.length ≤ 40
  case neg => rw [if_pos (by simp <;> omega)]; simp [OkC, a6]
  rw [if_neg (by simp <;> omega), ascending_sp (by omega)]
  simp only [Option.bind_some]
  cases a7 : ascB c.Holidays with
  | false => simp [OkC, a7]
  | true =>
    have hm := head_min a7
    simp only [Bool.not_true, Bool.false_eq_true, if_false]
    cases hh : c.Holidays with
    | nil => simp [OkC, a1, a2, a3, a4, a5, hh, ascB]
    | cons x l =>
      rw [hh] at hm a7 a6
      simp only [idx, List.length_cons]
      simp
      have hiff : OkC c ↔ 0 ≤ x := by
        unfold OkC
        rw [hh]
        constructor
        · rintro ⟨_, _, _, _, _, _, _, h⟩; exact h x (by simp)
        · intro h; exact ⟨a1, a2, a3, a4, a5, a6, a7, hm.2 (fun y hy => by simp at hy; omega)⟩
      by_cases hx : 0 ≤ x
      · rw [if_pos (hiff.2 hx), if_neg (by omega)]
      · rw [if_neg (fun h => hx (hiff.1 h)), if_pos (by omega)]

theorem refvalid_sp {c : api_Calendar} : ref40_Valid c = some (decide (OkC c)) := by
  unfold ref40_Valid
  simp only [in_sp, Option.bind_some]
  by_cases a1 : 1 ≤ c.Day ∧ c.Day ≤ 48
  case neg => rw [if_pos (by simp <;> omega)]; simp [OkC, a1]
  rw [if_neg (by simp <;> omega)]
  by_cases a2 : 0 ≤ c.From
  case neg => rw [if_pos (by simp <;> omega)]; simp [OkC, a2]
  rw [if_neg (by simp <;> omega)]
  by_cases a3 : c.From < c.To
  case neg => rw [if_pos (by simp <;> omega)]; simp [OkC, a3]
  rw [if_neg (by simp <;> omega)]
  by_cases a4 : c.To ≤ c.Day
  case neg => rw [if_pos (by simp <;> omega)]; simp [OkC, a4]
  rw [if_neg (by simp <;> omega)]
  by_cases a5 : 0 ≤ c.Week ∧ c.Week ≤ 127
  case neg => rw [if_pos (by simp <;> omega)]; simp [OkC, a5]
  rw [if_neg (by simp <;> omega)]
  simp only [Option.bind_some]
  by_cases a6 : c.Holidays.length ≤ 40
  case neg => rw [if_pos (by simp <;> omega)]; simp [OkC, a6]
  rw [if_neg (by simp <;> omega)]
  have hok : OkC c ↔ ascB c.Holidays = true ∧ ∀ h ∈ c.Holidays, 0 ≤ h := ⟨fun h => ⟨h.2.2.2.2.2.2.1, h.2.2.2.2.2.2.2⟩, fun h => ⟨a1, a2, a3, a4, a5, a6, h.1, h.2⟩⟩
  generalize hL : c.Holidays = L at *
  -- the rest of the list, from k on, behind its predecessor
  let good : Nat → Prop := fun k => (∀ h ∈ L.drop k, 0 ≤ h) ∧ ascB (L.drop (k - 1)) = true
  have e : iter (ref40_Valid_l0 c) 0 = some (if OkC c then Sum.inl () else Sum.inr false) := by
    have key := iter_eq (body := ref40_Valid_l0 c) (fun s => ∃ k : Nat, s = (k : Int) ∧ k ≤ L.length) (fun s => (L.length - s).toNat)
      (fun s => (if good s.toNat then Sum.inl () else Sum.inr false : Unit ⊕ Bool)) ?_ (s := 0) ⟨0, rfl, by omega⟩
    · rw [key]
      have : good (0 : Int).toNat ↔ OkC c := by
        rw [hok]; simp only [good]; simp; exact ⟨fun h => ⟨h.2, h.1⟩, fun h => ⟨h.2, h.1⟩⟩
      by_cases h : OkC c
      · rw [if_pos h, if_pos (this.2 h)]
      · rw [if_neg h, if_neg (fun h' => h (this.1 h'))]
    · rintro _ ⟨k, rfl, hk⟩
      unfold ref40_Valid_l0
      rw [hL]
      by_cases hlt : k < L.length
      · rw [if_pos (by simpa using hlt), idx_lt hlt]
        simp only [Option.bind_some, Int.toNat_natCast]
        have hd : (∀ h ∈ L.drop k, 0 ≤ h) ↔ 0 ≤ L[k] ∧ ∀ h ∈ L.drop (k + 1), 0 ≤ h := by
          rw [List.drop_eq_getElem_cons hlt, List.forall_mem_cons]
        by_cases b1 : L[k] < 0
        · right
          rw [if_pos (by simpa using b1)]
          have : ¬ good k := fun h => by have := (hd.1 h.1).1; omega
          simp [this]
        · rw [if_neg (by simpa using b1)]
          cases k with
          | zero =>
            left
            rw [if_neg (by simp)]
            simp only [Option.bind_some]
            rw [if_neg (by simp), w64 (by omega) (by omega)]
            refine ⟨_, rfl, ⟨1, by simp, by omega⟩, by simp <;> omega, ?_⟩
            have : good ((0 : Nat) + 1 : Int).toNat ↔ good 0 := by
              simp only [good]
              rw [hd]
              simp
              try (intro h _; omega)
            simp only [this]
          | succ k =>
            have hlt' : k < L.length := by omega
            rw [if_pos (by first | (simp; done) | (simp; omega)), w64 (by omega) (by omega), show ((k + 1 : Nat) : Int) - 1 = (k : Int) by omega, idx_lt hlt']
            simp only [Option.bind_some]
            by_cases b2 : L[k+1] ≤ L[k]
            · right
              rw [if_pos (by simpa using b2)]
              have : ¬ good (k + 1) := fun h => by
                have := h.2
                rw [Nat.add_sub_cancel, asc_drop hlt] at this
                simp at this; omega
              simp [this]
            · left
              rw [if_neg (by simpa using b2), w64 (by omega) (by omega)]
              refine ⟨_, rfl, ⟨k + 2, by simp <;> omega, by omega⟩, by omega, ?_⟩
              have e1 : (((k + 1 : Nat) : Int) + 1).toNat = k + 2 := by omega
              rw [e1]
              have : good (k + 2) ↔ good (k + 1) := by
                simp only [good]
                rw [hd, Nat.add_sub_cancel, show k + 2 - 1 = k + 1 by omega, asc_drop hlt]
                have g1 : L[k] < L[k+1] := by omega
                simp [g1]
                intro _ _; omega
              simp only [this]
      · right
        rw [if_neg (by simpa using hlt)]
        have : k = L.length := by omega
        subst this
        have : good L.length := ⟨by simp, asc_end (by omega)⟩
        simp [this]
  rw [e]
  by_cases h : OkC c <;> simp [h]
/-- whether a tick is a working one -/
def wkC (c : api_Calendar) (t : Int) : Bool :=
  (decide (c.From ≤ t % c.Day) && decide (t % c.Day < c.To)) && ((bAnd .i64 ((c.Week).fdiv (2 ^ (min (Int.toNat ((t / c.Day) % 7)) IntKind.i64.bits))) 1 == 1) && !decide (t / c.Day ∈ c.Holidays))

theorem bAnd1 (x : Int) : bAnd .i64 x 1 = x % 2 := by
  have h : (BitVec.ofInt 64 x &&& BitVec.ofInt 64 1).toNat = (x % 2).toNat := by
    rw [BitVec.toNat_and]
    have h1 : (BitVec.ofInt 64 1).toNat = 2 ^ 1 - 1 := by decide
    rw [h1, Nat.and_two_pow_sub_one_eq_mod, BitVec.toNat_ofInt]
    omega
  show IntKind.i64.wrap (((BitVec.ofInt 64 x &&& BitVec.ofInt 64 1).toNat : Nat) : Int) = x % 2
  rw [h, IntKind.wrap_i64]
  omega

section
variable {c : api_Calendar} (hc : OkC c) {t : Int} (h0 : 0 ≤ t) (h1 : t ≤ 4611686018427387904)
include hc h0 h1
theorem divs : IntKind.i64.wrap (t.tdiv c.Day) = t / c.Day ∧ t.tmod c.Day = t % c.Day ∧ (t / c.Day).tmod 7 = (t / c.Day) % 7 ∧ 0 ≤ t / c.Day ∧ t / c.Day ≤ t ∧ 0 ≤ t % c.Day := by
  have hd := hc.1
  have a1 : 0 ≤ t / c.Day := Int.ediv_nonneg h0 (by omega)
  have a2 : t / c.Day ≤ t := by
    have := Int.ediv_le_self c.Day h0; exact this
  refine ⟨?_, Int.tmod_eq_emod_of_nonneg h0, Int.tmod_eq_emod_of_nonneg a1, a1, a2, Int.emod_nonneg _ (by omega)⟩
  rw [Int.tdiv_eq_ediv_of_nonneg h0, w64 (by omega) (by omega)]

theorem working_sp : calendar_working c t = some (wkC c t) := by
  obtain ⟨e1, e2, e3, e4, e5, e6⟩ := divs hc h0 h1
  have hd := hc.1
  obtain ⟨i, hi⟩ := bin_spec ((ascB_iff _).1 hc.2.2.2.2.2.2.1) (by have := hc.2.2.2.2.2.1; omega) (t / c.Day)
  unfold calendar_working wkC
  rw [ck_t (show c.Day ≠ 0 by omega), e1, e2, e3, hi]
  simp only [Option.bind_some]
  by_cases b1 : c.From ≤ t % c.Day
  · by_cases b2 : t % c.Day < c.To
    · rw [if_pos (by simpa using b1), if_pos (by simpa using b2), ck_t (show ¬ (t / c.Day) % 7 < 0 by omega)]
      simp only [Option.bind_some, b1, b2, decide_true, Bool.and_self, Bool.true_and]
      cases (bAnd .i64 ((c.Week).fdiv (2 ^ (min (Int.toNat ((t / c.Day) % 7)) IntKind.i64.bits))) 1 == 1) <;> simp
    · rw [if_pos (by simpa using b1), if_neg (by simpa using b2)]; simp [b2]
  · rw [if_neg (by simpa using b1)]; simp [b1]

theorem refworking_sp : ref40_working c t = some (wkC c t) := by
  obtain ⟨e1, e2, e3, e4, e5, e6⟩ := divs hc h0 h1
  have hd := hc.1
  have hlen := hc.2.2.2.2.2.1
  have hit : iter (ref40_working_l0 c t) 0 = some (if t / c.Day ∈ c.Holidays then Sum.inr false else Sum.inl ()) := by
    have key := iter_eq (body := ref40_working_l0 c t) (fun s => ∃ k : Nat, s = (k : Int) ∧ k ≤ c.Holidays.length) (fun s => (c.Holidays.length - s).toNat)
      (fun s => (bif (c.Holidays.drop s.toNat).contains (t / c.Day) then Sum.inr false else Sum.inl () : Unit ⊕ Bool)) ?_ (s := 0) ⟨0, rfl, by omega⟩
    · rw [key]; by_cases h : t / c.Day ∈ c.Holidays <;> simp [h]
    · rintro _ ⟨k, rfl, hk⟩
      unfold ref40_working_l0
      rw [e1]
      by_cases hlt : k < c.Holidays.length
      · rw [if_pos (by simpa using hlt), idx_lt hlt]
        simp only [Option.bind_some, Int.toNat_natCast]
        by_cases b : c.Holidays[k] = t / c.Day
        · right; rw [if_pos (by simpa using b)]
          have : (c.Holidays.drop k).contains (t / c.Day) = true := by rw [List.drop_eq_getElem_cons hlt]; simp [b]
          simp only [this]; rfl
        · left
          rw [if_neg (by simpa using b), w64 (by omega) (by omega)]
          refine ⟨_, rfl, ⟨k + 1, rfl, by omega⟩, by omega, ?_⟩
          have e9 : ((k : Int) + 1).toNat = k + 1 := by omega
          rw [e9]
          have : (c.Holidays.drop k).contains (t / c.Day) = (c.Holidays.drop (k + 1)).contains (t / c.Day) := by rw [List.drop_eq_getElem_cons hlt, List.contains_cons, show ((t / c.Day) == c.Holidays[k]) = false by simpa using Ne.symm b, Bool.false_or]
          simp only [this]
      · right
        rw [if_neg (by simpa using hlt)]
        have : c.Holidays.drop k = [] := List.drop_eq_nil_of_le (by omega)
        simp [this]
  unfold ref40_working wkC
  rw [ck_t (show c.Day ≠ 0 by omega), e1, e2, e3, hit]
  simp only [Option.bind_some]
  by_cases b1 : c.From ≤ t % c.Day
  · by_cases b2 : t % c.Day < c.To
    · rw [if_neg (by simpa using b1), if_neg (by simpa using b2), ck_t (show ¬ (t / c.Day) % 7 < 0 by omega)]
      simp only [Option.bind_some, b1, b2, decide_true, Bool.and_self, Bool.true_and, bAnd1]
      have hz : 0 ≤ (c.Week).fdiv (2 ^ (min (Int.toNat ((t / c.Day) % 7)) IntKind.i64.bits)) % 2 ∧ (c.Week).fdiv (2 ^ (min (Int.toNat ((t / c.Day) % 7)) IntKind.i64.bits)) % 2 < 2 := by omega
      generalize (c.Week).fdiv (2 ^ (min (Int.toNat ((t / c.Day) % 7)) IntKind.i64.bits)) % 2 = z at *
      by_cases hz0 : z = 0
      · simp [hz0]
      · have : z = 1 := by omega
        subst this
        by_cases hm : t / c.Day ∈ c.Holidays <;> simp [hm]
    · rw [if_neg (by simpa using b1), if_pos (by simpa using b2)]; simp [b2]
  · rw [if_pos (by simpa using b1)]; simp [b1]
end

/-- the working ticks among n from a on -/
def cntC (c : api_Calendar) : Nat → Int → Int
  | 0, _ => 0
  | n + 1, a => (if wkC c a then 1 else 0) + cntC c n (a + 1)
theorem cntC_bd (c : api_Calendar) : ∀ (n : Nat) (a : Int), 0 ≤ cntC c n a ∧ cntC c n a ≤ n
  | 0, a => by simp [cntC]
  | n + 1, a => by have := cntC_bd c n (a + 1); simp only [cntC]; split <;> omega
theorem cntC_add (c : api_Calendar) : ∀ (n m : Nat) (a : Int), cntC c (n + m) a = cntC c n a + cntC c m (a + n)
  | 0, m, a => by simp [cntC]
  | n + 1, m, a => by
    rw [show n + 1 + m = (n + m) + 1 by omega]
    simp only [cntC]
    rw [cntC_add c n m (a + 1), show a + 1 + (n : Int) = a + ((n + 1 : Nat) : Int) by omega]
    omega

def maxT : Int := 1099511627776
def betw (c : api_Calendar) (a b : Int) : Int × Int :=
  if ¬ OkC c then (0, 42) else if ¬ (0 ≤ a ∧ a ≤ maxT ∧ 0 ≤ b ∧ b ≤ maxT ∧ a ≤ b) then (0, 2) else if 100000 < b - a then (0, 3) else (cntC c (b - a).toNat a, 0)

theorem tick_sp (t : Int) : calendar_tick t = some (decide (0 ≤ t) && decide (t ≤ maxT)) := by unfold calendar_tick maxT; rw [among_sp]; rfl

/-- the tick at which n working ticks from u on are over, if it is among the next f -/
def addC (c : api_Calendar) : Nat → Int → Int → Option Int
  | 0, _, _ => none
  | f + 1, n, u => if n = 0 then some u else addC c f (if wkC c u then n - 1 else n) (u + 1)
def limT (t : Int) : Int := if t + 100000 > maxT then maxT else t + 100000
def addS (c : api_Calendar) (t n : Int) : Int × Int :=
  if ¬ OkC c then (0, 42) else if ¬ (0 ≤ t ∧ t ≤ maxT ∧ 0 ≤ n ∧ n ≤ 1000) then (0, 2) else match addC c (limT t - t + 1).toNat n t with | some u => (u, 0) | none => (0, 41)

theorem add_sp (c : api_Calendar) (t n : Int) : calendar_Add c t n = some (addS c t n) := by
  unfold calendar_Add addS
  rw [check_sp]
  by_cases hc : OkC c
  case neg => simp [hc]
  simp only [hc, if_true, Option.bind_some, tick_sp, among_sp, not_true, if_false]
  rw [if_neg (by simp)]
  have hm : maxT = 1099511627776 := rfl
  by_cases h1 : 0 ≤ t ∧ t ≤ maxT
  case neg =>
    rw [if_pos (by simp <;> omega)]
    simp only [Option.bind_some, if_true]
    rw [if_pos (by omega)]
  rw [if_neg (by simp <;> omega)]
  simp only [Option.bind_some]
  by_cases h2 : 0 ≤ n ∧ n ≤ 1000
  case neg => rw [if_pos (by simp <;> omega), if_pos (by omega)]
  rw [if_neg (by simp <;> omega), if_neg (by omega)]
  have hl : (if 1099511627776 < IntKind.i64.wrap (t + 100000) then 1099511627776 else IntKind.i64.wrap (t + 100000)) = limT t := by
    rw [w64 (by omega) (by omega)]; rfl
  have hlim : t ≤ limT t ∧ limT t ≤ maxT ∧ limT t ≤ t + 100000 := by unfold limT; split <;> omega
  have key := iter_eq (body := calendar_Add_l0 t c) (fun s => t ≤ s.2 ∧ s.2 ≤ limT t + 1 ∧ 0 ≤ s.1 ∧ s.1 ≤ n) (fun s => (limT t + 1 - s.2).toNat)
    (fun s => match addC c (limT t - s.2 + 1).toNat s.1 s.2 with | some u => .inr (u, 0) | none => .inl ()) ?_ (s := (n, t)) ⟨by simp, by simp <;> omega, by simpa using h2.1, by simp⟩
  · rw [key]
    simp only [Option.bind_some]
    cases addC c (limT t - t + 1).toNat n t <;> rfl
  · rintro ⟨x, u⟩ ⟨g1, g2, g3, g4⟩
    simp only at g1 g2 g3 g4 ⊢
    unfold calendar_Add_l0
    rw [hl]
    by_cases b1 : u ≤ limT t
    · rw [if_pos (by simpa using b1)]
      have e : (limT t - u + 1).toNat = (limT t - (u + 1) + 1).toNat + 1 := by omega
      rw [e]
      simp only [addC]
      by_cases b2 : x = 0
      · right; rw [if_pos (by simpa using b2)]; simp [b2]
      · left
        rw [if_neg (by simpa using b2), if_neg b2, working_sp hc (by omega) (by omega)]
        simp only [Option.bind_some]
        rw [w64 (by omega) (by omega), w64 (by omega) (by omega)]
        cases hw : wkC c u with
        | true => rw [if_pos rfl]; exact ⟨_, rfl, by simp <;> omega, by simp <;> omega, by simp⟩
        | false => rw [if_neg (by simp)]; exact ⟨_, rfl, by simp <;> omega, by simp <;> omega, by simp⟩
    · right
      rw [if_neg (by simpa using b1), show (limT t - u + 1).toNat = 0 by omega]
      rfl
theorem refadd_sp (c : api_Calendar) (t n : Int) : ref40_Add c t n = some (addS c t n) := by
  unfold ref40_Add addS
  rw [refvalid_sp]
  by_cases hc : OkC c
  case neg => simp [hc]
  simp only [hc, decide_true, Option.bind_some, in_sp, not_true, if_false]
  rw [if_neg (by simp)]
  have hm : maxT = 1099511627776 := rfl
  by_cases h1 : 0 ≤ t ∧ t ≤ maxT
  case neg =>
    rw [if_pos (by simp <;> omega)]
    simp only [Option.bind_some, if_true]
    rw [if_pos (by omega)]
  rw [if_neg (by simp <;> omega)]
  simp only [Option.bind_some]
  by_cases h2 : 0 ≤ n ∧ n ≤ 1000
  case neg => rw [if_pos (by simp <;> omega), if_pos (by omega)]
  rw [if_neg (by simp <;> omega), if_neg (by omega)]
  have hlim : t ≤ limT t ∧ limT t ≤ maxT ∧ limT t ≤ t + 100000 ∧ (limT t = maxT ∨ limT t = t + 100000) := by unfold limT; split <;> omega
  have key := iter_eq (body := ref40_Add_l0 t c) (fun s => t ≤ s.2 ∧ s.2 ≤ limT t ∧ 0 ≤ s.1 ∧ s.1 ≤ n) (fun s => (limT t + 1 - s.2).toNat)
    (fun s => match addC c (limT t - s.2 + 1).toNat s.1 s.2 with | some u => .inl u | none => .inr (0, 41)) ?_ (s := (n, t)) ⟨by simp, by simp <;> omega, by simpa using h2.1, by simp⟩
  · rw [key]
    simp only [Option.bind_some]
    cases addC c (limT t - t + 1).toNat n t <;> rfl
  · rintro ⟨x, u⟩ ⟨g1, g2, g3, g4⟩
    simp only at g1 g2 g3 g4 ⊢
    unfold ref40_Add_l0
    have e : (limT t - u + 1).toNat = (limT t - u).toNat + 1 := by omega
    rw [e]
    simp only [addC, Option.bind_some]
    by_cases b2 : x = 0
    · right; rw [if_neg (by simp <;> omega)]; simp [b2]
    · rw [if_pos (by simp <;> omega), if_neg b2, w64 (x := t + 100000) (by omega) (by omega)]
      by_cases b3 : u = limT t
      · right
        rw [if_pos (by simp <;> omega), show (limT t - u).toNat = 0 by omega]
        rfl
      · left
        rw [if_neg (by simp <;> omega), refworking_sp hc (by omega) (by omega)]
        simp only [Option.bind_some]
        rw [w64 (by omega) (by omega), w64 (by omega) (by omega)]
        have e2 : (limT t - u).toNat = (limT t - (u + 1) + 1).toNat := by omega
        cases hw : wkC c u with
        | true => rw [if_pos rfl]; exact ⟨_, rfl, by simp <;> omega, by simp <;> omega, by simp [e2]⟩
        | false => rw [if_neg (by simp)]; exact ⟨_, rfl, by simp <;> omega, by simp <;> omega, by simp [e2]⟩

def nextC (c : api_Calendar) : Nat → Int → Option Int
  | 0, _ => none
  | f + 1, u => if wkC c u then some u else nextC c f (u + 1)
def nextS (c : api_Calendar) (t : Int) : Int × Int :=
  if ¬ OkC c then (0, 42) else if ¬ (0 ≤ t ∧ t ≤ maxT) then (0, 2) else match nextC c (limT t - t + 1).toNat t with | some u => (u, 0) | none => (0, 41)
def workS (c : api_Calendar) (t : Int) : Bool := decide (OkC c) && (decide (0 ≤ t) && decide (t ≤ maxT)) && wkC c t

/-- a tape that stands in its list -/
def TapeOk (m : make_Tape) : Prop := 0 ≤ m.at_ ∧ m.L.length ≤ 1000000
def tnextV (m : make_Tape) (n : Int) : Int := if (m.L.length : Int) ≤ m.at_ then 0 else ((m.L[m.at_.toNat]?.getD 0) % 65536) % n
def tnextT (m : make_Tape) : make_Tape := if (m.L.length : Int) ≤ m.at_ then m else ⟨m.L, m.at_ + 1⟩
theorem tnextT_ok {m : make_Tape} (h : TapeOk m) : TapeOk (tnextT m) := by
  unfold tnextT; split
  · exact h
  · exact ⟨by have := h.1; simp <;> omega, h.2⟩
theorem tnextV_bd (m : make_Tape) {n : Int} (hn : 0 < n) : 0 ≤ tnextV m n ∧ tnextV m n < n := by
  unfold tnextV; split
  · omega
  · exact ⟨Int.emod_nonneg _ (by omega), Int.emod_lt_of_pos _ hn⟩
theorem next_spT {m : make_Tape} (h : TapeOk m) {n : Int} (hn : 0 < n) : make_Tape_Next m n = some (tnextV m n, tnextT m) := by
  obtain ⟨h1, h2⟩ := h
  unfold make_Tape_Next tnextV tnextT
  by_cases hb : (m.L.length : Int) ≤ m.at_
  · rw [if_pos (by simpa using hb), if_pos hb, if_pos hb]
  · rw [if_neg (by simpa using hb), if_neg hb, if_neg hb, idx_toNat h1 (by omega), List.getElem?_eq_getElem (show m.at_.toNat < m.L.length by omega)]
    simp only [Option.bind_some, ck_t (show n ≠ 0 by omega), Option.getD_some, bAnd16]
    rw [Int.tmod_eq_emod_of_nonneg (Int.emod_nonneg _ (by omega)), w64 (by omega) (by omega)]
theorem between_spT {m : make_Tape} (h : TapeOk m) {a b : Int} (hab : a ≤ b) (ha : -1000000 ≤ a) (hb : b ≤ 1000000) : make_Tape_Between m a b = some (a + tnextV m (b - a + 1), tnextT m) := by
  have := tnextV_bd m (n := b - a + 1) (by omega)
  unfold make_Tape_Between
  rw [w64 (x := b - a) (by omega) (by omega), w64 (x := b - a + 1) (by omega) (by omega), next_spT h (by omega)]
  simp only [Option.bind_some]
  rw [w64 (by omega) (by omega)]
theorem pick_spT {m : make_Tape} (h : TapeOk m) {l : List Int} (hl : 0 < l.length) : ∃ x ∈ l, make_Pick m l = some (x, tnextT m) := by
  have hb := tnextV_bd m (n := (l.length : Int)) (by omega)
  unfold make_Pick
  rw [next_spT h (by omega)]
  simp only [Option.bind_some]
  refine ⟨l[(tnextV m (l.length : Int)).toNat]'(by omega), List.getElem_mem _, ?_⟩
  rw [idx_toNat hb.1 (by omega)]
  rfl
theorem few_spT {m : make_Tape} (h : TapeOk m) : ∃ (l : List Int) (m' : make_Tape), make_Few m 12 4 = some (l, m') ∧ TapeOk m' ∧ l.Pairwise (· < ·) ∧ (∀ x ∈ l, 0 ≤ x ∧ x < 12) ∧ l.length ≤ 12 := by
  unfold make_Few
  have key : ∃ e, iter (make_Few_l0 12 4) (0, m.L, m.at_, []) = some e ∧ (TapeOk ⟨e.1, e.2.1⟩ ∧ e.2.2.Pairwise (· < ·) ∧ (∀ x ∈ e.2.2, 0 ≤ x ∧ x < 12) ∧ (e.2.2.length : Int) ≤ 12) := by
    refine iter_ex (body := make_Few_l0 12 4) (fun s => 0 ≤ s.1 ∧ s.1 ≤ 12 ∧ TapeOk ⟨s.2.1, s.2.2.1⟩ ∧ s.2.2.2.Pairwise (· < ·) ∧ (∀ x ∈ s.2.2.2, 0 ≤ x ∧ x < s.1) ∧ (s.2.2.2.length : Int) ≤ s.1) (fun s => (12 - s.1).toNat) _ ?_ ⟨by simp, by simp, h, .nil, by simp, by simp⟩
    rintro ⟨i, L, p, out⟩ ⟨g1, g2, g3, g4, g5, g6⟩
    simp only at g1 g2 g3 g4 g5 g6
    unfold make_Few_l0
    simp only
    by_cases hi : i < 12
    · left
      rw [if_pos (by simpa using hi), next_spT g3 (by omega)]
      simp only [Option.bind_some]
      rw [w64 (x := i + 1) (by omega) (by omega)]
      split
      · rw [ck_t (by simp <;> omega)]
        refine ⟨_, rfl, ⟨by simp <;> omega, by simp <;> omega, tnextT_ok g3, ?_, ?_, ?_⟩, by simp <;> omega⟩
        · rw [List.pairwise_append]
          exact ⟨g4, List.pairwise_singleton _ _, fun a ha b hb => by simp at hb; subst hb; exact (g5 a ha).2⟩
        · intro x hx
          simp only [List.mem_append, List.mem_singleton] at hx
          rcases hx with hx | rfl
          · have := g5 x hx; simp only; omega
          · simp only; omega
        · simp <;> omega
      · refine ⟨_, rfl, ⟨by simp <;> omega, by simp <;> omega, tnextT_ok g3, g4, fun x hx => ?_, ?_⟩, by simp <;> omega⟩
        · have := g5 x hx; simp only; omega
        · simp only; omega
    · right
      rw [if_neg (by simpa using hi)]
      exact ⟨_, rfl, g3, g4, fun x hx => by have := g5 x hx; show 0 ≤ x ∧ x < 12; omega, by show (out.length : Int) ≤ 12; omega⟩
  obtain ⟨e, he, h1, h2, h3, h4⟩ := key
  rw [he]
  exact ⟨_, _, rfl, h1, h2, h3, by omega⟩

/-- what the tape's calendars are like -/
structure MadeC (c : api_Calendar) : Prop where
  ok : OkC c
  day : 1 ≤ c.Day ∧ c.Day ≤ 12
  week : c.Week ∈ [31, 127, 62, 1]
  hol : ∀ x ∈ c.Holidays, 0 ≤ x ∧ x < 12
  len : c.Holidays.length ≤ 12
theorem calendar_spT {m : make_Tape} (h : TapeOk m) : ∃ (c : api_Calendar) (m' : make_Tape), make_Calendar m = some (c, m') ∧ TapeOk m' ∧ MadeC c := by
  have d := tnextV_bd m (n := 12 - 1 + 1) (by omega)
  unfold make_Calendar
  rw [between_spT h (by omega) (by omega) (by omega)]
  simp only [Option.bind_some]
  have h1 := tnextT_ok h
  obtain ⟨w, hw, e2⟩ := pick_spT h1 (l := [31, 127, 62, 1]) (by simp)
  rw [e2]
  simp only [Option.bind_some]
  have h2 := tnextT_ok h1
  have f := tnextV_bd (tnextT (tnextT m)) (n := 1 + tnextV m (12 - 1 + 1)) (by omega)
  rw [next_spT h2 (by omega)]
  simp only [Option.bind_some]
  have h3 := tnextT_ok h2
  rw [w64 (by omega) (by omega), between_spT h3 (by omega) (by omega) (by omega)]
  simp only [Option.bind_some]
  have h4 := tnextT_ok h3
  obtain ⟨l, m', e5, k1, k2, k3, k4⟩ := few_spT h4
  rw [e5]
  simp only [Option.bind_some]
  generalize tnextV (tnextT (tnextT m)) (1 + tnextV m (12 - 1 + 1)) = fr at *
  have t := tnextV_bd (tnextT (tnextT (tnextT m))) (n := 1 + tnextV m (12 - 1 + 1) - (fr + 1) + 1) (by omega)
  refine ⟨_, _, rfl, k1, ⟨⟨by simp only; omega, by simp only; omega, by simp only; omega, by simp only; omega, ?_, by simp only; omega, (ascB_iff _).2 k2, fun x hx => (k3 x hx).1⟩, by simp only; omega, hw, k3, k4⟩⟩
  simp only [List.mem_cons, List.not_mem_nil, or_false] at hw
  simp only; omega

/-! How many working ticks there are -/
theorem addC_some {c : api_Calendar} : ∀ {f : Nat} {n u v : Int}, 0 ≤ n → addC c f n u = some v → u ≤ v ∧ v < u + f ∧ cntC c (v - u).toNat u = n ∧ (0 < n → u < v ∧ wkC c (v - 1) = true)
  | 0, n, u, v, _, h => by simp [addC] at h
  | f + 1, n, u, v, hn, h => by
    simp only [addC] at h
    by_cases h0 : n = 0
    · rw [if_pos h0] at h
      cases h
      subst h0
      refine ⟨by omega, by omega, by simp [cntC], fun h => by omega⟩
    · rw [if_neg h0] at h
      cases hw : wkC c u with
      | true =>
        rw [hw, if_pos rfl] at h
        obtain ⟨g1, g2, g3, g4⟩ := addC_some (by omega) h
        have e : (v - u).toNat = (v - (u + 1)).toNat + 1 := by omega
        refine ⟨by omega, by omega, ?_, fun _ => ⟨by omega, ?_⟩⟩
        · rw [e]; simp only [cntC]; rw [hw, if_pos rfl, g3]; omega
        · by_cases h1 : 0 < n - 1
          · exact (g4 h1).2
          · have hn1 : n - 1 = 0 := by omega
            rw [hn1] at h
            cases f with
            | zero => simp [addC] at h
            | succ f => simp [addC] at h; rw [← h, show u + 1 - 1 = u by omega]; exact hw
      | false =>
        rw [hw, if_neg (by simp)] at h
        obtain ⟨g1, g2, g3, g4⟩ := addC_some hn h
        have e : (v - u).toNat = (v - (u + 1)).toNat + 1 := by omega
        refine ⟨by omega, by omega, ?_, fun h1 => ⟨by omega, (g4 h1).2⟩⟩
        rw [e]; simp only [cntC]; rw [hw, if_neg (by simp), g3]; omega
theorem addC_ex {c : api_Calendar} : ∀ {f k : Nat} {n u : Int}, 0 ≤ n → n ≤ cntC c k u → k < f → ∃ v, addC c f n u = some v ∧ v ≤ u + k
  | 0, k, n, u, _, _, h => by omega
  | f + 1, k, n, u, hn, hc, hk => by
    simp only [addC]
    by_cases h0 : n = 0
    · exact ⟨u, by rw [if_pos h0], by omega⟩
    · rw [if_neg h0]
      cases k with
      | zero => simp [cntC] at hc; omega
      | succ k =>
        simp only [cntC] at hc
        cases hw : wkC c u with
        | true =>
          rw [hw, if_pos rfl] at hc
          obtain ⟨v, g1, g2⟩ := addC_ex (c := c) (f := f) (k := k) (n := n - 1) (u := u + 1) (by omega) (by omega) (by omega)
          exact ⟨v, g1, by omega⟩
        | false =>
          rw [hw, if_neg (by simp)] at hc
          obtain ⟨v, g1, g2⟩ := addC_ex (c := c) (f := f) (k := k) (n := n) (u := u + 1) hn (by omega) (by omega)
          exact ⟨v, g1, by omega⟩
theorem wk_at {c : api_Calendar} (h : MadeC c) {d : Int} (hd : 12 ≤ d) (hw : d % 7 = if c.Week = 62 then 1 else 0) : wkC c (d * c.Day + c.From) = true := by
  obtain ⟨hD, hF, hFT, hTD, _⟩ := h.ok
  have hf : 0 ≤ c.From ∧ c.From < c.Day := by omega
  have e1 : (d * c.Day + c.From) / c.Day = d := by
    rw [Int.add_comm, Int.add_mul_ediv_right _ _ (by omega), Int.ediv_eq_zero_of_lt hf.1 hf.2]; omega
  have e2 : (d * c.Day + c.From) % c.Day = c.From := by
    rw [Int.add_comm, Int.add_mul_emod_self_right, Int.emod_eq_of_lt hf.1 hf.2]
  unfold wkC
  rw [e1, e2, bAnd1, hw]
  have hnm : ¬ d ∈ c.Holidays := fun hm => by have := h.hol d hm; omega
  have hwk := h.week
  simp only [List.mem_cons, List.not_mem_nil, or_false] at hwk
  have hb : ((c.Week).fdiv (2 ^ (min (Int.toNat (if c.Week = 62 then 1 else 0)) IntKind.i64.bits))) % 2 = 1 := by
    rcases hwk with e | e | e | e <;> rw [e] <;> decide
  simp [hFT, hnm, hb]

theorem wk_soon {c : api_Calendar} (h : MadeC c) {u : Int} (hu : 0 ≤ u) : ∃ v, u ≤ v ∧ v < u + 300 ∧ wkC c v = true := by
  obtain ⟨hD, hF, hFT, hTD, _⟩ := h.ok
  have hd := h.day
  have hq : 0 ≤ u / c.Day := Int.ediv_nonneg hu (by omega)
  let e : Int := if u / c.Day < 12 then 12 else u / c.Day + 1
  let d : Int := 7 * (e / 7 + 1) + (if c.Week = 62 then 1 else 0)
  have he : 12 ≤ e ∧ u / c.Day + 1 ≤ e ∧ e ≤ u / c.Day + 13 := by simp only [e]; split <;> omega
  have hdd : e < d ∧ d ≤ e + 8 ∧ d % 7 = if c.Week = 62 then 1 else 0 := by simp only [d]; split <;> omega
  refine ⟨d * c.Day + c.From, ?_, ?_, wk_at h (by omega) hdd.2.2⟩
  · have h1 : u < (u / c.Day + 1) * c.Day := by
      have := Int.lt_ediv_add_one_mul_self u (show 0 < c.Day by omega); exact this
    have h2 : (u / c.Day + 1) * c.Day ≤ d * c.Day := Int.mul_le_mul_of_nonneg_right (by omega) (by omega)
    omega
  · have h1 : u / c.Day * c.Day ≤ u := Int.ediv_mul_le u (by omega)
    have h2 : d * c.Day ≤ (u / c.Day + 21) * c.Day := Int.mul_le_mul_of_nonneg_right (by omega) (by omega)
    have h3 : (u / c.Day + 21) * c.Day = u / c.Day * c.Day + 21 * c.Day := Int.add_mul _ _ _
    clear_value d e
    omega
theorem cnt_one {c : api_Calendar} {u v : Int} (h1 : u ≤ v) (h3 : wkC c v = true) : ∀ n : Nat, v < u + n → 1 ≤ cntC c n u := by
  intro n hn
  have hs : n = (v - u).toNat + (1 + (n - (v - u).toNat - 1)) := by omega
  rw [hs, cntC_add, cntC_add]
  have a1 := (cntC_bd c (v - u).toNat u).1
  have a2 := (cntC_bd c (n - (v - u).toNat - 1) (u + ((v - u).toNat : Nat) + (1 : Nat))).1
  have a3 : cntC c 1 (u + ((v - u).toNat : Nat)) = 1 := by
    simp only [cntC]
    rw [show u + ((v - u).toNat : Nat) = v by omega, h3]; rfl
  omega
theorem cnt_many {c : api_Calendar} (h : MadeC c) : ∀ (k : Nat) {u : Int}, 0 ≤ u → (k : Int) ≤ cntC c (300 * k) u
  | 0, u, _ => by simp [cntC]
  | k + 1, u, hu => by
    rw [show 300 * (k + 1) = 300 + 300 * k by omega, cntC_add]
    obtain ⟨v, h1, h2, h3⟩ := wk_soon h hu
    have := cnt_one h1 h3 300 (by omega)
    have := cnt_many h k (u := u + (300 : Nat)) (by omega)
    omega

/-- adding succeeds -/
theorem add_ok {c : api_Calendar} (h : MadeC c) {t n : Int} (ht : 0 ≤ t) (ht2 : t ≤ 1000000) (hn : 0 ≤ n) (hn2 : n ≤ 100) : ∃ v, addS c t n = (v, 0) ∧ addC c 100001 n t = some v ∧ t ≤ v ∧ v ≤ t + 30000 ∧ cntC c (v - t).toNat t = n ∧ (0 < n → t < v ∧ wkC c (v - 1) = true) := by
  have hc := cnt_many h n.toNat ht
  obtain ⟨v, g1, g2⟩ := addC_ex (c := c) (f := 100001) (k := 300 * n.toNat) (n := n) (u := t) hn (by omega) (by omega)
  obtain ⟨k1, k2, k3, k4⟩ := addC_some hn g1
  have hl : limT t = t + 100000 := by unfold limT maxT; rw [if_neg (by omega)]
  refine ⟨v, ?_, g1, k1, by omega, k3, k4⟩
  unfold addS
  rw [if_neg (by simpa using h.ok), if_neg (show ¬ ¬ (0 ≤ t ∧ t ≤ maxT ∧ 0 ≤ n ∧ n ≤ 1000) by unfold maxT; omega), hl, show (t + 100000 - t + 1).toNat = 100001 by omega, g1]
def existsB (d : api_Directory) (p : Int) : Bool := decide (0 ≤ p) && decide (p < (d.Kinds.length : Int))
theorem exists_sp (d : api_Directory) (p : Int) : directory_exists d p = some (existsB d p) := rfl
theorem oexists_sp (d : api_Directory) (p : Int) : owners_exists d p = some (existsB d p) := rfl
theorem rexists_sp {d : api_Directory} (h : d.Kinds.length ≤ 1000000) (p : Int) : ref23_Exists d p = some (existsB d p) := by
  unfold ref23_Exists ref23_in existsB
  rw [w64 (by omega) (by omega)]
  simp only [Option.bind_some]
  congr 2
  by_cases h1 : p < (d.Kinds.length : Int)
  · rw [decide_eq_true h1, decide_eq_true (by omega)]
  · rw [decide_eq_false h1, decide_eq_false (by omega)]
def groupB (d : api_Directory) (p : Int) : Bool := existsB d p && (d.Kinds.getD p.toNat 0 == 2)
theorem idx_ex {d : api_Directory} {p : Int} (h : existsB d p = true) : idx d.Kinds p = some (d.Kinds.getD p.toNat 0) := by
  unfold existsB at h
  simp only [Bool.and_eq_true, decide_eq_true_eq] at h
  have hl : p.toNat < d.Kinds.length := by omega
  rw [idx_toNat h.1 hl]; simp [hl]
theorem group_sp (d : api_Directory) (p : Int) : directory_group d p = some (groupB d p) := by
  unfold directory_group groupB
  rw [exists_sp]
  simp only [Option.bind_some]
  cases h : existsB d p with
  | true => rw [if_pos rfl, idx_ex h]; rfl
  | false => rw [if_neg (by decide)]; rfl
theorem rgroup_sp {d : api_Directory} (h : d.Kinds.length ≤ 1000000) (p : Int) : ref23_Group d p = some (groupB d p) := by
  unfold ref23_Group groupB
  rw [rexists_sp h]
  simp only [Option.bind_some]
  cases h : existsB d p with
  | true => rw [if_pos rfl, idx_ex h]; rfl
  | false => rw [if_neg (by decide)]; rfl

def kindBad (k : Int) : Bool := decide (k < 1) || decide (3 < k)
theorem kinds_sp {l : List Int} (hl : l.length ≤ 1000000) : slices_ContainsFunc_int_at_directory_Check_1 l = some (l.any kindBad) := by
  unfold slices_ContainsFunc_int_at_directory_Check_1 slices_IndexFunc_int_at_directory_Check_1
  obtain ⟨h1, h2⟩ := iter_findS (body := slices_IndexFunc_int_at_directory_Check_1_l0 l) l kindBad (fun i _ => .inr (i : Int)) (.inl ()) (fun i hi => by
    unfold slices_IndexFunc_int_at_directory_Check_1_l0
    rw [if_pos (by simp <;> omega), idx_lt hi, w64 (by omega) (by omega)]
    simp only [Option.bind_some, directory_Check_1, kindBad]
    split <;> simp [*]) (by
    unfold slices_IndexFunc_int_at_directory_Check_1_l0
    rw [if_neg (by simp)])
  cases h : l.any kindBad with
  | false => rw [h1 h]; rfl
  | true =>
    obtain ⟨i, hi, _, e⟩ := h2 h
    rw [e]
    simp only [Option.bind_some]
    rw [decide_eq_true (by omega)]
def evOk (d : api_Directory) (last : Int) (x : api_Member) : Bool :=
  (x.Kind == 1 || x.Kind == 2) && (decide (last ≤ x.Time) && (decide (x.Time ≤ maxT) && (existsB d x.Principal && (groupB d x.Group && !(x.Principal == x.Group)))))
def dirOk (d : api_Directory) : Bool := decide (d.Kinds.length ≤ 24) && (decide (d.Events.length ≤ 120) && (!(d.Kinds.any kindBad) && fitB (evOk d) (·.Time) 0 d.Events))

theorem dcheck_body (d : api_Directory) (hl : d.Events.length ≤ 1000000) (i : Nat) (h : i < d.Events.length) (last : Int) : directory_Check_l0 d (last, (i : Int)) = some (if evOk d last d.Events[i] = true then .go (d.Events[i].Time, ((i + 1 : Nat) : Int)) else .out (.inr 30)) := by
  unfold directory_Check_l0
  rw [if_pos (by simp <;> omega)]
  simp only
  rw [idx_lt h, w64 (by omega) (by omega)]
  generalize d.Events[i] = x
  simp only [Option.bind_some, exists_sp, group_sp, evOk, maxT]
  by_cases h1 : x.Kind = 1 <;> by_cases h2 : x.Kind = 2 <;> by_cases h3 : x.Time < last <;> by_cases h4 : 1099511627776 < x.Time <;>
    by_cases h5 : existsB d x.Principal = true <;> by_cases h6 : groupB d x.Group = true <;> by_cases h7 : x.Principal = x.Group <;> grind
theorem dcheck_sp (d : api_Directory) : directory_Check d = some (if dirOk d = true then 0 else 30) := by
  unfold directory_Check dirOk
  by_cases h1 : d.Kinds.length ≤ 24
  case neg => rw [if_pos (by simp <;> omega)]; simp [h1]
  rw [if_neg (by simp <;> omega)]
  by_cases h2 : d.Events.length ≤ 120
  case neg => rw [if_pos (by simp <;> omega)]; simp [h2]
  rw [if_neg (by simp <;> omega), kinds_sp (by omega)]
  simp only [Option.bind_some, h1, h2, decide_true, Bool.true_and]
  cases h3 : d.Kinds.any kindBad with
  | true => simp
  | false =>
    rw [if_neg (by decide), chain_loop d.Events (evOk d) (·.Time) 30 (fun i h last => dcheck_body d (by omega) i h last) (fun last => by
      unfold directory_Check_l0
      rw [if_neg (by simp)])]
    cases fitB (evOk d) (·.Time) 0 d.Events <;> simp
theorem evOk_le {d : api_Directory} (last : Int) (x : api_Member) (h : evOk d last x = true) : last ≤ x.Time := by
  simp only [evOk, Bool.and_eq_true, decide_eq_true_eq] at h; exact h.2.1
theorem rvalid_body {d : api_Directory} (hk : d.Kinds.length ≤ 24) (hl : d.Events.length ≤ 120) (i : Nat) (h : i < d.Events.length) : ref23_Valid_l1 d (i : Int) = some (if (decide (0 ≤ d.Events[i].Time) && evOk d (prevT (·.Time) 0 d.Events i) d.Events[i]) = true then .go ((i + 1 : Nat) : Int) else .out (.inr false)) := by
  unfold ref23_Valid_l1
  rw [if_pos (by simp <;> omega), idx_lt h, w64 (x := (i : Int) + 1) (by omega) (by omega)]
  simp only [Option.bind_some, rexists_sp (show d.Kinds.length ≤ 1000000 by omega), rgroup_sp (show d.Kinds.length ≤ 1000000 by omega), ref23_in]
  cases i with
  | zero =>
    generalize d.Events[0] = x
    simp only [evOk, maxT, prevT_zero]
    grind
  | succ i =>
    have hi : i < d.Events.length := by omega
    rw [w64 (by omega) (by omega), show (((i + 1 : Nat) : Int) - 1) = (i : Int) by omega, idx_lt hi, prevT_succ (·.Time) 0 d.Events hi]
    generalize hx : d.Events[i + 1] = x
    generalize hy : d.Events[i] = y
    simp only [Option.bind_some, evOk, maxT]
    grind
theorem rkinds_body {d : api_Directory} (hk : d.Kinds.length ≤ 24) (i : Nat) (h : i < d.Kinds.length) : ref23_Valid_l0 d (i : Int) = some (if (fun k => !kindBad k) d.Kinds[i] = true then .go ((i + 1 : Nat) : Int) else .out (.inr false)) := by
  unfold ref23_Valid_l0
  rw [if_pos (by simp <;> omega), idx_lt h, w64 (x := (i : Int) + 1) (by omega) (by omega)]
  simp only [Option.bind_some, ref23_in, kindBad]
  grind
theorem rvalid_sp (d : api_Directory) : ref23_Valid d = some (dirOk d) := by
  unfold ref23_Valid dirOk
  simp only [Option.bind_some]
  by_cases h1 : d.Kinds.length ≤ 24
  case neg => rw [if_pos (by simp <;> omega)]; simp [h1]
  by_cases h2 : d.Events.length ≤ 120
  case neg => rw [if_pos (by simp <;> omega)]; simp [h2]
  rw [if_neg (by simp <;> omega), iter_allE d.Kinds.length (fun i => if h : i < d.Kinds.length then !kindBad d.Kinds[i] else true) false (fun i h => by simp only [h, dif_pos]; exact rkinds_body h1 i h) (by
    unfold ref23_Valid_l0
    rw [if_neg (by simp)])]
  rw [chain_at d.Events (fun last x => decide (0 ≤ x.Time) && evOk d last x) (·.Time) 0 false (fun i h => rvalid_body h1 h2 i h) (by
    unfold ref23_Valid_l1
    rw [if_neg (by simp)])]
  rw [fit_nonneg (p := evOk d) (t := (·.Time)) evOk_le d.Events 0 (Int.le_refl 0)]
  simp only [h1, h2, decide_true, Bool.true_and]
  by_cases h3 : d.Kinds.any kindBad = true
  · rw [if_neg, h3]
    · rfl
    · intro hn
      obtain ⟨x, hx, hb⟩ := List.any_eq_true.1 h3
      obtain ⟨i, hi, rfl⟩ := List.getElem_of_mem hx
      have := hn i hi
      simp [hi, hb] at this
  · rw [if_pos]
    · have : d.Kinds.any kindBad = false := by simpa using h3
      rw [this]
      simp only [Option.bind_some]
      cases fitB (evOk d) (·.Time) 0 d.Events <;> simp
    · intro i hi
      simp only [hi, dif_pos]
      cases hb : kindBad d.Kinds[i] with
      | false => rfl
      | true => exact absurd (List.any_eq_true.2 ⟨_, List.getElem_mem hi, hb⟩) h3

def stOk (d : api_Directory) (last : Int) (x : api_Steward) : Bool :=
  decide (last ≤ x.Time) && (decide (x.Time ≤ maxT) && (existsB d x.Subject && ((x.Steward == -1 || existsB d x.Steward) && !(x.Steward == x.Subject))))
theorem ex_nn {d : api_Directory} {p : Int} (h : existsB d p = true) : 0 ≤ p := by unfold existsB at h; simp at h; omega
def stewOk (d : api_Directory) (l : List api_Steward) : Bool := decide (l.length ≤ 120) && fitB (stOk d) (·.Time) 0 l
theorem ocheck_sp (d : api_Directory) (l : List api_Steward) : owners_Check d l = some (if dirOk d = true then (if stewOk d l = true then 0 else 33) else 30) := by
  unfold owners_Check stewOk
  rw [dcheck_sp]
  simp only [Option.bind_some]
  by_cases h1 : dirOk d = true
  case neg => simp [h1]
  by_cases h2 : l.length ≤ 120
  case neg => simp [h1, h2]; intro h; omega
  rw [if_pos h1, if_neg (by decide), if_neg (by simp <;> omega)]
  rw [chain_loop l (stOk d) (·.Time) 33 (fun i h last => by
    unfold owners_Check_l0
    rw [if_pos (by simp <;> omega)]
    simp only
    rw [idx_lt h, w64 (by omega) (by omega)]
    generalize l[i] = x
    simp only [Option.bind_some, oexists_sp, stOk, maxT]
    have := @ex_nn d x.Subject
    grind) (fun last => by
    unfold owners_Check_l0
    rw [if_neg (by simp)])]
  simp only [h1, h2, decide_true, Bool.true_and, if_true]
  cases fitB (stOk d) (·.Time) 0 l <;> simp
theorem stOk_le {d : api_Directory} (last : Int) (x : api_Steward) (h : stOk d last x = true) : last ≤ x.Time := by
  simp only [stOk, Bool.and_eq_true, decide_eq_true_eq] at h; exact h.1
theorem rocheck_sp (d : api_Directory) (l : List api_Steward) : ref26_Check d l = some (if dirOk d = true then (if stewOk d l = true then 0 else 33) else 30) := by
  unfold ref26_Check stewOk
  rw [rvalid_sp]
  simp only [Option.bind_some]
  by_cases h1 : dirOk d = true
  case neg => simp [h1]
  by_cases h2 : l.length ≤ 120
  case neg => simp [h1, h2]; intro h; omega
  have hk : d.Kinds.length ≤ 1000000 := by simp [dirOk] at h1; omega
  rw [h1, if_neg (by decide), if_neg (by simp <;> omega)]
  rw [chain_at l (fun last x => decide (0 ≤ x.Time) && stOk d last x) (·.Time) 0 33 (fun i h => by
    unfold ref26_Check_l0
    rw [if_pos (by simp <;> omega)]
    rw [idx_lt h, w64 (x := (i : Int) + 1) (by omega) (by omega)]
    simp only [Option.bind_some, rexists_sp hk, stOk, maxT]
    cases i with
    | zero =>
      generalize l[0] = x
      simp only [prevT_zero]
      grind
    | succ i =>
      have hi : i < l.length := by omega
      rw [w64 (by omega) (by omega), show (((i + 1 : Nat) : Int) - 1) = (i : Int) by omega, idx_lt hi, prevT_succ (·.Time) 0 l hi]
      generalize hx : l[i + 1] = x
      generalize hy : l[i] = y
      simp only [Option.bind_some]
      grind) (by
    unfold ref26_Check_l0
    rw [if_neg (by simp)])]
  rw [fit_nonneg (p := stOk d) (t := (·.Time)) stOk_le l 0 (Int.le_refl 0)]
  simp only [h2, decide_true, Bool.true_and, if_true]
  cases fitB (stOk d) (·.Time) 0 l <;> simp

def ofP (s : List api_Steward) (a t : Int) : Int := s.foldl (fun acc x => if (x.Subject == a && decide (x.Time ≤ t)) = true then x.Steward else acc) (-1)
theorem oof_sp {s : List api_Steward} (hl : s.length ≤ 1000000) (a t : Int) : owners_of s a t = some (ofP s a t) := by
  unfold owners_of
  have := (iter_foldlS (body := owners_of_l0 s a t) s (fun i acc => (acc, (i : Int))) (fun acc x => if (x.Subject == a && decide (x.Time ≤ t)) = true then x.Steward else acc) (fun acc => acc) (fun _ _ => True) (fun i h acc _ => by
    unfold owners_of_l0
    rw [if_pos (by simp <;> omega)]
    simp only
    rw [idx_lt h, w64 (by omega) (by omega)]
    simp only [Option.bind_some]
    refine ⟨?_, trivial⟩
    split <;> rfl) (fun acc _ => by
    unfold owners_of_l0
    rw [if_neg (by simp)]) (-1) trivial).1
  rw [show ((-1 : Int), (0 : Int)) = (-1, ((0 : Nat) : Int)) from rfl, this]; rfl
theorem rof_sp {s : List api_Steward} (hl : s.length ≤ 1000000) (a t : Int) : ref26_of s a t = some (ofP s a t) := by
  unfold ref26_of
  have := (iter_foldlS (body := ref26_of_l0 s t a) s (fun i acc => (acc, (i : Int))) (fun acc x => if (x.Subject == a && decide (x.Time ≤ t)) = true then x.Steward else acc) (fun acc => acc) (fun _ _ => True) (fun i h acc _ => by
    unfold ref26_of_l0
    rw [if_pos (by simp <;> omega)]
    simp only
    rw [idx_lt h, w64 (by omega) (by omega)]
    simp only [Option.bind_some]
    refine ⟨?_, trivial⟩
    rw [Bool.and_comm]
    split <;> rfl) (fun acc _ => by
    unfold ref26_of_l0
    rw [if_neg (by simp)]) (-1) trivial).1
  rw [show ((-1 : Int), (0 : Int)) = (-1, ((0 : Nat) : Int)) from rfl, this]; rfl
theorem ofP_ok {d : api_Directory} {s : List api_Steward} (h : ∀ x ∈ s, x.Steward = -1 ∨ existsB d x.Steward = true) (a t : Int) : ofP s a t = -1 ∨ existsB d (ofP s a t) = true := by
  unfold ofP
  have key : ∀ (l : List api_Steward) (acc : Int), (∀ x ∈ l, x.Steward = -1 ∨ existsB d x.Steward = true) → (acc = -1 ∨ existsB d acc = true) → (l.foldl (fun acc x => if (x.Subject == a && decide (x.Time ≤ t)) = true then x.Steward else acc) acc = -1 ∨ existsB d (l.foldl (fun acc x => if (x.Subject == a && decide (x.Time ≤ t)) = true then x.Steward else acc) acc) = true) := fun l => by
    induction l with
    | nil => intro acc _ h; exact h
    | cons x l ih =>
      intro acc hl ha
      rw [List.foldl_cons]
      refine ih _ (fun y hy => hl y (List.mem_cons_of_mem _ hy)) ?_
      split
      · exact hl x (List.mem_cons_self ..)
      · exact ha
  exact key s (-1) h (.inl rfl)
theorem has_sp {l : List Int} (hl : l.length ≤ 1000000) (x : Int) : ref23_Has l x = some (l.contains x) := by
  unfold ref23_Has
  obtain ⟨h1, h2⟩ := iter_findS (body := ref23_Has_l0 l x) l (fun y => y == x) (fun _ _ => .inr true) (.inl ()) (fun i hi => by
    unfold ref23_Has_l0
    rw [if_pos (by simp <;> omega), idx_lt hi, w64 (by omega) (by omega)]
    simp only [Option.bind_some]
    split <;> simp [*]) (by
    unfold ref23_Has_l0
    rw [if_neg (by simp)])
  have e : l.any (fun y => y == x) = l.contains x := by
    rw [Bool.eq_iff_iff]
    simp
  cases h : l.any (fun y => y == x) with
  | false => rw [h1 h, ← e, h]; rfl
  | true => obtain ⟨i, hi, _, h3⟩ := h2 h; rw [h3, ← e, h]; rfl
theorem contains_sp {l : List Int} (hl : l.length ≤ 1000000) (x : Int) : slices_Contains_int l x = some (l.contains x) := by
  unfold slices_Contains_int slices_Index_int
  obtain ⟨h1, h2⟩ := iter_findS (body := slices_Index_int_l0 l x) l (fun y => x == y) (fun i _ => .inr (i : Int)) (.inl ()) (fun i hi => by
    unfold slices_Index_int_l0
    rw [if_pos (by simp <;> omega), idx_lt hi, w64 (by omega) (by omega)]
    simp only [Option.bind_some]
    split <;> simp [*]) (by
    unfold slices_Index_int_l0
    rw [if_neg (by simp)])
  have e : l.any (fun y => x == y) = l.contains x := by
    rw [Bool.eq_iff_iff]
    simp
  cases h : l.any (fun y => x == y) with
  | false => rw [h1 h, ← e, h]; rfl
  | true =>
    obtain ⟨i, hi, _, h3⟩ := h2 h
    rw [h3, ← e, h]
    simp only [Option.bind_some]
    rw [decide_eq_true (by omega)]

def wayP (s : List api_Steward) (t : Int) : Nat → Int → List Int → List Int
  | 0, _, out => out
  | n + 1, p, out => if (p != -1 && !(out.contains p)) = true then wayP s t n (ofP s p t) (out ++ [p]) else out
/-- different numbers below n are at most n -/
theorem nodup_few {n : Nat} {l : List Int} (h : l.Nodup) (hb : ∀ x ∈ l, 0 ≤ x ∧ x < (n : Int)) : l.length ≤ n := by
  have hm : (l.map Int.toNat).Nodup := by
    rw [List.nodup_iff_pairwise_ne, List.pairwise_map]
    refine List.Pairwise.imp_of_mem (fun {a b} ha hb' hab => ?_) h
    have h1 := hb a ha
    have h2 := hb b hb'
    omega
  have hs : (l.map Int.toNat) ⊆ List.range n := fun x hx => by
    obtain ⟨y, hy, rfl⟩ := List.mem_map.1 hx
    have := hb y hy
    rw [List.mem_range]; omega
  have := hm.length_le_of_subset hs
  simpa using this
theorem way_loop {d : api_Directory} {s : List api_Steward} {t : Int} {body : Int × List Int → Option (Lp (Int × List Int) (List Int))} (hd : d.Kinds.length ≤ 24) (hs : ∀ x ∈ s, x.Steward = -1 ∨ existsB d x.Steward = true)
    (hb : ∀ (p : Int) (out : List Int), out.length ≤ 100 → body (p, out) = some (if (p != -1 && !(out.contains p)) = true then .go (ofP s p t, out ++ [p]) else .out out)) :
    ∀ (n : Nat) (p : Int) (out : List Int), (p = -1 ∨ existsB d p = true) → out.Nodup → (∀ x ∈ out, existsB d x = true) → out.length + n = 25 → iter body (p, out) = some (wayP s t n p out) ∧ (wayP s t n p out).length ≤ 24 ∧ out <+: wayP s t n p out := fun n => by
  have few : ∀ out : List Int, out.Nodup → (∀ x ∈ out, existsB d x = true) → out.length ≤ 24 := fun out h1 h2 => by
    refine Nat.le_trans (nodup_few (n := d.Kinds.length) h1 fun x hx => ?_) hd
    have := h2 x hx
    unfold existsB at this; simp at this; omega
  induction n with
  | zero =>
    intro p out _ h2 h3 h4
    have := few out h2 h3
    omega
  | succ n ih =>
    intro p out h1 h2 h3 h4
    have hf := few out h2 h3
    have e := hb p out (by omega)
    unfold wayP
    by_cases hc : (p != -1 && !(out.contains p)) = true
    · rw [if_pos hc] at e ⊢
      have hc' := hc
      simp at hc'
      have hp : existsB d p = true := h1.resolve_left hc'.1
      rw [iter_go e]
      obtain ⟨i1, i2, i3⟩ := ih (ofP s p t) (out ++ [p]) (ofP_ok hs p t) (by
        rw [List.nodup_append]
        exact ⟨h2, by simp, fun a ha b hb => by simp at hb; subst hb; intro e; subst e; exact hc'.2 ha⟩) (fun x hx => by
        rcases List.mem_append.1 hx with hx | hx
        · exact h3 x hx
        · simp at hx; subst hx; exact hp) (by simp; omega)
      exact ⟨i1, i2, (List.prefix_append out [p]).trans i3⟩
    · rw [if_neg hc] at e ⊢
      exact ⟨iter_out e, hf, List.prefix_refl _⟩
def wayS (s : List api_Steward) (a t : Int) : List Int := wayP s t 25 a []
theorem stew_mem {d : api_Directory} {s : List api_Steward} (h : stewOk d s = true) : s.length ≤ 120 ∧ ∀ x ∈ s, x.Steward = -1 ∨ existsB d x.Steward = true := by
  unfold stewOk at h
  simp only [Bool.and_eq_true, decide_eq_true_eq] at h
  refine ⟨h.1, fun x hx => ?_⟩
  obtain ⟨a, ha⟩ := fit_mem h.2 x hx
  unfold stOk at ha
  simp only [Bool.and_eq_true, decide_eq_true_eq, Bool.or_eq_true, beq_iff_eq] at ha
  exact ha.2.2.2.1
theorem dir_len {d : api_Directory} (h : dirOk d = true) : d.Kinds.length ≤ 24 := by simp [dirOk] at h; omega
theorem oway_body {s : List api_Steward} (hl : s.length ≤ 120) (t p : Int) (out : List Int) (ho : out.length ≤ 100) : owners_Way_l0 s t (p, out) = some (if (p != -1 && !(out.contains p)) = true then .go (ofP s p t, out ++ [p]) else .out out) := by
  unfold owners_Way_l0
  simp only [contains_sp (show out.length ≤ 1000000 by omega), oof_sp (show s.length ≤ 1000000 by omega), Option.bind_some]
  have hk : ck (out.length + [p].length ≤ 268435456) = some () := ck_t (by simp; omega)
  by_cases h1 : p = -1
  · subst h1; simp
  · rw [if_pos (by simpa using h1)]
    by_cases h2 : p ∈ out
    · simp [h1, h2]
    · simp [h1, h2] at hk ⊢; rw [hk]; rfl
theorem rway_body {s : List api_Steward} (hl : s.length ≤ 120) (t p : Int) (out : List Int) (ho : out.length ≤ 100) : ref26_Way_l0 s t (p, out) = some (if (p != -1 && !(out.contains p)) = true then .go (ofP s p t, out ++ [p]) else .out out) := by
  unfold ref26_Way_l0
  simp only [has_sp (show out.length ≤ 1000000 by omega), rof_sp (show s.length ≤ 1000000 by omega), Option.bind_some]
  have hk : ck (out.length + [p].length ≤ 268435456) = some () := ck_t (by simp; omega)
  by_cases h1 : p = -1
  · subst h1; simp
  · rw [if_pos (by simpa using h1)]
    by_cases h2 : p ∈ out
    · simp [h1, h2]
    · simp [h1, h2] at hk ⊢; rw [hk]; rfl
theorem way_sp {d : api_Directory} {s : List api_Steward} (hd : dirOk d = true) (hs : stewOk d s = true) {a : Int} (ha : existsB d a = true) (t : Int) : owners_Way d s a t = some (wayS s a t) ∧ ref26_Way d s a t = some (wayS s a t) ∧ (wayS s a t).length ≤ 24 ∧ (wayS s a t)[0]? = some a := by
  obtain ⟨hl, hm⟩ := stew_mem hs
  have hk := dir_len hd
  have A := way_loop (t := t) (body := owners_Way_l0 s t) hk hm (oway_body hl t) 25 a [] (.inr ha) List.nodup_nil (fun x hx => by cases hx) rfl
  have B := way_loop (t := t) (body := ref26_Way_l0 s t) hk hm (rway_body hl t) 25 a [] (.inr ha) List.nodup_nil (fun x hx => by cases hx) rfl
  refine ⟨?_, ?_, A.2.1, ?_⟩
  · unfold owners_Way owners_known
    rw [ocheck_sp, hd, hs, oexists_sp, ha]
    simp only [if_true, Option.bind_some, A.1, wayS]
    rfl
  · unfold ref26_Way
    rw [rocheck_sp, hd, hs, rexists_sp (by omega), ha]
    simp only [if_true, Option.bind_some, B.1, wayS]
    rfl
  · have ha0 := ex_nn ha
    have h1 : (a != -1 && !([] : List Int).contains a) = true := by simp; omega
    have e : wayS s a t = wayP s t 24 (ofP s a t) [a] := by
      unfold wayS wayP; rw [if_pos h1]; rfl
    have := (way_loop (t := t) (body := owners_Way_l0 s t) hk hm (oway_body hl t) 24 (ofP s a t) [a] (ofP_ok hm a t) (by simp) (fun x hx => by simp at hx; subst hx; exact ha) rfl).2.2
    rw [e]
    obtain ⟨r, hr⟩ := this
    rw [← hr]; rfl

def dlP (a : Int) : Int := if a < 1 then 0 else if 4 < a then 0 else ([40, 16, 4, 1] : List Int).getD (a - 1).toNat 0
theorem dl_sp (a : Int) : notice_Deadline a = some (dlP a) := rfl
theorem dl_bd (a : Int) : 0 ≤ dlP a ∧ dlP a ≤ 40 := by
  unfold dlP
  split
  · omega
  split
  · omega
  obtain rfl | rfl | rfl | rfl : a = 1 ∨ a = 2 ∨ a = 3 ∨ a = 4 := by omega
  all_goals decide
theorem dl_pos {a : Int} : 0 < dlP a ↔ 1 ≤ a ∧ a ≤ 4 := by
  unfold dlP
  split
  · omega
  split
  · omega
  obtain rfl | rfl | rfl | rfl : a = 1 ∨ a = 2 ∨ a = 3 ∨ a = 4 := by omega
  all_goals decide
def rightP (d : api_Directory) (prev : List Int) (x : api_Case) : Bool :=
  (decide (0 ≤ x.Case) && decide (x.Case < 16)) && (if x.Kind = 1 then !(prev.contains x.Case) && (decide (0 < dlP x.Level) && existsB d x.Owner) else if x.Kind = 2 ∨ x.Kind = 3 then prev.contains x.Case && (decide (x.Level = 0) && decide (x.Owner = 0)) else false)
theorem right_sp {d : api_Directory} {prev : List Int} {m : List (Int × Bool)} (hm : ∀ c, (mget inE m c).getD false = prev.contains c) (x : api_Case) : notice_right d x m = some (rightP d prev x) := by
  unfold notice_right rightP notice_right_j0
  simp only [Option.bind_some, dl_sp, hm, existsB]
  generalize dlP x.Level = q
  generalize prev.contains x.Case = b
  grind
def casesB (d : api_Directory) : List Int → Int → List api_Case → Bool
  | _, _, [] => true
  | prev, last, x :: l => (decide (last ≤ x.Time) && decide (x.Time ≤ maxT) && rightP d prev x) && casesB d (prev ++ [x.Case]) x.Time l
theorem ccheck_loop {d : api_Directory} {l : List api_Case} (hl : l.length ≤ 1000000) : ∀ (n i : Nat) (last : Int) (m : List (Int × Bool)), i + n = l.length → (∀ c, (mget inE m c).getD false = ((l.take i).map (·.Case)).contains c) →
    iter (notice_Check_l0 l d) (last, (i : Int), m) = some (if casesB d ((l.take i).map (·.Case)) last (l.drop i) = true then .inl () else .inr 43) := fun n => by
  induction n with
  | zero =>
    intro i last m h hm
    have : i = l.length := by omega
    subst this
    rw [List.drop_length]
    refine iter_out ?_
    unfold notice_Check_l0
    rw [if_neg (by simp)]; rfl
  | succ n ih =>
    intro i last m h hm
    have hi : i < l.length := by omega
    have e : notice_Check_l0 l d (last, (i : Int), m) = some (if (decide (last ≤ l[i].Time) && decide (l[i].Time ≤ maxT) && rightP d ((l.take i).map (·.Case)) l[i]) = true then .go (l[i].Time, ((i + 1 : Nat) : Int), mset inE m l[i].Case true) else .out (.inr 43)) := by
      unfold notice_Check_l0
      rw [if_pos (by simp <;> omega)]
      simp only
      rw [idx_lt hi, w64 (by omega) (by omega)]
      simp only [Option.bind_some, right_sp hm, maxT]
      generalize rightP d ((l.take i).map (·.Case)) l[i] = b
      grind
    rw [List.drop_eq_getElem_cons hi, casesB]
    by_cases hc : (decide (last ≤ l[i].Time) && decide (l[i].Time ≤ maxT) && rightP d ((l.take i).map (·.Case)) l[i]) = true
    · rw [if_pos hc] at e
      have et : (l.take (i + 1)).map (·.Case) = (l.take i).map (·.Case) ++ [l[i].Case] := by rw [List.take_succ_eq_append_getElem hi, List.map_append]; rfl
      rw [iter_go e, ih (i + 1) _ _ (by omega), et, hc]
      · simp
      · intro c
        rw [et]
        obtain ⟨g1, g2⟩ := mget_mset inE_eq m l[i].Case true c
        by_cases h2 : c = l[i].Case
        · rw [g1 h2, h2]; simp
        · rw [g2 h2, hm c]; simp [h2]
    · rw [if_neg hc] at e
      rw [iter_out e, Bool.not_eq_true _ |>.mp hc]; rfl
def casesOk (d : api_Directory) (l : List api_Case) : Bool := decide (l.length ≤ 100) && casesB d [] 0 l
theorem ncheck_sp (d : api_Directory) (l : List api_Case) : notice_Check d l = some (if dirOk d = true then (if casesOk d l = true then 0 else 43) else 30) := by
  unfold notice_Check casesOk
  rw [dcheck_sp]
  simp only [Option.bind_some]
  by_cases h1 : dirOk d = true
  case neg => simp [h1]
  by_cases h2 : l.length ≤ 100
  case neg => simp [h1, h2]; intro h; omega
  rw [if_pos h1, if_neg (by decide), if_neg (by simp <;> omega)]
  have := ccheck_loop (d := d) (show l.length ≤ 1000000 by omega) l.length 0 0 [] (by omega) (fun c => rfl)
  rw [show ((0 : Int), (0 : Int), ([] : List (Int × Bool))) = ((0 : Int), ((0 : Nat) : Int), []) from rfl, this]
  simp only [h1, h2, decide_true, Bool.true_and, if_true, List.take_zero, List.map_nil, List.drop_zero]
  cases casesB d [] 0 l <;> simp
theorem first_sp (a b c : Int) : notice_first [a, b, c] = some (if a ≠ 0 then a else if b ≠ 0 then b else c) := by
  unfold notice_first
  have hb : ∀ (i : Nat) (h : i < [a, b, c].length), notice_first_l0 [a, b, c] (i : Int) = some (if ([a, b, c][i] != 0) = true then .out (.inr [a, b, c][i]) else .go (((i + 1 : Nat) : Int))) := fun i h => by
    unfold notice_first_l0
    rw [if_pos (by simp at h ⊢; omega), idx_lt h, w64 (by simp at h; omega) (by simp at h; omega)]
    simp only [Option.bind_some]
    split <;> rfl
  have h0 := hb 0 (by simp)
  have h1 := hb 1 (by simp)
  have h2 := hb 2 (by simp)
  have h3 : notice_first_l0 [a, b, c] ((3 : Nat) : Int) = some (.out (.inl ())) := by
    unfold notice_first_l0
    rw [if_neg (by simp)]
  simp only [List.getElem_cons_zero, List.getElem_cons_succ] at h0 h1 h2
  rw [show (0 : Int) = ((0 : Nat) : Int) from rfl]
  by_cases ha : a = 0
  case neg => rw [if_pos (by simpa using ha)] at h0; rw [iter_out h0]; simp [ha]
  rw [if_neg (by simpa using ha)] at h0
  rw [iter_go h0]
  by_cases hb' : b = 0
  case neg => rw [if_pos (by simpa using hb')] at h1; rw [iter_out h1]; simp [ha, hb']
  rw [if_neg (by simpa using hb')] at h1
  rw [iter_go h1]
  by_cases hc : c = 0
  case neg => rw [if_pos (by simpa using hc)] at h2; rw [iter_out h2]; simp [ha, hb']
  rw [if_neg (by simpa using hc)] at h2
  rw [iter_go h2, iter_out h3]; simp [ha, hb', hc]
def ansP (l : List api_Case) (n t : Int) : Bool := l.any fun x => x.Case == n && decide (x.Time ≤ t)
theorem answered_sp {l : List api_Case} (hl : l.length ≤ 1000000) (n t : Int) : notice_answered l n t = some (ansP l n t) := by
  unfold notice_answered slices_ContainsFunc_api_Case_at_notice_answered_1_bb slices_IndexFunc_api_Case_at_notice_answered_1_bb
  have key : ∀ (m i : Nat), i + m = l.length → ((l.drop i).any (fun x => x.Case == n && decide (x.Time ≤ t)) = false → iter (slices_IndexFunc_api_Case_at_notice_answered_1_bb_l0 l) ((i : Int), n, t) = some (.inl (n, t))) ∧
      ((l.drop i).any (fun x => x.Case == n && decide (x.Time ≤ t)) = true → ∃ k : Nat, iter (slices_IndexFunc_api_Case_at_notice_answered_1_bb_l0 l) ((i : Int), n, t) = some (.inr ((k : Int), n, t))) := fun m => by
    induction m with
    | zero =>
      intro i h
      have : i = l.length := by omega
      subst this
      rw [List.drop_length]
      refine ⟨fun _ => iter_out ?_, fun h => by simp at h⟩
      unfold slices_IndexFunc_api_Case_at_notice_answered_1_bb_l0
      rw [if_neg (by simp)]
    | succ m ih =>
      intro i h
      have hi : i < l.length := by omega
      have e : slices_IndexFunc_api_Case_at_notice_answered_1_bb_l0 l ((i : Int), n, t) = some (if (l[i].Case == n && decide (l[i].Time ≤ t)) = true then .out (.inr ((i : Int), n, t)) else .go (((i + 1 : Nat) : Int), n, t)) := by
        unfold slices_IndexFunc_api_Case_at_notice_answered_1_bb_l0
        rw [if_pos (by simp <;> omega)]
        simp only
        rw [idx_lt hi, w64 (by omega) (by omega)]
        simp only [Option.bind_some, notice_answered_1_cbb]
        split <;> rfl
      rw [List.drop_eq_getElem_cons hi, List.any_cons]
      cases hp : (l[i].Case == n && decide (l[i].Time ≤ t)) with
      | true =>
        rw [hp, if_pos rfl] at e
        exact ⟨fun h => by simp at h, fun _ => ⟨i, iter_out e⟩⟩
      | false =>
        rw [hp, if_neg (by decide)] at e
        rw [iter_go e]
        simpa using ih (i + 1) (by omega)
  obtain ⟨k1, k2⟩ := key l.length 0 (by omega)
  rw [List.drop_zero] at k1 k2
  unfold ansP
  rw [show (0 : Int) = ((0 : Nat) : Int) from rfl]
  cases h : l.any (fun x => x.Case == n && decide (x.Time ≤ t)) with
  | false => rw [k1 h]; rfl
  | true =>
    obtain ⟨k, hk⟩ := k2 h
    rw [hk]
    simp only [Option.bind_some]
    rw [decide_eq_true (by omega)]

def toP (w : List Int) (step : Int) : Int := (idx w (if (w.length : Int) - 1 < step then (w.length : Int) - 1 else step)).getD 0
/-- the notices behind the first one -/
def upP (c : api_Calendar) (s : List api_Steward) (rest : List api_Case) (x : api_Case) (until_ : Int) : Nat → Int → Int → List api_Notice × Int
  | 0, _, _ => ([], 0)
  | n + 1, step, t =>
    if (addS c t (dlP x.Level)).2 ≠ 0 then ([], (addS c t (dlP x.Level)).2)
    else if until_ < (addS c t (dlP x.Level)).1 ∨ ansP rest x.Case (addS c t (dlP x.Level)).1 = true then ([], 0)
    else if (upP c s rest x until_ n (step + 1) (addS c t (dlP x.Level)).1).2 ≠ 0 then ([], (upP c s rest x until_ n (step + 1) (addS c t (dlP x.Level)).1).2)
    else (⟨(addS c t (dlP x.Level)).1, x.Case, toP (wayS s x.Owner (addS c t (dlP x.Level)).1) step, step⟩ :: (upP c s rest x until_ n (step + 1) (addS c t (dlP x.Level)).1).1, 0)
def oneP (c : api_Calendar) (s : List api_Steward) (rest : List api_Case) (x : api_Case) (until_ : Int) : List api_Notice × Int :=
  if until_ < x.Time then ([], 0)
  else if (upP c s rest x until_ 3 1 x.Time).2 ≠ 0 then ([], (upP c s rest x until_ 3 1 x.Time).2)
  else (⟨x.Time, x.Case, x.Owner, 0⟩ :: (upP c s rest x until_ 3 1 x.Time).1, 0)
theorem upP_len (c : api_Calendar) (s : List api_Steward) (rest : List api_Case) (x : api_Case) (until_ : Int) : ∀ (n : Nat) (step t : Int), (upP c s rest x until_ n step t).1.length ≤ n
  | 0, _, _ => by simp [upP]
  | n + 1, step, t => by
    have := upP_len c s rest x until_ n (step + 1) (addS c t (dlP x.Level)).1
    unfold upP
    split
    · simp
    split
    · simp
    split
    · simp
    · simp; omega
theorem oneP_len (c : api_Calendar) (s : List api_Steward) (rest : List api_Case) (x : api_Case) (until_ : Int) : (oneP c s rest x until_).1.length ≤ 4 := by
  have := upP_len c s rest x until_ 3 1 x.Time
  unfold oneP
  split
  · simp
  split
  · simp
  · simp; omega
theorem toP_sp {w : List Int} (h : w.length ≤ 24) (hp : 0 < w.length) {step : Int} (h0 : 0 ≤ step) : idx w (if IntKind.i64.wrap ((w.length : Int) - 1) < step then IntKind.i64.wrap ((w.length : Int) - 1) else step) = some (toP w step) := by
  rw [w64 (by omega) (by omega)]
  unfold toP
  split
  · rw [idx_toNat (by omega) (by omega)]; rfl
  · rw [idx_toNat (by omega) (by omega)]; rfl
theorem idx_last {α : Type} {out : List α} {y : α} (h : out.getLast? = some y) : idx out ((out.length : Int) - 1) = some y := by
  have hp : 0 < out.length := by
    cases out with
    | nil => cases h
    | cons a l => simp
  rw [List.getLast?_eq_getElem?] at h
  unfold idx
  rw [if_pos (by omega), show ((out.length : Int) - 1).toNat = out.length - 1 by omega]
  exact h
theorem all_loop {c : api_Calendar} {d : api_Directory} {s : List api_Steward} {l : List api_Case} {k : Nat} (hk : k < l.length) (hl : l.length ≤ 100) (hd : dirOk d = true) (hs : stewOk d s = true) {x : api_Case} (hx : existsB d x.Owner = true) (until_ : Int) :
    ∀ (n : Nat) (step : Int) (out : List api_Notice) (t : Int), (step + n = 4) → out.length = step.toNat → 1 ≤ step → (∃ y, out.getLast? = some y ∧ y.Time = t) →
      iter (notice_all_l0 x c until_ (k : Int) l d s) (step, out) = some (if (upP c s (l.drop (k + 1)) x until_ n step t).2 ≠ 0 then .inr ([], (upP c s (l.drop (k + 1)) x until_ n step t).2) else .inl (out ++ (upP c s (l.drop (k + 1)) x until_ n step t).1)) := fun n => by
  induction n with
  | zero =>
    intro step out t h1 h2 h3 h4
    have : step = 4 := by omega
    subst this
    refine iter_out ?_
    unfold notice_all_l0
    rw [if_neg (by simp)]
    simp [upP]
  | succ n ih =>
    intro step out t h1 h2 h3 ⟨y, hy, ht⟩
    have hol : (out.length : Int) = step := by omega
    have e : notice_all_l0 x c until_ (k : Int) l d s (step, out) = some (if (addS c t (dlP x.Level)).2 ≠ 0 then .out (.inr ([], (addS c t (dlP x.Level)).2)) else if until_ < (addS c t (dlP x.Level)).1 ∨ ansP (l.drop (k + 1)) x.Case (addS c t (dlP x.Level)).1 = true then .out (.inl out)
        else .go (step + 1, out ++ [⟨(addS c t (dlP x.Level)).1, x.Case, toP (wayS s x.Owner (addS c t (dlP x.Level)).1) step, step⟩])) := by
      unfold notice_all_l0
      rw [if_pos (by simp <;> omega)]
      simp only
      rw [w64 (x := step - 1) (by omega) (by omega), w64 (x := step + 1) (by omega) (by omega), w64 (x := (k : Int) + 1) (by omega) (by omega), ck_t (by omega), ← hol, idx_last hy]
      simp only [Option.bind_some, dl_sp, add_sp, ht]
      generalize hg : addS c t (dlP x.Level) = a
      by_cases ha : a.2 = 0
      case neg => rw [if_pos (show (a.2 != 0) = true by simpa using ha), if_pos ha]
      have ha2 : ¬ (a.2 ≠ 0) := by simp [ha]
      rw [if_neg (show ¬ (a.2 != 0) = true by simp [ha]), if_neg ha2]
      by_cases hu : until_ < a.1
      · rw [if_pos (show decide (until_ < a.1) = true by simpa using hu)]
        simp [hu]
      rw [if_neg (show ¬ decide (until_ < a.1) = true by simpa using hu), ck_t (by omega), show ((k : Int) + 1).toNat = k + 1 by omega]
      simp only [Option.bind_some]
      rw [answered_sp (by simp; omega)]
      simp only [Option.bind_some]
      cases hq : ansP (l.drop (k + 1)) x.Case a.1 with
      | true => simp
      | false =>
        rw [if_neg (by decide), if_neg (by simp [hu])]
        obtain ⟨w1, _, w2, w3⟩ := way_sp hd hs hx a.1
        rw [w1]
        simp only [Option.bind_some]
        have hp : 0 < (wayS s x.Owner a.1).length := by
          cases hw : wayS s x.Owner a.1 with
          | nil => rw [hw] at w3; cases w3
          | cons _ _ => simp
        rw [toP_sp w2 hp (by omega)]
        simp only [Option.bind_some]
        rw [ck_t (by simp; omega)]
        rfl
    unfold upP
    generalize hg : addS c t (dlP x.Level) = a at e ⊢
    by_cases ha : a.2 = 0
    case neg => rw [if_pos ha] at e; rw [iter_out e]; simp [ha]
    have ha2 : ¬ (a.2 ≠ 0) := by simp [ha]
    rw [if_neg ha2] at e
    by_cases hu : until_ < a.1 ∨ ansP (l.drop (k + 1)) x.Case a.1 = true
    · rw [if_pos hu] at e; rw [iter_out e]; simp [ha, hu]
    rw [if_neg hu] at e
    rw [iter_go e, ih (step + 1) _ a.1 (by omega) (by simp; omega) (by omega) ⟨_, by rw [List.getLast?_concat], rfl⟩]
    rw [if_neg ha2, if_neg hu]
    generalize upP c s (l.drop (k + 1)) x until_ n (step + 1) a.1 = r
    by_cases hr : r.2 = 0
    · simp [hr]
    · simp [hr]
theorem all_sp {c : api_Calendar} {d : api_Directory} {s : List api_Steward} {l : List api_Case} {k : Nat} (hk : k < l.length) (hl : l.length ≤ 100) (hd : dirOk d = true) (hs : stewOk d s = true) (hx : existsB d l[k].Owner = true) (until_ : Int) :
    notice_all c d s l (k : Int) until_ = some (oneP c s (l.drop (k + 1)) l[k] until_) := by
  unfold notice_all oneP
  rw [idx_lt hk]
  generalize l[k] = x at *
  simp only [Option.bind_some]
  by_cases hu : until_ < x.Time
  · rw [if_pos (by simpa using hu), if_pos hu]
  rw [if_neg (by simpa using hu), if_neg hu, all_loop hk hl hd hs hx until_ 3 1 _ x.Time (by omega) rfl (by omega) ⟨_, rfl, rfl⟩]
  generalize upP c s (l.drop (k + 1)) x until_ 3 1 x.Time = r
  by_cases hr : r.2 = 0
  · simp [hr]
  · simp [hr]
/-- lists one behind the other, or the first error -/
def catP {α : Type} (f : Nat → List α × Int) : List Nat → List α × Int
  | [] => ([], 0)
  | k :: ks => if (f k).2 ≠ 0 then ([], (f k).2) else if (catP f ks).2 ≠ 0 then ([], (catP f ks).2) else ((f k).1 ++ (catP f ks).1, 0)
/-- the openings -/
def opK (l : List api_Case) (k : Nat) : Bool := (l[k]?.map (·.Kind)).getD 0 == 1
def opensP (l : List api_Case) : List Nat := (List.range l.length).filter (opK l)
def casP (c : api_Calendar) (s : List api_Steward) (l : List api_Case) (until_ : Int) (k : Nat) : List api_Notice × Int := match l[k]? with | some x => oneP c s (l.drop (k + 1)) x until_ | none => ([], 0)
theorem casesB_get {d : api_Directory} : ∀ {l : List api_Case} {prev : List Int} {last : Int}, casesB d prev last l = true → ∀ (i : Nat) (h : i < l.length), rightP d (prev ++ (l.take i).map (·.Case)) l[i] = true ∧ prevT (·.Time) last l i ≤ l[i].Time ∧ l[i].Time ≤ maxT
  | [], _, _, _, i, h => absurd h (Nat.not_lt_zero _)
  | x :: l, prev, last, hc, i, h => by
    simp only [casesB, Bool.and_eq_true, decide_eq_true_eq] at hc
    cases i with
    | zero => exact ⟨by simpa using hc.1.2, hc.1.1.1, hc.1.1.2⟩
    | succ i =>
      obtain ⟨g1, g2, g3⟩ := casesB_get hc.2 i (by simpa using h)
      refine ⟨by simpa using g1, ?_, g3⟩
      have e : prevT (·.Time) last (x :: l) (i + 1) = prevT (·.Time) x.Time l i := by
        unfold prevT
        cases i with
        | zero => simp
        | succ i =>
          have h4 : i < l.length := by simp at h; omega
          simp [h4]
      rw [e]; exact g2
theorem range_split (n i : Nat) (h : i < n) : (List.range n).drop i = i :: (List.range n).drop (i + 1) := by
  rw [List.drop_eq_getElem_cons (by simpa using h)]; simp
theorem All_loop {c : api_Calendar} {d : api_Directory} {s : List api_Steward} {l : List api_Case} (hd : dirOk d = true) (hs : stewOk d s = true) (hl : casesOk d l = true) (until_ : Int) :
    ∀ (n i : Nat) (acc : List api_Notice), i + n = l.length → acc.length ≤ 4 * i →
      iter (notice_All_l0 l c d s until_) ((i : Int), acc) = some (if (catP (casP c s l until_) (((List.range l.length).drop i).filter (opK l))).2 ≠ 0 then .inr ([], (catP (casP c s l until_) (((List.range l.length).drop i).filter (opK l))).2) else .inl (acc ++ (catP (casP c s l until_) (((List.range l.length).drop i).filter (opK l))).1)) := fun n => by
  have hl' := hl
  unfold casesOk at hl'
  simp only [Bool.and_eq_true, decide_eq_true_eq] at hl'
  obtain ⟨hn, hc⟩ := hl'
  induction n with
  | zero =>
    intro i acc h ha
    have : i = l.length := by omega
    subst this
    refine iter_out ?_
    unfold notice_All_l0
    rw [if_neg (by simp), List.drop_eq_nil_of_le (by simp)]
    simp [catP]
  | succ n ih =>
    intro i acc h ha
    have hi : i < l.length := by omega
    rw [range_split _ _ hi, List.filter_cons]

    by_cases hk : l[i].Kind = 1
    · have hx : existsB d l[i].Owner = true := by
        have := (casesB_get hc i hi).1
        unfold rightP at this
        rw [if_pos hk] at this
        simp only [Bool.and_eq_true] at this
        exact this.2.2.2
      have e : notice_All_l0 l c d s until_ ((i : Int), acc) = some (if (oneP c s (l.drop (i + 1)) l[i] until_).2 ≠ 0 then .out (.inr ([], (oneP c s (l.drop (i + 1)) l[i] until_).2)) else .go (((i + 1 : Nat) : Int), acc ++ (oneP c s (l.drop (i + 1)) l[i] until_).1)) := by
        unfold notice_All_l0
        rw [if_pos (by simp <;> omega)]
        simp only
        rw [idx_lt hi, w64 (by omega) (by omega), all_sp hi (by omega) hd hs hx until_]
        have := oneP_len c s (l.drop (i + 1)) l[i] until_
        generalize oneP c s (l.drop (i + 1)) l[i] until_ = r at *
        simp only [Option.bind_some]
        rw [if_neg (show ¬ (l[i].Kind != 1) = true by simp [hk])]
        by_cases hr : r.2 = 0
        · simp only [hr]
          rw [ck_t (by omega)]
          simp
        · simp [hr]
      rw [if_pos (show opK l i = true by simp [opK, hi, hk])]
      simp only [catP, casP, List.getElem?_eq_getElem hi]
      have hlen := oneP_len c s (l.drop (i + 1)) l[i] until_
      generalize oneP c s (l.drop (i + 1)) l[i] until_ = r at *
      by_cases hr : r.2 = 0
      · have hr2 : ¬ (r.2 ≠ 0) := by simp [hr]
        rw [if_neg hr2] at e
        rw [iter_go e, ih (i + 1) _ (by omega) (by simp; omega)]
        rw [if_neg hr2]
        generalize catP _ _ = q
        by_cases hq : q.2 = 0
        · simp [hq]
        · simp [hq]
      · rw [if_pos hr] at e
        rw [iter_out e]; simp [hr]
    · have e : notice_All_l0 l c d s until_ ((i : Int), acc) = some (.go (((i + 1 : Nat) : Int), acc)) := by
        unfold notice_All_l0
        rw [if_pos (by simp <;> omega)]
        simp only
        rw [idx_lt hi, w64 (by omega) (by omega)]
        simp [hk]
      rw [iter_go e, ih (i + 1) _ (by omega) (by omega), if_neg (show ¬ opK l i = true by simp [opK, hi, hk])]

theorem upP_get (c : api_Calendar) (s : List api_Steward) (rest : List api_Case) (x : api_Case) (until_ : Int) : ∀ (n : Nat) (step t : Int), (upP c s rest x until_ n step t).1.Pairwise (fun a b => a.Step < b.Step) ∧ ∀ y ∈ (upP c s rest x until_ n step t).1, y.Case = x.Case ∧ step ≤ y.Step
  | 0, _, _ => by simp [upP]
  | n + 1, step, t => by
    obtain ⟨h1, h2⟩ := upP_get c s rest x until_ n (step + 1) (addS c t (dlP x.Level)).1
    unfold upP
    split
    · simp
    split
    · simp
    split
    · simp
    · refine ⟨.cons (fun y hy => ?_) h1, fun y hy => ?_⟩
      · have := (h2 y hy).2; simp only; omega
      · rcases List.mem_cons.1 hy with rfl | hy
        · exact ⟨rfl, Int.le_refl _⟩
        · have := h2 y hy; exact ⟨this.1, by omega⟩
theorem oneP_get (c : api_Calendar) (s : List api_Steward) (rest : List api_Case) (x : api_Case) (until_ : Int) : (oneP c s rest x until_).1.Pairwise (fun a b => a.Step < b.Step) ∧ ∀ y ∈ (oneP c s rest x until_).1, y.Case = x.Case ∧ 0 ≤ y.Step := by
  obtain ⟨h1, h2⟩ := upP_get c s rest x until_ 3 1 x.Time
  unfold oneP
  split
  · simp
  split
  · simp
  · refine ⟨.cons (fun y hy => ?_) h1, fun y hy => ?_⟩
    · have := (h2 y hy).2; simp only; omega
    · rcases List.mem_cons.1 hy with rfl | hy
      · exact ⟨rfl, Int.le_refl _⟩
      · have := h2 y hy; exact ⟨this.1, by omega⟩
theorem pair_uniq {α : Type} {r : α → α → Prop} {l : List α} (h : l.Pairwise r) {a b : α} (ha : a ∈ l) (hb : b ∈ l) (h1 : ¬ r a b) (h2 : ¬ r b a) : a = b := by
  obtain ⟨i, hi, rfl⟩ := List.getElem_of_mem ha
  obtain ⟨j, hj, rfl⟩ := List.getElem_of_mem hb
  rcases Nat.lt_trichotomy i j with h3 | h3 | h3
  · exact absurd (List.pairwise_iff_getElem.1 h i j hi hj h3) h1
  · subst h3; rfl
  · exact absurd (List.pairwise_iff_getElem.1 h j i hj hi h3) h2
theorem catP_mem {α : Type} {f : Nat → List α × Int} : ∀ {ks : List Nat} {a : α}, a ∈ (catP f ks).1 → ∃ k ∈ ks, a ∈ (f k).1
  | [], a, h => by simp [catP] at h
  | k :: ks, a, h => by
    unfold catP at h
    split at h
    · simp at h
    split at h
    · simp at h
    · rcases List.mem_append.1 h with h | h
      · exact ⟨k, List.mem_cons_self .., h⟩
      · obtain ⟨k', h1, h2⟩ := catP_mem h
        exact ⟨k', List.mem_cons_of_mem _ h1, h2⟩
theorem catP_ok {α : Type} {f : Nat → List α × Int} : ∀ {ks : List Nat}, (catP f ks).2 = 0 → (∀ k ∈ ks, (f k).2 = 0) ∧ (catP f ks).1 = (ks.map fun k => (f k).1).flatten
  | [], _ => ⟨fun k h => by simp at h, rfl⟩
  | k :: ks, h => by
    unfold catP at h ⊢
    by_cases h1 : (f k).2 = 0
    · by_cases h2 : (catP f ks).2 = 0
      · obtain ⟨g1, g2⟩ := catP_ok h2
        refine ⟨fun j hj => ?_, ?_⟩
        · rcases List.mem_cons.1 hj with rfl | hj
          · exact h1
          · exact g1 j hj
        · simp [h1, h2, g2]
      · simp [h1, h2] at h
    · simp [h1] at h
theorem catP_of {α : Type} {f : Nat → List α × Int} : ∀ {ks : List Nat}, (∀ k ∈ ks, (f k).2 = 0) → (catP f ks).2 = 0
  | [], _ => rfl
  | k :: ks, h => by
    unfold catP
    have h1 := h k (List.mem_cons_self ..)
    have h2 := catP_of fun j hj => h j (List.mem_cons_of_mem _ hj)
    simp [h1, h2]
theorem catP_len {α : Type} {f : Nat → List α × Int} {m : Nat} (hf : ∀ k, (f k).1.length ≤ m) : ∀ (ks : List Nat), (catP f ks).1.length ≤ m * ks.length
  | [] => by simp [catP]
  | k :: ks => by
    have h1 := hf k
    have h2 := catP_len hf ks
    unfold catP
    split
    · simp
    split
    · simp
    · simp only [List.length_append, List.length_cons, Nat.mul_succ]; omega
theorem opens_mem {l : List api_Case} {k : Nat} : k ∈ opensP l ↔ ∃ h : k < l.length, l[k].Kind = 1 := by
  unfold opensP opK
  rw [List.mem_filter, List.mem_range]
  constructor
  · rintro ⟨h1, h2⟩
    rw [List.getElem?_eq_getElem h1] at h2
    exact ⟨h1, by simpa using h2⟩
  · rintro ⟨h1, h2⟩
    exact ⟨h1, by rw [List.getElem?_eq_getElem h1]; simpa using h2⟩
theorem opened_once {d : api_Directory} {l : List api_Case} (hc : casesB d [] 0 l = true) {i j : Nat} (hi : i < l.length) (hj : j < l.length) (h2 : l[j].Kind = 1) (hij : i < j) : l[i].Case ≠ l[j].Case := by
  have := (casesB_get hc j hj).1
  unfold rightP at this
  rw [if_pos h2] at this
  simp only [Bool.and_eq_true] at this
  have h3 := this.2.1
  intro e
  have hm : l[j].Case ∈ [] ++ (l.take j).map (·.Case) := by
    rw [← e, List.nil_append]
    exact List.mem_map.2 ⟨l[i], List.mem_take_iff_getElem.2 ⟨i, by omega, rfl⟩, rfl⟩
  simp only [Bool.not_eq_true'] at h3
  rw [List.contains_iff_mem.2 hm] at h3
  cases h3
theorem opens_inj {d : api_Directory} {l : List api_Case} (hc : casesB d [] 0 l = true) {i j : Nat} (hi : i < l.length) (hj : j < l.length) (h1 : l[i].Kind = 1) (h2 : l[j].Kind = 1) (he : l[i].Case = l[j].Case) : i = j := by
  rcases Nat.lt_trichotomy i j with h3 | h3 | h3
  · exact absurd he (opened_once hc hi hj h2 h3)
  · exact h3
  · exact absurd he.symm (opened_once hc hj hi h1 h3)
theorem casP_len (c : api_Calendar) (s : List api_Steward) (l : List api_Case) (until_ : Int) (k : Nat) : (casP c s l until_ k).1.length ≤ 4 := by
  unfold casP
  split
  · exact oneP_len ..
  · simp
theorem cat_uniq {d : api_Directory} {l : List api_Case} (hc : casesB d [] 0 l = true) (c : api_Calendar) (s : List api_Steward) (until_ : Int) {a b : api_Notice} (ha : a ∈ (catP (casP c s l until_) (opensP l)).1) (hb : b ∈ (catP (casP c s l until_) (opensP l)).1)
    (h1 : a.Case = b.Case) (h2 : a.Step = b.Step) : a = b := by
  obtain ⟨i, hi, ha⟩ := catP_mem ha
  obtain ⟨j, hj, hb⟩ := catP_mem hb
  obtain ⟨hi, ki⟩ := opens_mem.1 hi
  obtain ⟨hj, kj⟩ := opens_mem.1 hj
  simp only [casP, List.getElem?_eq_getElem hi] at ha
  simp only [casP, List.getElem?_eq_getElem hj] at hb
  have e1 := ((oneP_get c s (l.drop (i + 1)) l[i] until_).2 a ha).1
  have e2 := ((oneP_get c s (l.drop (j + 1)) l[j] until_).2 b hb).1
  have : i = j := opens_inj hc hi hj ki kj (by rw [← e1, ← e2, h1])
  subst this
  exact pair_uniq (oneP_get c s (l.drop (i + 1)) l[i] until_).1 ha hb (by omega) (by omega)
def sortN (l : List api_Notice) : List api_Notice := l.mergeSort fun x y => !decide (cfN y x < 0)
def allP (c : api_Calendar) (s : List api_Steward) (l : List api_Case) (until_ : Int) : List api_Notice × Int :=
  if (catP (casP c s l until_) (opensP l)).2 ≠ 0 then ([], (catP (casP c s l until_) (opensP l)).2) else (sortN (catP (casP c s l until_) (opensP l)).1, 0)
def AllP (c : api_Calendar) (d : api_Directory) (s : List api_Steward) (l : List api_Case) (until_ : Int) : List api_Notice × Int :=
  if ¬ OkC c then ([], 42) else if dirOk d = false then ([], 30) else if stewOk d s = false then ([], 33) else if casesOk d l = false then ([], 43) else if until_ < 0 ∨ maxT < until_ then ([], 2) else allP c s l until_
open Classical in
theorem All_sp (c : api_Calendar) (d : api_Directory) (s : List api_Steward) (l : List api_Case) (until_ : Int) : notice_All c d s l until_ = some (AllP c d s l until_) := by
  unfold notice_All AllP
  rw [check_sp, ocheck_sp, ncheck_sp]
  simp only [Option.bind_some]
  rw [first_sp]
  simp only [Option.bind_some]
  by_cases h1 : OkC c
  case neg => simp [h1]
  cases h2 : dirOk d with
  | false => simp [h1]
  | true =>
  cases h3 : stewOk d s with
  | false => simp [h1]
  | true =>
  cases h4 : casesOk d l with
  | false => simp [h1]
  | true =>
  simp only [h1, not_true_eq_false, if_true, if_false]
  by_cases h5 : until_ < 0 ∨ maxT < until_
  · have h5' : (decide (until_ < 0) || decide (1099511627776 < until_)) = true := by simpa [maxT] using h5
    simp [h5, h5']
  · have h5' : ¬ (decide (until_ < 0) || decide (1099511627776 < until_)) = true := by simpa [maxT] using h5
    have h4' := h4
    unfold casesOk at h4'
    simp only [Bool.and_eq_true, decide_eq_true_eq] at h4'
    have := All_loop (c := c) h2 h3 h4 until_ l.length 0 [] (by omega) (by simp)
    rw [List.drop_zero] at this
    rw [if_neg (show ¬ (((if (0 : Int) ≠ 0 then (0 : Int) else if (0 : Int) ≠ 0 then 0 else 0) != 0) = true) by decide), if_neg h5', show ((0 : Int), ([] : List api_Notice)) = (((0 : Nat) : Int), []) from rfl, this]
    rw [if_neg (show ¬ (true = false) by decide), if_neg (show ¬ (true = false) by decide), if_neg (show ¬ (true = false) by decide), if_neg h5]
    unfold allP
    show Option.bind (some (if (catP (casP c s l until_) (opensP l)).2 ≠ 0 then Sum.inr ([], (catP (casP c s l until_) (opensP l)).2) else Sum.inl ([] ++ (catP (casP c s l until_) (opensP l)).1))) _ = _
    by_cases hr : (catP (casP c s l until_) (opensP l)).2 = 0
    · have hr2 : ¬ (catP (casP c s l until_) (opensP l)).2 ≠ 0 := by simp [hr]
      rw [if_neg hr2, if_neg hr2]
      simp only [Option.bind_some, List.nil_append]
      unfold slices_SortFunc_api_Notice_vec0_at_notice_All_1
      rw [ck_t]
      · rfl
      · refine ⟨?_, fun x hx y hy h => ?_⟩
        · have h6 := catP_len (f := casP c s l until_) (m := 4) (casP_len c s l until_) (opensP l)
          have h7 : (opensP l).length ≤ l.length := by
            unfold opensP
            exact Nat.le_trans (List.length_filter_le _ _) (by simp)
          omega
        · obtain ⟨_, g1, g2⟩ := cfN_zero.1 h
          exact cat_uniq h4'.2 c s until_ hx hy g1 g2
    · rw [if_pos hr, if_pos hr]; rfl

theorem fit_of {α : Type} {p : Int → α → Bool} {t : α → Int} {q : α → Prop} (hp : ∀ last x, q x → last ≤ t x → p last x = true) : ∀ {l : List α} {last : Int}, (∀ x ∈ l, q x) → l.Pairwise (fun a b => t a ≤ t b) → (∀ x ∈ l, last ≤ t x) → fitB p t last l = true
  | [], _, _, _, _ => rfl
  | x :: l, last, h1, h2, h3 => by
    rw [List.pairwise_cons] at h2
    simp only [fitB, Bool.and_eq_true]
    exact ⟨hp last x (h1 x (List.mem_cons_self ..)) (h3 x (List.mem_cons_self ..)), fit_of hp (fun y hy => h1 y (List.mem_cons_of_mem _ hy)) h2.2 h2.1⟩
theorem pw_snoc {α : Type} {r : α → α → Prop} {l : List α} {x : α} (h : l.Pairwise r) (hx : ∀ y ∈ l, r y x) : (l ++ [x]).Pairwise r := by
  rw [List.pairwise_append]
  exact ⟨h, List.pairwise_singleton _ _, fun a ha b hb => by simp at hb; subst hb; exact hx a ha⟩
theorem all_snoc {α : Type} {q : α → Prop} {l : List α} {x : α} (h : ∀ y ∈ l, q y) (hx : q x) : ∀ y ∈ l ++ [x], q y := fun y hy => by
  rcases List.mem_append.1 hy with hy | hy
  · exact h y hy
  · simp at hy; subst hy; exact hx
theorem clock_spT {m : make_Tape} (h : TapeOk m) {n : Int} (h0 : 0 ≤ n) (hn : n ≤ 1000) : ∃ (l : List Int) (m' : make_Tape), make_Clock m n = some (l, m') ∧ TapeOk m' ∧ l.Pairwise (· ≤ ·) ∧ (∀ x ∈ l, 0 ≤ x ∧ x ≤ 3 + 2 * n) ∧ (l.length : Int) = n := by
  unfold make_Clock
  rw [next_spT h (by omega)]
  simp only [Option.bind_some]
  have hb := tnextV_bd m (n := 4) (by omega)
  have key : ∃ e, iter (make_Clock_l0 n) (tnextV m 4, 0, (tnextT m).L, (tnextT m).at_, []) = some e ∧ (TapeOk ⟨e.1, e.2.1⟩ ∧ e.2.2.Pairwise (· ≤ ·) ∧ (∀ x ∈ e.2.2, 0 ≤ x ∧ x ≤ 3 + 2 * n) ∧ (e.2.2.length : Int) = n) := by
    refine iter_ex (body := make_Clock_l0 n) (fun s => 0 ≤ s.2.1 ∧ s.2.1 ≤ n ∧ 0 ≤ s.1 ∧ s.1 ≤ 3 + 2 * s.2.1 ∧ TapeOk ⟨s.2.2.1, s.2.2.2.1⟩ ∧ s.2.2.2.2.Pairwise (· ≤ ·) ∧ (∀ x ∈ s.2.2.2.2, 0 ≤ x ∧ x ≤ s.1) ∧ (s.2.2.2.2.length : Int) = s.2.1) (fun s => (n - s.2.1).toNat) _ ?_ ⟨by simp, h0, hb.1, by simp only; omega, tnextT_ok h, .nil, by simp, by simp⟩
    rintro ⟨now, i, L, p, out⟩ ⟨g1, g2, g3, g4, g5, g6, g7, g8⟩
    simp only at g1 g2 g3 g4 g5 g6 g7 g8
    unfold make_Clock_l0
    simp only
    by_cases hi : i < n
    · left
      have hv := tnextV_bd ⟨L, p⟩ (n := 3) (by omega)
      rw [if_pos (by simpa using hi), next_spT g5 (by omega)]
      simp only [Option.bind_some]
      rw [w64 (x := i + 1) (by omega) (by omega), w64 (x := now + tnextV ⟨L, p⟩ 3) (by omega) (by omega), ck_t (by simp; omega)]
      refine ⟨_, rfl, ⟨by simp only; omega, by simp only; omega, by simp only; omega, by simp only; omega, tnextT_ok g5, pw_snoc g6 fun y hy => by have := g7 y hy; omega, all_snoc (fun y hy => by have := g7 y hy; simp only; omega) (by simp only; omega), by simp; omega⟩, by simp only; omega⟩
    · right
      rw [if_neg (by simpa using hi)]
      refine ⟨_, rfl, g5, g6, fun x hx => by have := g7 x hx; show 0 ≤ x ∧ x ≤ 3 + 2 * n; omega, by show (out.length : Int) = n; omega⟩
  obtain ⟨e, he, h1, h2, h3, h4⟩ := key
  rw [he]
  exact ⟨_, _, rfl, h1, h2, h3, h4⟩
structure MadeD (d : api_Directory) : Prop where
  ok : dirOk d = true
  few : 3 ≤ d.Kinds.length ∧ d.Kinds.length ≤ 7
  ev : ∀ x ∈ d.Events, 0 ≤ x.Time ∧ x.Time ≤ 25
def MemOk (ks : List Int) (x : api_Member) : Prop := (x.Kind = 1 ∨ x.Kind = 2) ∧ x.Time ≤ 25 ∧ existsB ⟨ks, []⟩ x.Principal = true ∧ groupB ⟨ks, []⟩ x.Group = true ∧ x.Principal ≠ x.Group
theorem evOk_of {ks : List Int} {ev : List api_Member} (last : Int) (x : api_Member) (h : MemOk ks x) (hl : last ≤ x.Time) : evOk ⟨ks, ev⟩ last x = true := by
  obtain ⟨h1, h2, h3, h4, h5⟩ := h
  unfold evOk
  have e3 : existsB ⟨ks, ev⟩ x.Principal = true := h3
  have e4 : groupB ⟨ks, ev⟩ x.Group = true := h4
  rw [e3, e4]
  simp only [Bool.true_and, Bool.and_eq_true, Bool.or_eq_true, decide_eq_true_eq, beq_iff_eq, maxT, Bool.not_eq_true', beq_eq_false_iff_ne]
  refine ⟨h1, hl, ?_, h5⟩
  have : x.Time ≤ 1099511627776 := by omega
  exact decide_eq_true this
theorem directory_spT {m : make_Tape} (h : TapeOk m) : ∃ (d : api_Directory) (m' : make_Tape), make_Directory m = some (d, m') ∧ TapeOk m' ∧ MadeD d := by
  have hb := tnextV_bd m (n := 6 - 2 + 1) (by omega)
  unfold make_Directory
  rw [between_spT h (by omega) (by omega) (by omega)]
  simp only [Option.bind_some]
  generalize tnextV m (6 - 2 + 1) = v at *
  have h1 := tnextT_ok h
  generalize tnextT m = m1 at *
  -- the kinds
  have key : ∃ e, iter make_Directory_l0 (2 + v, m1.L, m1.at_, [1]) = some e ∧ (TapeOk ⟨e.1, e.2.1⟩ ∧ (∀ k ∈ e.2.2, kindBad k = false) ∧ 3 ≤ e.2.2.length ∧ e.2.2.length ≤ 7) := by
    refine iter_ex (body := make_Directory_l0) (fun s => 0 ≤ s.1 ∧ TapeOk ⟨s.2.1, s.2.2.1⟩ ∧ (∀ k ∈ s.2.2.2, kindBad k = false) ∧ (s.2.2.2.length : Int) + s.1 = 3 + v) (fun s => s.1.toNat) _ ?_ ⟨by simp only; omega, h1, by simp; decide, by simp; omega⟩
    rintro ⟨i, L, p, out⟩ ⟨g1, g2, g3, g4⟩
    simp only at g1 g2 g3 g4
    unfold make_Directory_l0
    simp only
    by_cases hi : 0 < i
    · left
      obtain ⟨k, hk, e⟩ := pick_spT g2 (l := [2, 2, 1, 3]) (by simp)
      rw [if_pos (by simpa using hi), e]
      simp only [Option.bind_some]
      rw [w64 (x := i - 1) (by omega) (by omega), ck_t (by simp; omega)]
      refine ⟨_, rfl, ⟨by simp only; omega, tnextT_ok g2, all_snoc g3 ?_, by simp; omega⟩, by simp only; omega⟩
      simp only [List.mem_cons, List.not_mem_nil, or_false] at hk
      rcases hk with rfl | rfl | rfl | rfl <;> rfl
    · right
      rw [if_neg (by simpa using hi)]
      exact ⟨_, rfl, g2, g3, by show 3 ≤ out.length; omega, by show out.length ≤ 7; omega⟩
  obtain ⟨⟨L, p, ks⟩, e1, k1, k2, k3, k4⟩ := key
  simp only at k1 k2 k3 k4
  rw [e1]
  simp only [Option.bind_some]
  -- the groups
  have keyG : ∃ e, iter (make_Directory_l1 (L, p, ks)) (0, []) = some e ∧ (∀ g ∈ e, groupB ⟨ks, []⟩ g = true) ∧ e.length ≤ 7 := by
    have := (iter_foldlS (body := make_Directory_l1 (L, p, ks)) ks (fun i acc => ((i : Int), acc.1)) (fun (acc : List Int × Nat) k => if k == 2 then (acc.1 ++ [(acc.2 : Int)], acc.2 + 1) else (acc.1, acc.2 + 1)) (fun acc => acc.1) (fun i (acc : List Int × Nat) => acc.2 = i ∧ acc.1.length ≤ i ∧ ∀ g ∈ acc.1, groupB ⟨ks, []⟩ g = true) (fun i hi acc ⟨a1, a2, a3⟩ => by
      unfold make_Directory_l1
      simp only
      rw [if_pos (by simp <;> omega), ck_t (by constructor <;> omega), idx_lt hi, w64 (by omega) (by omega)]
      simp only [Option.bind_some]
      by_cases hk : ks[i] = 2
      · have hg : groupB ⟨ks, []⟩ (i : Int) = true := by
          unfold groupB existsB
          simp [hi, hk]
        rw [if_pos (by simpa using hk), ck_t (by simp; omega), if_pos (by simpa using hk)]
        refine ⟨by rw [a1]; rfl, by simp only; omega, by simp; omega, ?_⟩
        rw [a1]
        exact all_snoc a3 hg
      · rw [if_neg (by simpa using hk), if_neg (by simpa using hk)]
        exact ⟨rfl, by simp only; omega, by simp only; omega, a3⟩) (fun acc _ => by
      unfold make_Directory_l1
      simp only
      rw [if_neg (by simp)]) ([], 0) ⟨rfl, by simp, by simp⟩)
    exact ⟨_, this.1, this.2.2.2, Nat.le_trans this.2.2.1 k4⟩
  obtain ⟨gs, e2, q1, q2⟩ := keyG
  rw [e2]
  simp only [Option.bind_some]
  have hkb : ks.any kindBad = false := by
    rw [List.any_eq_false]
    exact fun x hx => by simp [k2 x hx]
  have fin : ∀ ev : List api_Member, ev.length ≤ 11 → (∀ x ∈ ev, MemOk ks x ∧ 0 ≤ x.Time) → ev.Pairwise (fun a b => a.Time ≤ b.Time) → MadeD ⟨ks, ev⟩ := fun ev he hm hp => by
    refine ⟨?_, ⟨k3, k4⟩, fun x hx => ⟨(hm x hx).2, (hm x hx).1.2.1⟩⟩
    unfold dirOk
    simp only [hkb, Bool.not_false, Bool.true_and, Bool.and_eq_true, decide_eq_true_eq]
    exact ⟨by omega, by omega, fit_of (q := MemOk ks) (fun last x hq hl => evOk_of last x hq hl) (fun x hx => (hm x hx).1) hp fun x hx => (hm x hx).2⟩
  by_cases hg0 : gs.length = 0
  · rw [if_pos (by simpa using hg0)]
    exact ⟨_, _, rfl, k1, fin [] (by simp) (by simp) .nil⟩
  rw [if_neg (by simpa using hg0), next_spT k1 (by omega)]
  simp only [Option.bind_some]
  have hb2 := tnextV_bd ⟨L, p⟩ (n := 12) (by omega)
  have h2 := tnextT_ok k1
  generalize tnextV ⟨L, p⟩ 12 = n at *
  generalize tnextT ⟨L, p⟩ = m2 at *
  obtain ⟨cl, m3, e3, c1, c2, c3, c4⟩ := clock_spT h2 hb2.1 (by omega)
  rw [e3]
  simp only [Option.bind_some]
  have keyE : ∃ e, iter (make_Directory_l2 (cl, m3) (L, p, ks) gs) (0, m3.L, m3.at_, []) = some e ∧ (TapeOk ⟨e.1, e.2.1⟩ ∧ e.2.2.length ≤ 11 ∧ (∀ x ∈ e.2.2, MemOk ks x ∧ 0 ≤ x.Time) ∧ e.2.2.Pairwise (fun a b => a.Time ≤ b.Time)) := by
    refine iter_ex (body := make_Directory_l2 (cl, m3) (L, p, ks) gs) (fun s => 0 ≤ s.1 ∧ s.1 ≤ n ∧ TapeOk ⟨s.2.1, s.2.2.1⟩ ∧ (s.2.2.2.length : Int) ≤ s.1 ∧ (∀ x ∈ s.2.2.2, MemOk ks x ∧ 0 ≤ x.Time ∧ ∃ j : Nat, (j : Int) < s.1 ∧ cl[j]? = some x.Time) ∧ s.2.2.2.Pairwise (fun a b => a.Time ≤ b.Time)) (fun s => (n - s.1).toNat) _ ?_ ⟨by simp, hb2.1, c1, by simp, by simp, .nil⟩
    rintro ⟨i, L2, p2, out⟩ ⟨g1, g2, g3, g4, g5, g6⟩
    simp only at g1 g2 g3 g4 g5 g6
    unfold make_Directory_l2
    simp only
    by_cases hi : i < n
    · left
      obtain ⟨i, rfl⟩ := Int.eq_ofNat_of_zero_le g1
      have hic : i < cl.length := by omega
      have hv := tnextV_bd ⟨L2, p2⟩ (n := (ks.length : Int)) (by omega)
      have t1 := tnextT_ok g3
      rw [if_pos (by simp <;> omega), idx_lt hic, next_spT g3 (by omega)]
      simp only [Option.bind_some]
      have hv2 := tnextV_bd (tnextT ⟨L2, p2⟩) (n := (gs.length : Int)) (by omega)
      have t2 := tnextT_ok t1
      rw [next_spT t1 (by omega)]
      simp only [Option.bind_some]
      rw [ck_t (by constructor <;> omega), idx_toNat hv2.1 (by omega)]
      simp only [Option.bind_some]
      rw [next_spT t2 (by omega)]
      simp only [Option.bind_some]
      have t3 := tnextT_ok t2
      have hgm := q1 _ (List.getElem_mem (show (tnextV (tnextT ⟨L2, p2⟩) (gs.length : Int)).toNat < gs.length by omega))
      generalize gs[(tnextV (tnextT ⟨L2, p2⟩) (gs.length : Int)).toNat]'(by omega) = g at *
      generalize tnextV ⟨L2, p2⟩ (ks.length : Int) = pr at *
      have hpr : existsB ⟨ks, []⟩ pr = true := by unfold existsB; simp; omega
      have hct := c3 _ (List.getElem_mem hic)
      have hle : ∀ y ∈ out, y.Time ≤ cl[i] := fun y hy => by
        obtain ⟨_, _, j, hj, hjt⟩ := g5 y hy
        obtain ⟨hj2, hj3⟩ := List.getElem?_eq_some_iff.1 hjt
        rw [← hj3]
        exact List.pairwise_iff_getElem.1 c2 j i hj2 hic (by omega)
      have step : ∀ kind : Int, (kind = 1 ∨ kind = 2) → ∃ s', make_Directory_j3 (pr, tnextT ⟨L2, p2⟩) g ((i : Int), L2, p2, out) cl[i] ((tnextT (tnextT (tnextT ⟨L2, p2⟩))).L, (tnextT (tnextT (tnextT ⟨L2, p2⟩))).at_, kind) = some (.go s') ∧ (0 ≤ s'.1 ∧ s'.1 ≤ n ∧ TapeOk ⟨s'.2.1, s'.2.2.1⟩ ∧ (s'.2.2.2.length : Int) ≤ s'.1 ∧ (∀ x ∈ s'.2.2.2, MemOk ks x ∧ 0 ≤ x.Time ∧ ∃ j : Nat, (j : Int) < s'.1 ∧ cl[j]? = some x.Time) ∧ s'.2.2.2.Pairwise (fun a b => a.Time ≤ b.Time)) ∧ (n - s'.1).toNat < (n - (i : Int)).toNat := fun kind hk => by
        unfold make_Directory_j3
        simp only
        rw [w64 (by omega) (by omega)]
        by_cases hne : pr = g
        · rw [if_neg (by simpa using hne)]
          exact ⟨_, rfl, ⟨by simp only; omega, by simp only; omega, t3, by simp only; omega, fun x hx => by
            obtain ⟨a1, a2, j, a3, a4⟩ := g5 x hx
            exact ⟨a1, a2, j, by simp only; omega, a4⟩, g6⟩, by simp only; omega⟩
        · rw [if_pos (by simpa using hne), ck_t (by simp; omega)]
          exact ⟨_, rfl, ⟨by simp only; omega, by simp only; omega, t3, by simp; omega, all_snoc (fun x hx => by
            obtain ⟨a1, a2, j, a3, a4⟩ := g5 x hx
            exact ⟨a1, a2, j, by simp only; omega, a4⟩) ⟨⟨hk, by simp only; omega, hpr, hgm, hne⟩, by simp only; omega, i, by simp only; omega, by simp [hic]⟩, pw_snoc g6 hle⟩, by simp only; omega⟩
      split
      · exact step 2 (.inr rfl)
      · exact step 1 (.inl rfl)
    · right
      rw [if_neg (by simp <;> omega)]
      exact ⟨_, rfl, g3, by show out.length ≤ 11; omega, fun x hx => ⟨(g5 x hx).1, (g5 x hx).2.1⟩, g6⟩
  obtain ⟨e, e4, z1, z2, z3, z4⟩ := keyE
  rw [e4]
  exact ⟨_, _, rfl, z1, fin _ z2 z3 z4⟩

theorem stewards_spT {m : make_Tape} (h : TapeOk m) {d : api_Directory} (hd : MadeD d) : ∃ (s : List api_Steward) (m' : make_Tape), make_Stewards m d = some (s, m') ∧ TapeOk m' ∧ stewOk d s = true ∧ ∀ x ∈ s, 0 ≤ x.Time ∧ x.Time ≤ 21 := by
  obtain ⟨k3, k7⟩ := hd.few
  have hb := tnextV_bd m (n := 10) (by omega)
  unfold make_Stewards
  rw [next_spT h (by omega)]
  simp only [Option.bind_some]
  have h1 := tnextT_ok h
  generalize tnextV m 10 = n at *
  generalize tnextT m = m1 at *
  obtain ⟨cl, m3, e3, c1, c2, c3, c4⟩ := clock_spT h1 hb.1 (by omega)
  rw [e3]
  simp only [Option.bind_some]
  have key : ∃ e, iter (make_Stewards_l0 (cl, m3) d) (0, m3.L, m3.at_, []) = some e ∧ (TapeOk ⟨e.1, e.2.1⟩ ∧ e.2.2.length ≤ 9 ∧ (∀ x ∈ e.2.2, (∀ last, last ≤ x.Time → stOk d last x = true) ∧ 0 ≤ x.Time ∧ x.Time ≤ 21) ∧ e.2.2.Pairwise (fun a b => a.Time ≤ b.Time)) := by
    refine iter_ex (body := make_Stewards_l0 (cl, m3) d) (fun s => 0 ≤ s.1 ∧ s.1 ≤ n ∧ TapeOk ⟨s.2.1, s.2.2.1⟩ ∧ (s.2.2.2.length : Int) ≤ s.1 ∧ (∀ x ∈ s.2.2.2, ((∀ last, last ≤ x.Time → stOk d last x = true) ∧ 0 ≤ x.Time ∧ x.Time ≤ 21) ∧ ∃ j : Nat, (j : Int) < s.1 ∧ cl[j]? = some x.Time) ∧ s.2.2.2.Pairwise (fun a b => a.Time ≤ b.Time)) (fun s => (n - s.1).toNat) _ ?_ ⟨by simp, hb.1, c1, by simp, by simp, .nil⟩
    rintro ⟨i, L2, p2, out⟩ ⟨g1, g2, g3, g4, g5, g6⟩
    simp only at g1 g2 g3 g4 g5 g6
    unfold make_Stewards_l0
    simp only
    by_cases hi : i < n
    · left
      obtain ⟨i, rfl⟩ := Int.eq_ofNat_of_zero_le g1
      have hic : i < cl.length := by omega
      have hv := tnextV_bd ⟨L2, p2⟩ (n := (d.Kinds.length : Int)) (by omega)
      have t1 := tnextT_ok g3
      rw [if_pos (by simp <;> omega), idx_lt hic, next_spT g3 (by omega)]
      simp only [Option.bind_some]
      rw [w64 (x := (d.Kinds.length : Int) - 1) (by omega) (by omega), between_spT t1 (by omega) (by omega) (by omega)]
      have hv2 := tnextV_bd (tnextT ⟨L2, p2⟩) (n := (d.Kinds.length : Int) - 1 - (-1) + 1) (by omega)
      have t2 := tnextT_ok t1
      simp only [Option.bind_some]
      rw [w64 (x := (i : Int) + 1) (by omega) (by omega)]
      generalize tnextV (tnextT ⟨L2, p2⟩) ((d.Kinds.length : Int) - 1 - (-1) + 1) = st at *
      generalize tnextV ⟨L2, p2⟩ (d.Kinds.length : Int) = sj at *
      have hct := c3 _ (List.getElem_mem hic)
      have hle : ∀ y ∈ out, y.Time ≤ cl[i] := fun y hy => by
        obtain ⟨_, j, hj, hjt⟩ := g5 y hy
        obtain ⟨hj2, hj3⟩ := List.getElem?_eq_some_iff.1 hjt
        rw [← hj3]
        exact List.pairwise_iff_getElem.1 c2 j i hj2 hic (by omega)
      have hsj : existsB d sj = true := by unfold existsB; simp; omega
      have hst : -1 + st = -1 ∨ existsB d (-1 + st) = true := by unfold existsB; simp; omega
      by_cases hne : sj = -1 + st
      · rw [if_neg (by simpa using hne)]
        exact ⟨_, rfl, ⟨by simp only; omega, by simp only; omega, t2, by simp only; omega, fun x hx => by
          obtain ⟨a1, j, a3, a4⟩ := g5 x hx
          exact ⟨a1, j, by simp only; omega, a4⟩, g6⟩, by simp only; omega⟩
      · rw [if_pos (by simpa using hne), ck_t (by simp; omega)]
        exact ⟨_, rfl, ⟨by simp only; omega, by simp only; omega, t2, by simp; omega, all_snoc (fun x hx => by
          obtain ⟨a1, j, a3, a4⟩ := g5 x hx
          exact ⟨a1, j, by simp only; omega, a4⟩) ⟨⟨fun last hl => by
            unfold stOk
            simp only [Bool.and_eq_true, Bool.or_eq_true, decide_eq_true_eq, beq_iff_eq, Bool.not_eq_true', beq_eq_false_iff_ne]
            refine ⟨hl, ?_, hsj, hst, fun e => hne e.symm⟩
            have : cl[i] ≤ 1099511627776 := by omega
            exact this, by simp only; omega, by simp only; omega⟩, i, by simp only; omega, by simp [hic]⟩, pw_snoc g6 hle⟩, by simp only; omega⟩
    · right
      rw [if_neg (by simp <;> omega)]
      exact ⟨_, rfl, g3, by show out.length ≤ 9; omega, fun x hx => (g5 x hx).1, g6⟩
  obtain ⟨e, e4, z1, z2, z3, z4⟩ := key
  rw [e4]
  refine ⟨_, _, rfl, z1, ?_, fun x hx => (z3 x hx).2⟩
  unfold stewOk
  simp only [Bool.and_eq_true, decide_eq_true_eq]
  exact ⟨by omega, fit_of (q := fun x => ∀ last, last ≤ x.Time → stOk d last x = true) (fun last x hq hl => hq last hl) (fun x hx => (z3 x hx).1) z4 fun x hx => (z3 x hx).2.1⟩

/-- the events are right but for their times -/
def rightsB (d : api_Directory) : List Int → List api_Case → Bool
  | _, [] => true
  | prev, x :: l => rightP d prev x && rightsB d (prev ++ [x.Case]) l
theorem rights_snoc {d : api_Directory} : ∀ {l : List api_Case} {prev : List Int} {x : api_Case}, rightsB d prev (l ++ [x]) = (rightsB d prev l && rightP d (prev ++ l.map (·.Case)) x)
  | [], prev, x => by simp [rightsB]
  | y :: l, prev, x => by simp [rightsB, rights_snoc, Bool.and_assoc]
theorem cases_of {d : api_Directory} : ∀ {l : List api_Case} {prev : List Int} {last : Int}, rightsB d prev l = true → l.Pairwise (fun a b => a.Time ≤ b.Time) → (∀ x ∈ l, last ≤ x.Time ∧ x.Time ≤ maxT) → casesB d prev last l = true
  | [], _, _, _, _, _ => rfl
  | x :: l, prev, last, h1, h2, h3 => by
    simp only [rightsB, Bool.and_eq_true] at h1
    rw [List.pairwise_cons] at h2
    simp only [casesB, Bool.and_eq_true, decide_eq_true_eq]
    have hx := h3 x (List.mem_cons_self ..)
    exact ⟨⟨⟨hx.1, hx.2⟩, h1.1⟩, cases_of h1.2 h2.2 fun y hy => ⟨h2.1 y hy, (h3 y (List.mem_cons_of_mem _ hy)).2⟩⟩
/-- all but the time -/
def cK (x : api_Case) : Int × Int × Int × Int := (x.Kind, x.Case, x.Level, x.Owner)
theorem rightP_same {d : api_Directory} {prev : List Int} {a b : api_Case} (h : cK a = cK b) : rightP d prev a = rightP d prev b := by
  simp only [cK, Prod.mk.injEq] at h
  obtain ⟨h1, h2, h3, h4⟩ := h
  unfold rightP; rw [h1, h2, h3, h4]
theorem rights_same {d : api_Directory} : ∀ {l l' : List api_Case} {prev : List Int}, l.map cK = l'.map cK → rightsB d prev l = rightsB d prev l'
  | [], [], _, _ => rfl
  | [], _ :: _, _, h => by simp at h
  | _ :: _, [], _, h => by simp at h
  | a :: l, b :: l', prev, h => by
    rw [List.map_cons, List.map_cons, List.cons.injEq] at h
    have hc : a.Case = b.Case := by have := h.1; simp only [cK, Prod.mk.injEq] at this; exact this.2.1
    unfold rightsB
    rw [rightP_same h.1, hc, rights_same h.2]
/-- the second loop: no time falls -/
theorem cases_l1 {d : api_Directory} {l : List api_Case} (hl : l.length ≤ 1000) (hr : rightsB d [] l = true) (ht : ∀ x ∈ l, 0 ≤ x.Time ∧ x.Time ≤ 18) : ∃ l', iter make_Cases_l1 (1, l) = some l' ∧ casesB d [] 0 l' = true ∧ l'.map cK = l.map cK ∧ ∀ x ∈ l', 0 ≤ x.Time ∧ x.Time ≤ 18 := by
  have key : ∃ e, iter make_Cases_l1 (1, l) = some e ∧ (e.map cK = l.map cK ∧ (∀ x ∈ e, 0 ≤ x.Time ∧ x.Time ≤ 18) ∧ ∀ (j : Nat) (h : j + 1 < e.length), e[j].Time ≤ e[j + 1].Time) := by
    refine iter_ex (body := make_Cases_l1) (fun s => 1 ≤ s.1 ∧ s.2.map cK = l.map cK ∧ (∀ x ∈ s.2, 0 ≤ x.Time ∧ x.Time ≤ 18) ∧ ∀ (j : Nat) (h : j + 1 < s.2.length), (j : Int) + 1 < s.1 → s.2[j].Time ≤ s.2[j + 1].Time) (fun s => (l.length - s.1).toNat) _ ?_ ⟨by simp, rfl, ht, fun j h h2 => by simp only at h2; omega⟩
    rintro ⟨i, q⟩ ⟨g1, g2, g3, g4⟩
    simp only at g1 g2 g3 g4
    have hq : q.length = l.length := by have := congrArg List.length g2; simpa using this
    unfold make_Cases_l1
    simp only
    by_cases hi : i < (q.length : Int)
    · left
      obtain ⟨i, rfl⟩ := Int.eq_ofNat_of_zero_le (show 0 ≤ i by omega)
      obtain ⟨i, rfl⟩ : ∃ k, i = k + 1 := ⟨i - 1, by omega⟩
      have h1 : i + 1 < q.length := by omega
      rw [if_pos (by simpa using hi), ck_t (by constructor <;> omega), idx_lt h1, w64 (x := ((i + 1 : Nat) : Int) - 1) (by omega) (by omega), w64 (x := ((i + 1 : Nat) : Int) + 1) (by omega) (by omega), show ((i + 1 : Nat) : Int) - 1 = (i : Int) by omega, ck_t (by constructor <;> omega), idx_lt (show i < q.length by omega)]
      simp only [Option.bind_some]
      have hx := g3 _ (List.getElem_mem h1)
      have hy := g3 _ (List.getElem_mem (show i < q.length by omega))
      have hm : q[i].Time ≤ (if q[i].Time > q[i + 1].Time then q[i].Time else q[i + 1].Time) ∧ q[i + 1].Time ≤ (if q[i].Time > q[i + 1].Time then q[i].Time else q[i + 1].Time) ∧ (if q[i].Time > q[i + 1].Time then q[i].Time else q[i + 1].Time) ≤ 18 := by split <;> omega
      generalize (if q[i].Time > q[i + 1].Time then q[i].Time else q[i + 1].Time) = tm at *
      refine ⟨_, rfl, ⟨by simp only; omega, ?_, ?_, ?_⟩, by simp only; omega⟩
      · simp only [Int.toNat_natCast, List.map_set]
        rw [← g2]
        refine List.ext_getElem (by simp) fun j h3 h4 => ?_
        rw [List.getElem_set]
        split
        · rename_i e; subst e; simp [cK]
        · rfl
      · intro x hx2
        simp only [Int.toNat_natCast] at hx2
        rcases List.mem_or_eq_of_mem_set hx2 with h3 | h3
        · exact g3 x h3
        · subst h3; simp only; omega
      · intro j h3 h4
        simp only [Int.toNat_natCast, List.length_set] at h3 h4 ⊢
        simp only [List.getElem_set]
        by_cases hji : j = i
        · subst hji
          rw [if_neg (by omega), if_pos rfl]; exact hm.1
        · rw [if_neg (by omega), if_neg (by omega)]
          exact g4 j (by omega) (by omega)
    · right
      rw [if_neg (by simpa using hi)]
      exact ⟨_, rfl, g2, g3, fun j h => g4 j h (by omega)⟩
  obtain ⟨e, he, h1, h2, h3⟩ := key
  refine ⟨e, he, cases_of (by rw [rights_same h1]; exact hr) ?_ (fun x hx => by have := h2 x hx; unfold maxT; omega), h1, h2⟩
  rw [List.pairwise_iff_getElem]
  intro i j hi hj hij
  have mono : ∀ (n i : Nat) (h : i + n < e.length), e[i].Time ≤ e[i + n].Time := fun n => by
    induction n with
    | zero => intro i h; exact Int.le_refl _
    | succ n ih =>
      intro i h
      have g1 := ih i (by omega)
      have g2 := h3 (i + n) (by omega)
      exact Int.le_trans g1 g2
  have := mono (j - i) i (by omega)
  simpa [show i + (j - i) = j by omega] using this

def upTo (k : Nat) : List Int := (List.range k).map (fun (j : Nat) => (j : Int))
theorem upTo_len (k : Nat) : (upTo k).length = k := by simp [upTo]
theorem upTo_succ (k : Nat) : upTo (k + 1) = upTo k ++ [(k : Int)] := by simp [upTo, List.range_succ]
theorem upTo_get {k j : Nat} (h : j < k) : (upTo k)[j]'(by rw [upTo_len]; exact h) = (j : Int) := by simp [upTo]
structure CInv (d : api_Directory) (i : Int) (out : List api_Case) (k : Nat) : Prop where
  len : (out.length : Int) = i
  few : k ≤ 3
  right : rightsB d [] out = true
  time : ∀ x ∈ out, 0 ≤ x.Time ∧ x.Time ≤ 18
  level : ∀ x ∈ out, x.Kind = 1 → 2 ≤ x.Level ∧ x.Level ≤ 4
  has : ∀ j : Nat, j < k → (j : Int) ∈ out.map (·.Case)
  case : ∀ x ∈ out, 0 ≤ x.Case ∧ x.Case < (k : Int)
theorem CInv.opened {d : api_Directory} {i : Int} {out : List api_Case} {k : Nat} (h : CInv d i out k) (hk : k < 3) {t lv ow : Int} (ht : 0 ≤ t ∧ t ≤ 18) (hl : 2 ≤ lv ∧ lv ≤ 4) (ho : existsB d ow = true) : CInv d (i + 1) (out ++ [⟨t, 1, (k : Int), lv, ow⟩]) (k + 1) where
  len := by have := h.len; simp; omega
  few := by omega
  right := by
    rw [rights_snoc, h.right]
    unfold rightP
    have hc : ¬ ((k : Int) ∈ out.map (·.Case)) := fun hm => by
      obtain ⟨x, hx, e⟩ := List.mem_map.1 hm
      have := (h.case x hx).2; omega
    have hp : 0 < dlP lv := dl_pos.2 ⟨by omega, by omega⟩
    simp only [List.nil_append, if_true, ho, Bool.and_true, Bool.true_and, Bool.and_eq_true, decide_eq_true_eq, Bool.not_eq_true']
    refine ⟨⟨by omega, by omega⟩, ?_, hp⟩
    rw [Bool.eq_false_iff]
    exact fun h2 => hc (List.contains_iff_mem.1 h2)
  time := all_snoc h.time ht
  level := all_snoc h.level fun _ => hl
  has := fun j hj => by
    rw [List.map_append, List.mem_append]
    by_cases e : j = k
    · right; subst e; simp
    · left; exact h.has j (by omega)
  case := all_snoc (fun x hx => by have := h.case x hx; omega) (by simp only; omega)
theorem CInv.closed {d : api_Directory} {i : Int} {out : List api_Case} {k : Nat} (h : CInv d i out k) {t kd : Int} {j : Nat} (hj : j < k) (ht : 0 ≤ t ∧ t ≤ 18) (hk : kd = 2 ∨ kd = 3) : CInv d (i + 1) (out ++ [⟨t, kd, (j : Int), 0, 0⟩]) k where
  len := by have := h.len; simp; omega
  few := h.few
  right := by
    rw [rights_snoc, h.right]
    unfold rightP
    have hc := h.has j hj
    have h3 := h.few
    simp only [List.nil_append, Bool.true_and, Bool.and_eq_true, decide_eq_true_eq]
    refine ⟨⟨by omega, by omega⟩, ?_⟩
    rw [if_neg (by omega), if_pos hk, List.contains_iff_mem.2 hc]
    rfl
  time := all_snoc h.time ht
  level := all_snoc h.level fun e => by simp only at e; omega
  has := fun j hj => by rw [List.map_append, List.mem_append]; exact .inl (h.has j hj)
  case := all_snoc h.case (by simp only; omega)
theorem set_last {α : Type} (out : List α) (x y : α) : (out ++ [x]).set out.length y = out ++ [y] := by
  rw [List.set_append_right _ _ (Nat.le_refl _)]; simp
theorem set_lastI {α : Type} {out : List α} {i : Nat} (h : out.length = i) (x y : α) : (out ++ [x]).set i y = out ++ [y] := by subst h; exact set_last out x y
theorem cases_spT {m : make_Tape} (h : TapeOk m) {d : api_Directory} (hd : MadeD d) : ∃ (l : List api_Case) (m' : make_Tape), make_Cases m d = some (l, m') ∧ TapeOk m' ∧ l.length ≤ 7 ∧ casesOk d l = true ∧ (∀ x ∈ l, 0 ≤ x.Time ∧ x.Time ≤ 18) ∧ (∀ x ∈ l, x.Kind = 1 → 2 ≤ x.Level ∧ x.Level ≤ 4) ∧ ∀ x ∈ l, 0 ≤ x.Case ∧ x.Case < 3 := by
  obtain ⟨k3, k7⟩ := hd.few
  have hb := tnextV_bd m (n := 8) (by omega)
  unfold make_Cases
  rw [next_spT h (by omega)]
  simp only [Option.bind_some]
  have h1 := tnextT_ok h
  generalize tnextV m 8 = n at *
  generalize tnextT m = m1 at *
  obtain ⟨cl, m3, e3, c1, c2, c3, c4⟩ := clock_spT h1 hb.1 (by omega)
  rw [e3]
  simp only [Option.bind_some]
  have key : ∃ e, iter (make_Cases_l0 (cl, m3) d) (0, m3.L, m3.at_, [], []) = some e ∧ (TapeOk ⟨e.1, e.2.1⟩ ∧ ∃ k, CInv d n e.2.2 k) := by
    refine iter_ex (body := make_Cases_l0 (cl, m3) d) (fun s => 0 ≤ s.1 ∧ s.1 ≤ n ∧ TapeOk ⟨s.2.1, s.2.2.1⟩ ∧ ∃ k, s.2.2.2.2 = upTo k ∧ CInv d s.1 s.2.2.2.1 k) (fun s => (n - s.1).toNat) _ ?_ ⟨by simp, hb.1, c1, 0, rfl, ⟨rfl, by omega, rfl, by simp, by simp, fun j hj => by omega, by simp⟩⟩
    rintro ⟨i, L, p, out, op⟩ ⟨g1, g2, g3, k, g4, g5⟩
    simp only at g1 g2 g3 g4 g5
    subst g4
    unfold make_Cases_l0
    simp only [upTo_len]
    by_cases hi : i < n
    · left
      obtain ⟨i, rfl⟩ := Int.eq_ofNat_of_zero_le g1
      have hic : i < cl.length := by omega
      have hct := c3 _ (List.getElem_mem hic)
      have hcb : 0 ≤ cl[i] ∧ cl[i] ≤ 17 := by omega
      have hol : out.length = i := by have := g5.len; omega
      rw [if_pos (by simp <;> omega), idx_lt hic]
      simp only [Option.bind_some]
      generalize cl[i] = tm at *
      have hv : ∃ (b : Bool) (m2 : make_Tape), (if (decide ((k : Int) < 3)) = true then
          if ((k : Int) == 0) = true then some (true, L, p) else (make_Tape_Next (⟨L, p⟩ : make_Tape) 2).bind fun y22 => some ((y22.1 == 0), y22.2.L, y22.2.at_)
          else some (false, L, p)) = some (b, m2.L, m2.at_) ∧ TapeOk m2 ∧ (b = true → k < 3) ∧ (b = false → 0 < k) := by
        by_cases hk : (k : Int) < 3
        · rw [if_pos (by simpa using hk)]
          by_cases h0 : (k : Int) = 0
          · rw [if_pos (by simpa using h0)]
            exact ⟨true, ⟨L, p⟩, rfl, g3, fun _ => by omega, fun h => by cases h⟩
          · rw [if_neg (by simpa using h0), next_spT g3 (by omega)]
            exact ⟨_, tnextT ⟨L, p⟩, rfl, tnextT_ok g3, fun _ => by omega, fun _ => by omega⟩
        · rw [if_neg (by simpa using hk)]
          exact ⟨false, ⟨L, p⟩, rfl, g3, (fun h => by cases h), fun _ => by omega⟩
      obtain ⟨b, m2, e5, t2, hb1, hb0⟩ := hv
      rw [e5]
      simp only [Option.bind_some]
      cases b with
      | true =>
        have hk := hb1 rfl
        rw [if_pos rfl, between_spT t2 (by omega) (by omega) (by omega)]
        have v1 := tnextV_bd m2 (n := 4 - 2 + 1) (by omega)
        have t3 := tnextT_ok t2
        simp only [Option.bind_some]
        rw [next_spT t3 (by omega)]
        have v2 := tnextV_bd (tnextT m2) (n := (d.Kinds.length : Int)) (by omega)
        have t4 := tnextT_ok t3
        simp only [Option.bind_some]
        rw [ck_t (by simp; omega), ck_t (by simp; omega), w64 (by omega) (by omega)]
        simp only [Option.bind_some]
        generalize tnextV m2 (4 - 2 + 1) = lv at *
        generalize tnextV (tnextT m2) (d.Kinds.length : Int) = ow at *
        have how : existsB d ow = true := by unfold existsB; simp; omega
        exact ⟨_, rfl, ⟨by simp only; omega, by simp only; omega, t4, k + 1, (upTo_succ k).symm, g5.opened hk (by omega) (by omega) how⟩, by simp only; omega⟩
      | false =>
        have hk := hb0 rfl
        have hk3 := g5.few
        rw [if_neg (by decide), next_spT t2 (by omega)]
        have v1 := tnextV_bd m2 (n := 2) (by omega)
        have t3 := tnextT_ok t2
        simp only [Option.bind_some]
        rw [between_spT t3 (by omega) (by omega) (by omega)]
        have v2 := tnextV_bd (tnextT m2) (n := 3 - 2 + 1) (by omega)
        have t4 := tnextT_ok t3
        simp only [Option.bind_some]
        rw [next_spT t4 (by omega)]
        have v3 := tnextV_bd (tnextT (tnextT m2)) (n := (k : Int)) (by omega)
        have t5 := tnextT_ok t4
        simp only [Option.bind_some]
        generalize tnextV m2 2 = dt at *
        generalize tnextV (tnextT m2) (3 - 2 + 1) = kd at *
        generalize tnextV (tnextT (tnextT m2)) (k : Int) = j at *
        obtain ⟨j, rfl⟩ := Int.eq_ofNat_of_zero_le v3.1
        have hj : j < k := by omega
        rw [ck_t (by constructor <;> omega), idx_lt (show j < (upTo k).length by rw [upTo_len]; exact hj), upTo_get hj, w64 (x := tm + dt) (by omega) (by omega), w64 (x := (i : Int) + 1) (by omega) (by omega)]
        simp only [Option.bind_some]
        rw [ck_t (by simp; omega)]
        simp only [Option.bind_some, List.length_append, List.length_singleton, hol]
        rw [w64 (x := ((i + 1 : Nat) : Int) - 1) (by omega) (by omega), w64 (x := ((i + 1 : Nat) : Int) - 2) (by omega) (by omega)]
        have fin : ∀ t : Int, 0 ≤ t ∧ t ≤ 18 → (0 ≤ (i : Int) + 1 ∧ (i : Int) + 1 ≤ n ∧ TapeOk ⟨(tnextT (tnextT (tnextT m2))).L, (tnextT (tnextT (tnextT m2))).at_⟩ ∧ ∃ k', upTo k = upTo k' ∧ CInv d ((i : Int) + 1) (out ++ [⟨t, 2 + kd, (j : Int), 0, 0⟩]) k') := fun t ht => ⟨by omega, by omega, t5, k, rfl, g5.closed hj ht (by omega)⟩
        by_cases h0 : i = 0
        · rw [if_neg (by simp; omega)]
          simp only [Option.bind_some]
          rw [if_neg (by decide)]
          exact ⟨_, rfl, fin (tm + dt) (by omega), by simp only; omega⟩
        · rw [if_pos (by simp; omega), ck_t (by constructor <;> omega), show ((i + 1 : Nat) : Int) - 1 = (i : Int) by omega, show ((i + 1 : Nat) : Int) - 2 = ((i - 1 : Nat) : Int) by omega, ck_t (by constructor <;> omega),
            idx_lt (show i < (out ++ [(⟨tm + dt, 2 + kd, (j : Int), 0, 0⟩ : api_Case)]).length by simp; omega), idx_lt (show i - 1 < (out ++ [(⟨tm + dt, 2 + kd, (j : Int), 0, 0⟩ : api_Case)]).length by simp; omega)]
          have e1 : (out ++ [(⟨tm + dt, 2 + kd, (j : Int), 0, 0⟩ : api_Case)])[i]'(by simp; omega) = ⟨tm + dt, 2 + kd, (j : Int), 0, 0⟩ := by rw [List.getElem_append_right (by omega)]; simp
          have e2 : (out ++ [(⟨tm + dt, 2 + kd, (j : Int), 0, 0⟩ : api_Case)])[i - 1]'(by simp; omega) = out[i - 1]'(by omega) := by rw [List.getElem_append_left (by omega)]
          simp only [e1, e2, Option.bind_some]
          have hy := g5.time _ (List.getElem_mem (show i - 1 < out.length by omega))
          split
          · refine ⟨_, rfl, ?_, by simp only; omega⟩
            have e3 : (out ++ [(⟨tm + dt, 2 + kd, (j : Int), 0, 0⟩ : api_Case)]).set (Int.toNat (i : Int)) ⟨(out[i - 1]'(by omega)).Time, 2 + kd, (j : Int), 0, 0⟩ = out ++ [⟨(out[i - 1]'(by omega)).Time, 2 + kd, (j : Int), 0, 0⟩] := set_lastI hol _ _
            simp only [e3]
            exact fin _ hy
          · exact ⟨_, rfl, fin (tm + dt) (by omega), by simp only; omega⟩
    · right
      rw [if_neg (by simp <;> omega)]
      have : i = n := by omega
      subst this
      exact ⟨_, rfl, g3, k, g5⟩
  obtain ⟨e, e4, z1, k, z2⟩ := key
  rw [e4]
  simp only [Option.bind_some]
  obtain ⟨l', e5, z3, z4, z5⟩ := cases_l1 (l := e.2.2) (d := d) (by have := z2.len; omega) z2.right z2.time
  rw [e5]
  have hl : l'.length = e.2.2.length := by have := congrArg List.length z4; simpa using this
  have hlen : l'.length ≤ 7 := by have := z2.len; omega
  have back : ∀ x ∈ l', ∃ y ∈ e.2.2, cK y = cK x := fun x hx => by
    have : cK x ∈ e.2.2.map cK := by rw [← z4]; exact List.mem_map.2 ⟨x, hx, rfl⟩
    exact List.mem_map.1 this
  refine ⟨_, _, rfl, z1, hlen, ?_, z5, fun x hx hk => ?_, fun x hx => ?_⟩
  · unfold casesOk
    rw [z3, decide_eq_true (by omega)]; rfl
  · obtain ⟨y, hy, e⟩ := back x hx
    simp only [cK, Prod.mk.injEq] at e
    have := z2.level y hy (by omega)
    omega
  · obtain ⟨y, hy, e⟩ := back x hx
    simp only [cK, Prod.mk.injEq] at e
    have := z2.case y hy
    have := z2.few
    omega

def ltN (x y : api_Notice) : Prop := x.Time < y.Time ∨ x.Time = y.Time ∧ (x.Case < y.Case ∨ x.Case = y.Case ∧ x.Step < y.Step)
theorem sortN_perm (l : List api_Notice) : (sortN l).Perm l := List.mergeSort_perm ..
theorem sortN_pw (l : List api_Notice) : (sortN l).Pairwise fun a b => ¬ ltN b a := by
  have := List.pairwise_mergeSort (le := fun x y : api_Notice => !decide (cfN y x < 0)) (fun a b c h1 h2 => by
    simp only [Bool.not_eq_true', decide_eq_false_iff_not, cfN_neg] at h1 h2 ⊢; omega) (fun a b => by
    simp only [Bool.or_eq_true, Bool.not_eq_true', decide_eq_false_iff_not, cfN_neg]; omega) l
  refine List.Pairwise.imp (fun {a b} h => ?_) this
  simp only [Bool.not_eq_true', decide_eq_false_iff_not, cfN_neg] at h
  exact h
def uniqN (l : List api_Notice) : Prop := ∀ a ∈ l, ∀ b ∈ l, a.Case = b.Case → a.Step = b.Step → a = b
theorem sortN_eq {l l' : List api_Notice} (hp : l'.Perm l) (hw : l'.Pairwise fun a b => ¬ ltN b a) (hu : uniqN l) : sortN l = l' := by
  refine List.Perm.eq_of_pairwise (le := fun a b => ¬ ltN b a) (fun a b ha hb h1 h2 => ?_) (sortN_pw l) hw ((sortN_perm l).trans hp.symm)
  have ha' := (sortN_perm l).mem_iff.1 ha
  have hb' := hp.mem_iff.1 hb
  simp only [ltN] at h1 h2
  exact hu a ha' b hb' (by omega) (by omega)
theorem sortN_len (l : List api_Notice) : (sortN l).length = l.length := (sortN_perm l).length_eq
structure Made (c : api_Calendar) (d : api_Directory) (s : List api_Steward) (l : List api_Case) : Prop where
  cal : MadeC c
  dir : MadeD d
  stew : stewOk d s = true
  case : casesOk d l = true
  time : ∀ x ∈ l, 0 ≤ x.Time ∧ x.Time ≤ 18
  level : ∀ x ∈ l, x.Kind = 1 → 2 ≤ x.Level ∧ x.Level ≤ 4
  num : ∀ x ∈ l, 0 ≤ x.Case ∧ x.Case < 16
theorem Made.cb {c : api_Calendar} {d : api_Directory} {s : List api_Steward} {l : List api_Case} (M : Made c d s l) : l.length ≤ 100 ∧ casesB d [] 0 l = true := by
  have := M.case; unfold casesOk at this; simpa using this
theorem Made.owner {c : api_Calendar} {d : api_Directory} {s : List api_Steward} {l : List api_Case} (M : Made c d s l) {x : api_Case} (hx : x ∈ l) (hk : x.Kind = 1) : existsB d x.Owner = true := by
  obtain ⟨i, hi, rfl⟩ := List.getElem_of_mem hx
  have := (casesB_get M.cb.2 i hi).1
  unfold rightP at this
  rw [if_pos hk] at this
  simp only [Bool.and_eq_true] at this
  exact this.2.2.2
theorem due_ok {c : api_Calendar} (h : MadeC c) {t n : Int} (ht : 0 ≤ t) (ht2 : t ≤ 1000000) (hn : 1 ≤ n) (hn2 : n ≤ 40) : (addS c t n).2 = 0 ∧ t < (addS c t n).1 ∧ (addS c t n).1 ≤ t + 300 * n := by
  obtain ⟨v, h1, h2, h3, h4, h5, h6⟩ := add_ok h ht ht2 (by omega : 0 ≤ n) (by omega)
  have hc := cnt_many h n.toNat ht
  obtain ⟨u, g1, g2⟩ := addC_ex (c := c) (f := 100001) (k := 300 * n.toNat) (n := n) (u := t) (by omega) (by omega) (by omega)
  rw [h2] at g1
  cases g1
  rw [h1]
  exact ⟨rfl, (h6 (by omega)).1, by simp only; omega⟩
/-- the notices of a case from a step and a time on -/
def UpL (c : api_Calendar) (s : List api_Steward) (x : api_Case) : Int → Int → List api_Notice → Prop
  | _, _, [] => True
  | step, t, y :: L => (y.Step = step ∧ y.Time = t ∧ y.Case = x.Case ∧ y.To ∈ wayS s x.Owner t ∧ (step = 0 → y.To = x.Owner)) ∧ UpL c s x (step + 1) (addS c t (dlP x.Level)).1 L
theorem upP_up {c : api_Calendar} {d : api_Directory} {s : List api_Steward} (hc : MadeC c) (hd : dirOk d = true) (hs : stewOk d s = true) (rest : List api_Case) {x : api_Case} (hx : existsB d x.Owner = true) (hl : 2 ≤ x.Level ∧ x.Level ≤ 4) (until_ : Int) :
    ∀ (n : Nat) (step t : Int), 1 ≤ step → 0 ≤ t → t + 12000 * n ≤ 1000000 → (upP c s rest x until_ n step t).2 = 0 ∧ UpL c s x step (addS c t (dlP x.Level)).1 (upP c s rest x until_ n step t).1 ∧ (∀ y ∈ (upP c s rest x until_ n step t).1, t < y.Time ∧ y.Time ≤ until_ ∧ ansP rest x.Case y.Time = false) ∧
      (upP c s rest x until_ n step t).1.Pairwise (fun a b => a.Time < b.Time) ∧ (rest.all (fun y => !(y.Case == x.Case)) = true → t + 4800 * n ≤ until_ → (upP c s rest x until_ n step t).1.length = n)
  | 0, _, _, _, _, _ => ⟨rfl, trivial, by simp [upP], by simp [upP], fun _ _ => rfl⟩
  | n + 1, step, t, h1, h2, h3 => by
    have hp := dl_pos.2 (show 1 ≤ x.Level ∧ x.Level ≤ 4 by omega)
    have hb := dl_bd x.Level
    have h16 : dlP x.Level ≤ 16 := by
      obtain h | h | h : x.Level = 2 ∨ x.Level = 3 ∨ x.Level = 4 := by omega
      all_goals rw [h]; decide
    obtain ⟨a1, a2, a3⟩ := due_ok hc h2 (by omega) (show 1 ≤ dlP x.Level by omega) (by omega)
    obtain ⟨i1, i2, i3, i4, i5⟩ := upP_up hc hd hs rest hx hl until_ n (step + 1) (addS c t (dlP x.Level)).1 (by omega) (by omega) (by omega)
    unfold upP
    rw [if_neg (by simpa using a1)]
    by_cases hu : until_ < (addS c t (dlP x.Level)).1 ∨ ansP rest x.Case (addS c t (dlP x.Level)).1 = true
    · rw [if_pos hu]
      refine ⟨rfl, trivial, by simp, .nil, fun g1 g2 => ?_⟩
      exfalso
      rcases hu with hu | hu
      · omega
      · unfold ansP at hu
        obtain ⟨y, hy, hc⟩ := List.any_eq_true.1 hu
        have := List.all_eq_true.1 g1 y hy
        simp only [Bool.and_eq_true] at hc
        rw [hc.1] at this; simp at this
    · rw [if_neg hu, if_neg (by simpa using i1)]
      have hu2 : ansP rest x.Case (addS c t (dlP x.Level)).1 = false := by
        cases h : ansP rest x.Case (addS c t (dlP x.Level)).1 with
        | true => exact absurd (.inr h) hu
        | false => rfl
      obtain ⟨_, _, w2, w3⟩ := way_sp hd hs hx (addS c t (dlP x.Level)).1
      have hw : 0 < (wayS s x.Owner (addS c t (dlP x.Level)).1).length := by
        cases hw : wayS s x.Owner (addS c t (dlP x.Level)).1 with
        | nil => rw [hw] at w3; cases w3
        | cons _ _ => simp
      have hto : toP (wayS s x.Owner (addS c t (dlP x.Level)).1) step ∈ wayS s x.Owner (addS c t (dlP x.Level)).1 := by
        unfold toP
        split
        · rw [idx_toNat (by omega) (by omega)]; exact List.getElem_mem _
        · rw [idx_toNat (by omega) (by omega)]; exact List.getElem_mem _
      refine ⟨rfl, ⟨⟨rfl, rfl, rfl, hto, fun h => by omega⟩, i2⟩, fun y hy => ?_, .cons (fun y hy => (i3 y hy).1) i4, fun g1 g2 => ?_⟩
      · rcases List.mem_cons.1 hy with rfl | hy
        · exact ⟨a2, by simp only; omega, hu2⟩
        · have := i3 y hy; exact ⟨by omega, this.2⟩
      · rw [List.length_cons, i5 g1 (by omega)]
theorem oneP_up {c : api_Calendar} {d : api_Directory} {s : List api_Steward} (hc : MadeC c) (hd : dirOk d = true) (hs : stewOk d s = true) (rest : List api_Case) {x : api_Case} (hx : existsB d x.Owner = true) (hl : 2 ≤ x.Level ∧ x.Level ≤ 4) (ht : 0 ≤ x.Time ∧ x.Time ≤ 18) (until_ : Int) :
    (oneP c s rest x until_).2 = 0 ∧ UpL c s x 0 x.Time (oneP c s rest x until_).1 ∧ (∀ y ∈ (oneP c s rest x until_).1, x.Time ≤ y.Time ∧ y.Time ≤ until_ ∧ (0 < y.Step → ansP rest x.Case y.Time = false)) ∧
      (oneP c s rest x until_).1.Pairwise (fun a b => a.Time < b.Time) ∧ (rest.all (fun y => !(y.Case == x.Case)) = true → 20000 ≤ until_ → (oneP c s rest x until_).1.length = 4) ∧ (18 ≤ until_ → (oneP c s rest x until_).1 ≠ []) := by
  obtain ⟨i1, i2, i3, i4, i5⟩ := upP_up hc hd hs rest hx hl until_ 3 1 x.Time (by omega) (by omega) (by omega)
  unfold oneP
  by_cases hu : until_ < x.Time
  · rw [if_pos hu]
    exact ⟨rfl, trivial, by simp, .nil, fun _ _ => by omega, fun _ => by omega⟩
  · rw [if_neg hu, if_neg (by simpa using i1)]
    obtain ⟨_, _, w2, w3⟩ := way_sp hd hs hx x.Time
    refine ⟨rfl, ⟨⟨rfl, rfl, rfl, List.mem_of_getElem? w3, fun _ => rfl⟩, i2⟩, fun y hy => ?_, .cons (fun y hy => (i3 y hy).1) i4, fun g1 g2 => ?_, fun _ => by simp⟩
    · rcases List.mem_cons.1 hy with rfl | hy
      · exact ⟨Int.le_refl _, by simp only; omega, fun h => by simp only at h; omega⟩
      · have := i3 y hy; exact ⟨by omega, this.2.1, fun _ => this.2.2⟩
    · rw [List.length_cons, i5 g1 (by omega)]
def catM (c : api_Calendar) (s : List api_Steward) (l : List api_Case) (until_ : Int) : List api_Notice := ((opensP l).map fun k => (casP c s l until_ k).1).flatten
theorem Made.one {c : api_Calendar} {d : api_Directory} {s : List api_Steward} {l : List api_Case} (M : Made c d s l) {k : Nat} (hk : k < l.length) (h1 : l[k].Kind = 1) (until_ : Int) :
    (oneP c s (l.drop (k + 1)) l[k] until_).2 = 0 ∧ UpL c s l[k] 0 l[k].Time (oneP c s (l.drop (k + 1)) l[k] until_).1 ∧ (∀ y ∈ (oneP c s (l.drop (k + 1)) l[k] until_).1, l[k].Time ≤ y.Time ∧ y.Time ≤ until_ ∧ (0 < y.Step → ansP (l.drop (k + 1)) l[k].Case y.Time = false)) ∧
      (oneP c s (l.drop (k + 1)) l[k] until_).1.Pairwise (fun a b => a.Time < b.Time) ∧ ((l.drop (k + 1)).all (fun y => !(y.Case == l[k].Case)) = true → 20000 ≤ until_ → (oneP c s (l.drop (k + 1)) l[k] until_).1.length = 4) ∧ (18 ≤ until_ → (oneP c s (l.drop (k + 1)) l[k] until_).1 ≠ []) :=
  oneP_up M.cal M.dir.ok M.stew _ (M.owner (List.getElem_mem hk) h1) (M.level _ (List.getElem_mem hk) h1) (M.time _ (List.getElem_mem hk)) until_
theorem Made.cat {c : api_Calendar} {d : api_Directory} {s : List api_Steward} {l : List api_Case} (M : Made c d s l) (until_ : Int) : (catP (casP c s l until_) (opensP l)).2 = 0 ∧ (catP (casP c s l until_) (opensP l)).1 = catM c s l until_ ∧ uniqN (catM c s l until_) := by
  have h0 : (catP (casP c s l until_) (opensP l)).2 = 0 := catP_of fun k hk => by
    obtain ⟨h1, h2⟩ := opens_mem.1 hk
    unfold casP
    rw [List.getElem?_eq_getElem h1]
    exact (M.one h1 h2 until_).1
  have h1 := (catP_ok h0).2
  refine ⟨h0, h1, fun a ha b hb => ?_⟩
  rw [show catM c s l until_ = _ from h1.symm] at ha hb
  exact cat_uniq M.cb.2 c s until_ ha hb
theorem Made.all {c : api_Calendar} {d : api_Directory} {s : List api_Steward} {l : List api_Case} (M : Made c d s l) {until_ : Int} (hu : 0 ≤ until_ ∧ until_ ≤ maxT) : notice_All c d s l until_ = some (sortN (catM c s l until_), 0) := by
  rw [All_sp]
  unfold AllP
  rw [if_neg (by simpa using M.cal.ok), M.dir.ok, M.stew, M.case, if_neg (by decide), if_neg (by decide), if_neg (by decide), if_neg (by omega)]
  unfold allP
  obtain ⟨h1, h2, _⟩ := M.cat until_
  rw [if_neg (by simpa using h1), h2]
theorem awake_all : AllP ⟨1, 0, 1, 127, []⟩ ⟨[1], []⟩ [] [⟨5, 1, 0, 4, 0⟩] 50 = ([⟨5, 0, 0, 0⟩, ⟨6, 0, 0, 1⟩, ⟨7, 0, 0, 2⟩, ⟨8, 0, 0, 3⟩], 0) := by
  have h : catP (casP ⟨1, 0, 1, 127, []⟩ [] [⟨5, 1, 0, 4, 0⟩] 50) (opensP [⟨5, 1, 0, 4, 0⟩]) = ([⟨5, 0, 0, 0⟩, ⟨6, 0, 0, 1⟩, ⟨7, 0, 0, 2⟩, ⟨8, 0, 0, 3⟩], 0) := by kernel_rfl
  have h1 : OkC ⟨1, 0, 1, 127, []⟩ := by decide +kernel
  have h2 : dirOk ⟨[1], []⟩ = true := by decide +kernel
  have h3 : stewOk ⟨[1], []⟩ [] = true := by decide +kernel
  have h4 : casesOk ⟨[1], []⟩ [⟨5, 1, 0, 4, 0⟩] = true := by decide +kernel
  unfold AllP
  rw [if_neg (by simpa using h1), h2, h3, h4, if_neg (by decide), if_neg (by decide), if_neg (by decide), if_neg (by decide)]
  unfold allP
  rw [h, if_neg (by decide)]
  congr 1
  refine sortN_eq (List.Perm.refl _) ?_ ?_
  · simp [ltN]
  · intro a ha b hb _ h
    simp only [List.mem_cons, List.not_mem_nil, or_false] at ha hb
    rcases ha with rfl | rfl | rfl | rfl <;> rcases hb with rfl | rfl | rfl | rfl <;> simp at h ⊢
theorem awake41 : law41_awake = some true := by
  unfold law41_awake
  rw [All_sp, awake_all]
  simp only [Option.bind_some]
  rw [if_neg (by decide)]
  have : iter (law41_awake_l0 ([⟨5, 0, 0, 0⟩, ⟨6, 0, 0, 1⟩, ⟨7, 0, 0, 2⟩, ⟨8, 0, 0, 3⟩], 0)) 0 = some (.inl ()) := by
    rw [iter_go (s' := 1) (by rfl), iter_go (s' := 2) (by rfl), iter_go (s' := 3) (by rfl), iter_go (s' := 4) (by rfl)]
    exact iter_out (by rfl)
  rw [this]; rfl
theorem made_all {m : make_Tape} (h : TapeOk m) : ∃ (c : api_Calendar) (d : api_Directory) (s : List api_Steward) (l : List api_Case) (m1 m2 m3 m4 : make_Tape), make_Calendar m = some (c, m1) ∧ make_Directory m1 = some (d, m2) ∧ make_Stewards m2 d = some (s, m3) ∧ make_Cases m3 d = some (l, m4) ∧ TapeOk m4 ∧ Made c d s l ∧ l.length ≤ 7 ∧ ∀ x ∈ l, x.Case < 3 := by
  obtain ⟨c, m1, e1, t1, hc⟩ := calendar_spT h
  obtain ⟨d, m2, e2, t2, hd⟩ := directory_spT t1
  obtain ⟨s, m3, e3, t3, hs, _⟩ := stewards_spT t2 hd
  obtain ⟨l, m4, e4, t4, hl, h5, h6, h7, h8⟩ := cases_spT t3 hd
  exact ⟨c, d, s, l, m1, m2, m3, m4, e1, e2, e3, e4, t4, ⟨hc, hd, hs, h5, h6, h7, fun x hx => by have := h8 x hx; omega⟩, hl, fun x hx => (h8 x hx).2⟩

/-! Open and Late -/
def openF (t : Int) (m : List (Int × Bool)) (x : api_Case) : List (Int × Bool) := if t < x.Time then m else if x.Kind = 1 then mset inE m x.Case true else if x.Kind = 3 then mdel inE m x.Case else m
theorem mset_len (m : List (Int × Bool)) (k : Int) (v : Bool) : (mset inE m k v).length ≤ m.length + 1 := by
  obtain ⟨h1, h2⟩ := mset_keys inE_eq m k v
  by_cases h : k ∈ m.map (·.1)
  · have := congrArg List.length (h1 h); simp at this; omega
  · rw [h2 h]; simp
theorem mdel_len (m : List (Int × Bool)) (k : Int) : (mdel inE m k).length ≤ m.length := (mdel_sub m k).length_le
theorem openF_len (t : Int) (m : List (Int × Bool)) (x : api_Case) : (openF t m x).length ≤ m.length + 1 := by
  unfold openF
  split
  · omega
  split
  · exact mset_len ..
  split
  · have := mdel_len m x.Case; omega
  · omega
theorem openF_nodup (t : Int) {m : List (Int × Bool)} (h : (m.map (·.1)).Nodup) (x : api_Case) : ((openF t m x).map (·.1)).Nodup := by
  unfold openF
  split
  · exact h
  split
  · exact mset_nodup inE_eq h _ _
  split
  · exact mdel_nodup h _
  · exact h
def openM (l : List api_Case) (t : Int) : List (Int × Bool) := l.foldl (openF t) []
def sortI (l : List Int) : List Int := l.mergeSort fun x y => decide (x ≤ y)
theorem open_l0 {l : List api_Case} (hl : l.length ≤ 1000) (t : Int) : iter (notice_Open_l0 l t) (0, []) = some (openM l t) ∧ (openM l t).length ≤ l.length ∧ ((openM l t).map (·.1)).Nodup := by
  have := iter_foldlS (body := notice_Open_l0 l t) l (fun i m => ((i : Int), m)) (openF t) (fun m => m) (fun i m => m.length ≤ i ∧ (m.map (·.1)).Nodup) (fun i hi m ⟨h1, h2⟩ => by
    refine ⟨?_, by have := openF_len t m l[i]; omega, openF_nodup t h2 _⟩
    unfold notice_Open_l0 openF
    simp only
    rw [if_pos (by simp <;> omega), idx_lt hi, w64 (by omega) (by omega)]
    simp only [Option.bind_some, decide_eq_true_eq, beq_iff_eq]
    split
    · rfl
    split
    · rfl
    split <;> rfl) (fun m _ => by
    unfold notice_Open_l0
    simp only
    rw [if_neg (by simp)]) [] ⟨by simp, by simp⟩
  exact ⟨this.1, this.2.1, this.2.2⟩
theorem sorted_sp {m : List (Int × Bool)} (h : m.length ≤ 268435456) : notice_sorted m = some (sortI (m.map (·.1))) := by
  unfold notice_sorted
  rw [ck_t h]; rfl
theorem Open_sp {d : api_Directory} {l : List api_Case} (hd : dirOk d = true) (hl : casesOk d l = true) (t : Int) : notice_Open d l t = some (sortI ((openM l t).map (·.1))) := by
  have hc := hl
  unfold casesOk at hc
  simp only [Bool.and_eq_true, decide_eq_true_eq] at hc
  unfold notice_Open
  rw [ncheck_sp, hd, hl]
  simp only [if_true, Option.bind_some]
  obtain ⟨h1, h2, _⟩ := open_l0 (show l.length ≤ 1000 by omega) t
  rw [if_neg (by decide), h1]
  simp only [Option.bind_some]
  rw [sorted_sp (by omega)]; rfl
def lateF (op : List Int) (m : List (Int × Bool)) (n : api_Notice) : List (Int × Bool) := if (decide (0 < n.Step) && op.contains n.Case) = true then mset inE m n.Case true else m
def lateM (al : List api_Notice) (op : List Int) : List (Int × Bool) := al.foldl (lateF op) []
theorem late_l0 {al : List api_Notice} {e : Int} (ha : al.length ≤ 1000000) {op : List Int} (ho : op.length ≤ 1000000) : iter (notice_Late_l0 (al, e) op) (0, []) = some (lateM al op) ∧ (lateM al op).length ≤ al.length ∧ (∀ x ∈ (lateM al op).map (·.1), x ∈ op) ∧ ((lateM al op).map (·.1)).Nodup := by
  have := iter_foldlS (body := notice_Late_l0 (al, e) op) al (fun i m => ((i : Int), m)) (lateF op) (fun m => m) (fun i m => m.length ≤ i ∧ (∀ x ∈ m.map (·.1), x ∈ op) ∧ (m.map (·.1)).Nodup) (fun i hi m ⟨h1, h2, h3⟩ => by
    have hF : (lateF op m al[i]).length ≤ m.length + 1 ∧ (∀ x ∈ (lateF op m al[i]).map (·.1), x ∈ op) ∧ ((lateF op m al[i]).map (·.1)).Nodup := by
      unfold lateF
      split
      · rename_i hc
        simp only [Bool.and_eq_true, List.contains_iff_mem] at hc
        refine ⟨mset_len .., fun x hx => ?_, mset_nodup inE_eq h3 _ _⟩
        rcases (mset_mem inE_eq).1 hx with rfl | hx
        · exact hc.2
        · exact h2 x hx
      · exact ⟨by omega, h2, h3⟩
    refine ⟨?_, by have := hF.1; omega, hF.2⟩
    unfold notice_Late_l0 lateF
    simp only
    rw [if_pos (by simp <;> omega), idx_lt hi, w64 (by omega) (by omega)]
    simp only [Option.bind_some, contains_sp ho]
    by_cases hs : 0 < al[i].Step
    · rw [if_pos (by simpa using hs)]
      simp only [hs, decide_true, Bool.true_and, Option.bind_some]
      split <;> rfl
    · rw [if_neg (by simpa using hs)]
      simp only [hs, decide_false, Bool.false_and, Option.bind_some, Bool.false_eq_true, if_false]
      rfl) (fun m _ => by
    unfold notice_Late_l0
    simp only
    rw [if_neg (by simp)]) [] ⟨by simp, by simp, by simp⟩
  exact ⟨this.1, this.2.1, this.2.2.1, this.2.2.2⟩

theorem filt_loop {α σ : Type} {body : Int × List α → Option (Lp (Int × List α) (List α))} {al : List α} (p : α → Bool) (ha : al.length ≤ 1000000)
    (hb : ∀ (i : Nat) (h : i < al.length) (out : List α), out.length ≤ i → body ((i : Int), out) = some (.go (((i + 1 : Nat) : Int), if p al[i] = true then out ++ [al[i]] else out))) (he : ∀ out, body ((al.length : Int), out) = some (.out out)) : iter body (0, []) = some (al.filter p) := by
  have key : ∀ (n i : Nat) (out : List α), i + n = al.length → out.length ≤ i → iter body ((i : Int), out) = some (out ++ (al.drop i).filter p) := fun n => by
    induction n with
    | zero =>
      intro i out h _
      have : i = al.length := by omega
      subst this
      rw [iter_out (he out), List.drop_length]; simp
    | succ n ih =>
      intro i out h ho
      have hi : i < al.length := by omega
      rw [List.drop_eq_getElem_cons hi, List.filter_cons, iter_go (hb i hi out ho)]
      split
      · rw [ih (i + 1) _ (by omega) (by simp; omega)]; simp
      · rw [ih (i + 1) _ (by omega) (by omega)]
  simpa using key al.length 0 [] (by omega) (by simp)
end Go.Vl
