/- Plain laws of the given program's functions (texts of other seats turned to this one). Conditions: none. -/
import Derived.Test.YtciimncnodejaaaDoorNm
import Derived.Test.YtciimncnodejaaaDoorPlB
set_option linter.unusedSimpArgs false
set_option linter.unusedVariables false
namespace Go.Vl
open Go


theorem less_int (a b : Int) : cmp_Less_int a b = some (decide (a < b)) := by simp [cmp_Less_int, cmp_isNaN_int]

theorem half {x : Int} (h0 : 0 ≤ x) (h1 : x ≤ 4611686018427387904) : IntKind.i64.wrap ((IntKind.u64.wrap (IntKind.i64.wrap x)).fdiv (2 ^ (min 1 IntKind.u64.bits))) = x / 2 := by
  rw [w64 (x := x) (by omega) (by omega), wu64 h0 (by omega)]
  have : (2 : Int) ^ (min 1 IntKind.u64.bits) = 2 := rfl
  rw [this, Int.fdiv_eq_ediv_of_nonneg _ (by omega), w64 (by omega) (by omega)]

theorem bin_spec {l : List Int} (hs : l.Pairwise (· < ·)) (hl : l.length ≤ 1000000) (x : Int) : ∃ i : Int, slices_BinarySearch_int l x = some (i, decide (x ∈ l)) := by
  have key : ∃ e : Int, iter (slices_BinarySearch_int_l0 l x) (0, (l.length : Int)) = some e ∧ ∃ i : Nat, e = i ∧ i ≤ l.length ∧ (∀ k (hk : k < l.length), k < i → l[k] < x) ∧ (∀ k (hk : k < l.length), i ≤ k → x ≤ l[k]) := by
    refine iter_ex (fun s => ∃ i j : Nat, s = ((i : Int), (j : Int)) ∧ i ≤ j ∧ j ≤ l.length ∧ (∀ k (hk : k < l.length), k < i → l[k] < x) ∧ (∀ k (hk : k < l.length), j ≤ k → x ≤ l[k])) (fun s => (s.2 - s.1).toNat) _ ?_
      ⟨0, l.length, rfl, by omega, by omega, fun k hk h => by omega, fun k hk h => by omega⟩
    rintro _ ⟨i, j, rfl, hij, hj, h1, h2⟩
    unfold slices_BinarySearch_int_l0
    by_cases hlt : i < j
    · left
      rw [if_pos (by simp <;> omega)]
      simp only
      rw [half (by omega) (by omega)]
      have hm : ((i : Int) + j) / 2 = (((i + j) / 2 : Nat) : Int) := by omega
      rw [hm]
      generalize hmd : (i + j) / 2 = m
      have hmi : i ≤ m ∧ m < j := by omega
      rw [idx_lt (by omega : m < l.length)]
      simp only [Option.bind_some, less_int]
      by_cases hx : l[m] < x
      · rw [if_pos (by simpa using hx), w64 (by omega) (by omega)]
        refine ⟨_, rfl, ⟨m + 1, j, rfl, by omega, hj, fun k hk h => ?_, h2⟩, by simp <;> omega⟩
        rcases Nat.lt_succ_iff_lt_or_eq.1 h with h | h
        · exact Int.lt_trans (sorted_split hs h (by omega)) hx
        · subst h; exact hx
      · rw [if_neg (by simpa using hx)]
        refine ⟨_, rfl, ⟨i, m, rfl, by omega, by omega, h1, fun k hk h => ?_⟩, by simp <;> omega⟩
        rcases Nat.lt_or_eq_of_le h with h | h
        · have := sorted_split hs h hk; omega
        · subst h; omega
    · right
      rw [if_neg (by simp <;> omega)]
      have : i = j := by omega
      subst this
      exact ⟨_, rfl, i, rfl, hj, h1, h2⟩
  obtain ⟨e, he, i, rfl, hi, h1, h2⟩ := key
  refine ⟨i, ?_⟩
  unfold slices_BinarySearch_int
  rw [he]
  have hm := mem_at hs h1 h2 hi
  simp only [Option.bind_some]
  by_cases hlt : i < l.length
  · rw [if_pos (by simpa using hlt), idx_lt hlt]
    simp only [Option.bind_some, slices_isNaN_int]
    by_cases hx : l[i] = x
    · have hmem : x ∈ l := hm.1 ⟨hlt, hx⟩
      simp [hx, hmem]
    · have hmem : ¬ x ∈ l := fun h => by obtain ⟨_, h⟩ := hm.2 h; exact hx h
      simp [hx, hmem]
  · rw [if_neg (by simpa using hlt)]
    have hmem : ¬ x ∈ l := fun h => by obtain ⟨h, _⟩ := hm.2 h; exact hlt h
    simp [hmem]

def OkC (c : api_Calendar) : Prop := (1 ≤ c.Day ∧ c.Day ≤ 48) ∧ 0 ≤ c.From ∧ c.From < c.To ∧ c.To ≤ c.Day ∧ (0 ≤ c.Week ∧ c.Week ≤ 127) ∧ c.Holidays.length ≤ 40 ∧ ascB c.Holidays = true ∧ ∀ h ∈ c.Holidays, 0 ≤ h
instance (c : api_Calendar) : Decidable (OkC c) := by unfold OkC; infer_instance

theorem among_sp (a b c : Int) : calendar_among a b c = some (decide (b ≤ a) && decide (a ≤ c)) := rfl
theorem in_sp (a b c : Int) : ref40_in a b c = some (decide (b ≤ a) && decide (a ≤ c)) := rfl

theorem asc_drop {l : List Int} {k : Nat} (hk : k + 1 < l.length) : ascB (l.drop k) = (decide (l[k] < l[k+1]) && ascB (l.drop (k + 1))) := by
  rw [List.drop_eq_getElem_cons (show k < l.length by omega), List.drop_eq_getElem_cons hk]; rfl
theorem asc_end {l : List Int} {k : Nat} (hk : l.length ≤ k + 1) : ascB (l.drop k) = true := by
  have : (l.drop k).length ≤ 1 := by simp <;> omega
  match h : l.drop k with
  | [] => rfl
  | [_] => rfl
  | _ :: _ :: _ => rw [h] at this; simp at this

theorem ascending_sp {l : List Int} (hl : l.length ≤ 1000) : directory_Ascending l = some (ascB l) := by
  unfold directory_Ascending
  rw [iter_eq (fun s => ∃ k : Nat, s = (k : Int) + 1 ∧ k ≤ l.length) (fun s => (l.length + 1 - s).toNat) (fun s => if ascB (l.drop (s - 1).toNat) then .inl () else .inr false) ?_ (s := 1) ⟨0, rfl, by omega⟩]
  · simp only [Option.bind_some]
    cases h : ascB l <;> simp [h]
  · rintro _ ⟨k, rfl, hk⟩
    have e0 : ((k : Int) + 1 - 1).toNat = k := by omega
    unfold directory_Ascending_l0
    by_cases hlt : k + 1 < l.length
    · rw [if_pos (by simp <;> omega), w64 (by omega) (by omega), show (k : Int) + 1 - 1 = (k : Int) by omega, idx_lt (by omega : k < l.length), show (k : Int) + 1 = ((k + 1 : Nat) : Int) by omega, idx_lt hlt]
      simp only [Option.bind_some]
      by_cases hx : l[k+1] ≤ l[k]
      · right
        rw [if_pos (by simpa using hx)]
        have : ascB (l.drop k) = false := by rw [asc_drop hlt]; simp; intro h; omega
        simp [this]
      · left
        rw [if_neg (by simpa using hx), w64 (by omega) (by omega)]
        refine ⟨_, rfl, ⟨k + 1, rfl, by omega⟩, by omega, ?_⟩
        have e1 : (((k + 1 : Nat) : Int) + 1 - 1).toNat = k + 1 := by omega
        have e2 : (((k + 1 : Nat) : Int) - 1).toNat = k := by omega
        rw [e1, Int.toNat_natCast, asc_drop hlt]
        have : l[k] < l[k+1] := by omega
        simp [this]
    · right
      rw [if_neg (by simp <;> omega), e0, asc_end (by omega)]; rfl

theorem head_min {l : List Int} (h : ascB l = true) : (∀ x ∈ l, 0 ≤ x) ↔ ∀ x, l[0]? = some x → 0 ≤ x := by
  rw [ascB_iff] at h
  cases l with
  | nil => simp
  | cons a l =>
    simp only [List.getElem?_cons_zero, Option.some.injEq, List.mem_cons, forall_eq_or_imp]
    constructor
    · rintro ⟨h1, _⟩ x rfl; exact h1
    · intro h1; exact ⟨h1 _ rfl, fun x hx => by have := List.rel_of_pairwise_cons h hx; have := h1 _ rfl; omega⟩

theorem check_sp (c : api_Calendar) : calendar_Check c = some (if OkC c then 0 else 42) := by
  unfold calendar_Check
  simp only [among_sp, Option.bind_some]
  by_cases a1 : 1 ≤ c.Day ∧ c.Day ≤ 48
  case neg => rw [if_pos (by simp <;> omega)]; simp [OkC, a1]
  rw [if_neg (by simp <;> omega)]
  by_cases a2 : 0 ≤ c.From
  case neg => rw [if_pos (by simp <;> omega)]; simp [OkC, a2]
  rw [if_neg (by simp <;> omega)]
  by_cases a3 : c.From < c.To
  case neg => rw [if_pos (by simp <;> omega)]; simp [OkC, a3]
  rw [if_neg (by simp <;> omega)]
  by_cases a4 : c.To ≤ c.Day
  case neg => rw [if_pos (by simp <;> omega)]; simp [OkC, a4]
  rw [if_neg (by simp <;> omega)]
  by_cases a5 : 0 ≤ c.Week ∧ c.Week ≤ 127
  case neg =>
    simp only [Option.bind_some]
    rw [if_pos (by simp <;> omega)]; simp [OkC, a5]
  simp only [Option.bind_some]
  rw [if_neg (by simp <;> omega)]
  by_cases a6 : c.Holidays.length ≤ 40
  case neg => rw [if_pos (by simp <;> omega)]; simp [OkC, a6]
  rw [if_neg (by simp <;> omega), ascending_sp (by omega)]
  simp only [Option.bind_some]
  cases a7 : ascB c.Holidays with
  | false => simp [OkC, a7]
  | true =>
    have hm := head_min a7
    simp only [Bool.not_true, Bool.false_eq_true, if_false]
    cases hh : c.Holidays with
    | nil => simp [OkC, a1, a2, a3, a4, a5, hh, ascB]
    | cons x l =>
      rw [hh] at hm a7 a6
      simp only [idx, List.length_cons]
      simp
      have hiff : OkC c ↔ 0 ≤ x := by
        unfold OkC
        rw [hh]
        constructor
        · rintro ⟨_, _, _, _, _, _, _, h⟩; exact h x (by simp)
        · intro h; exact ⟨a1, a2, a3, a4, a5, a6, a7, hm.2 (fun y hy => by simp at hy; omega)⟩
      by_cases hx : 0 ≤ x
      · rw [if_pos (hiff.2 hx), if_neg (by omega)]
      · rw [if_neg (fun h => hx (hiff.1 h)), if_pos (by omega)]

theorem refvalid_sp {c : api_Calendar} : ref40_Valid c = some (decide (OkC c)) := by
  unfold ref40_Valid
  simp only [in_sp, Option.bind_some]
  by_cases a1 : 1 ≤ c.Day ∧ c.Day ≤ 48
  case neg => rw [if_pos (by simp <;> omega)]; simp [OkC, a1]
  rw [if_neg (by simp <;> omega)]
  by_cases a2 : 0 ≤ c.From
  case neg => rw [if_pos (by simp <;> omega)]; simp [OkC, a2]
  rw [if_neg (by simp <;> omega)]
  by_cases a3 : c.From < c.To
  case neg => rw [if_pos (by simp <;> omega)]; simp [OkC, a3]
  rw [if_neg (by simp <;> omega)]
  by_cases a4 : c.To ≤ c.Day
  case neg => rw [if_pos (by simp <;> omega)]; simp [OkC, a4]
  rw [if_neg (by simp <;> omega)]
  by_cases a5 : 0 ≤ c.Week ∧ c.Week ≤ 127
  case neg => rw [if_pos (by simp <;> omega)]; simp [OkC, a5]
  rw [if_neg (by simp <;> omega)]
  simp only [Option.bind_some]
  by_cases a6 : c.Holidays.length ≤ 40
  case neg => rw [if_pos (by simp <;> omega)]; simp [OkC, a6]
  rw [if_neg (by simp <;> omega)]
  have hok : OkC c ↔ ascB c.Holidays = true ∧ ∀ h ∈ c.Holidays, 0 ≤ h := ⟨fun h => ⟨h.2.2.2.2.2.2.1, h.2.2.2.2.2.2.2⟩, fun h => ⟨a1, a2, a3, a4, a5, a6, h.1, h.2⟩⟩
  generalize hL : c.Holidays = L at *
  -- the rest of the list, from k on, behind its predecessor
  let good : Nat → Prop := fun k => (∀ h ∈ L.drop k, 0 ≤ h) ∧ ascB (L.drop (k - 1)) = true
  have e : iter (ref40_Valid_l0 c) 0 = some (if OkC c then Sum.inl () else Sum.inr false) := by
    have key := iter_eq (body := ref40_Valid_l0 c) (fun s => ∃ k : Nat, s = (k : Int) ∧ k ≤ L.length) (fun s => (L.length - s).toNat)
      (fun s => (if good s.toNat then Sum.inl () else Sum.inr false : Unit ⊕ Bool)) ?_ (s := 0) ⟨0, rfl, by omega⟩
    · rw [key]
      have : good (0 : Int).toNat ↔ OkC c := by
        rw [hok]; simp only [good]; simp; exact ⟨fun h => ⟨h.2, h.1⟩, fun h => ⟨h.2, h.1⟩⟩
      by_cases h : OkC c
      · rw [if_pos h, if_pos (this.2 h)]
      · rw [if_neg h, if_neg (fun h' => h (this.1 h'))]
    · rintro _ ⟨k, rfl, hk⟩
      unfold ref40_Valid_l0
      rw [hL]
      by_cases hlt : k < L.length
      · rw [if_pos (by simpa using hlt), idx_lt hlt]
        simp only [Option.bind_some, Int.toNat_natCast]
        have hd : (∀ h ∈ L.drop k, 0 ≤ h) ↔ 0 ≤ L[k] ∧ ∀ h ∈ L.drop (k + 1), 0 ≤ h := by
          rw [List.drop_eq_getElem_cons hlt, List.forall_mem_cons]
        by_cases b1 : L[k] < 0
        · right
          rw [if_pos (by simpa using b1)]
          have : ¬ good k := fun h => by have := (hd.1 h.1).1; omega
          simp [this]
        · rw [if_neg (by simpa using b1)]
          cases k with
          | zero =>
            left
            rw [if_neg (by simp)]
            simp only [Option.bind_some]
            rw [if_neg (by simp), w64 (by omega) (by omega)]
            refine ⟨_, rfl, ⟨1, by simp, by omega⟩, by simp <;> omega, ?_⟩
            have : good ((0 : Nat) + 1 : Int).toNat ↔ good 0 := by
              simp only [good]
              rw [hd]
              simp
              try (intro h _; omega)
            simp only [this]
          | succ k =>
            have hlt' : k < L.length := by omega
            rw [if_pos (by first | (simp; done) | (simp; omega)), w64 (by omega) (by omega), show ((k + 1 : Nat) : Int) - 1 = (k : Int) by omega, idx_lt hlt']
            simp only [Option.bind_some]
            by_cases b2 : L[k+1] ≤ L[k]
            · right
              rw [if_pos (by simpa using b2)]
              have : ¬ good (k + 1) := fun h => by
                have := h.2
                rw [Nat.add_sub_cancel, asc_drop hlt] at this
                simp at this; omega
              simp [this]
            · left
              rw [if_neg (by simpa using b2), w64 (by omega) (by omega)]
              refine ⟨_, rfl, ⟨k + 2, by simp <;> omega, by omega⟩, by omega, ?_⟩
              have e1 : (((k + 1 : Nat) : Int) + 1).toNat = k + 2 := by omega
              rw [e1]
              have : good (k + 2) ↔ good (k + 1) := by
                simp only [good]
                rw [hd, Nat.add_sub_cancel, show k + 2 - 1 = k + 1 by omega, asc_drop hlt]
                have g1 : L[k] < L[k+1] := by omega
                simp [g1]
                intro _ _; omega
              simp only [this]
      · right
        rw [if_neg (by simpa using hlt)]
        have : k = L.length := by omega
        subst this
        have : good L.length := ⟨by simp, asc_end (by omega)⟩
        simp [this]
  rw [e]
  by_cases h : OkC c <;> simp [h]
/-- whether a tick is a working one -/
def wkC (c : api_Calendar) (t : Int) : Bool :=
  (decide (c.From ≤ t % c.Day) && decide (t % c.Day < c.To)) && ((bAnd .i64 ((c.Week).fdiv (2 ^ (min (Int.toNat ((t / c.Day) % 7)) IntKind.i64.bits))) 1 == 1) && !decide (t / c.Day ∈ c.Holidays))

theorem bAnd1 (x : Int) : bAnd .i64 x 1 = x % 2 := by
  have h : (BitVec.ofInt 64 x &&& BitVec.ofInt 64 1).toNat = (x % 2).toNat := by
    rw [BitVec.toNat_and]
    have h1 : (BitVec.ofInt 64 1).toNat = 2 ^ 1 - 1 := by decide
    rw [h1, Nat.and_two_pow_sub_one_eq_mod, BitVec.toNat_ofInt]
    omega
  show IntKind.i64.wrap (((BitVec.ofInt 64 x &&& BitVec.ofInt 64 1).toNat : Nat) : Int) = x % 2
  rw [h, IntKind.wrap_i64]
  omega

section
variable {c : api_Calendar} (hc : OkC c) {t : Int} (h0 : 0 ≤ t) (h1 : t ≤ 4611686018427387904)
include hc h0 h1
theorem divs : IntKind.i64.wrap (t.tdiv c.Day) = t / c.Day ∧ t.tmod c.Day = t % c.Day ∧ (t / c.Day).tmod 7 = (t / c.Day) % 7 ∧ 0 ≤ t / c.Day ∧ t / c.Day ≤ t ∧ 0 ≤ t % c.Day := by
  have hd := hc.1
  have a1 : 0 ≤ t / c.Day := Int.ediv_nonneg h0 (by omega)
  have a2 : t / c.Day ≤ t := by
    have := Int.ediv_le_self c.Day h0; exact this
  refine ⟨?_, Int.tmod_eq_emod_of_nonneg h0, Int.tmod_eq_emod_of_nonneg a1, a1, a2, Int.emod_nonneg _ (by omega)⟩
  rw [Int.tdiv_eq_ediv_of_nonneg h0, w64 (by omega) (by omega)]

theorem working_sp : calendar_working c t = some (wkC c t) := by
  obtain ⟨e1, e2, e3, e4, e5, e6⟩ := divs hc h0 h1
  have hd := hc.1
  obtain ⟨i, hi⟩ := bin_spec ((ascB_iff _).1 hc.2.2.2.2.2.2.1) (by have := hc.2.2.2.2.2.1; omega) (t / c.Day)
  unfold calendar_working wkC
  rw [ck_t (show c.Day ≠ 0 by omega), e1, e2, e3, hi]
  simp only [Option.bind_some]
  by_cases b1 : c.From ≤ t % c.Day
  · by_cases b2 : t % c.Day < c.To
    · rw [if_pos (by simpa using b1), if_pos (by simpa using b2), ck_t (show ¬ (t / c.Day) % 7 < 0 by omega)]
      simp only [Option.bind_some, b1, b2, decide_true, Bool.and_self, Bool.true_and]
      cases (bAnd .i64 ((c.Week).fdiv (2 ^ (min (Int.toNat ((t / c.Day) % 7)) IntKind.i64.bits))) 1 == 1) <;> simp
    · rw [if_pos (by simpa using b1), if_neg (by simpa using b2)]; simp [b2]
  · rw [if_neg (by simpa using b1)]; simp [b1]

theorem refworking_sp : ref40_working c t = some (wkC c t) := by
  obtain ⟨e1, e2, e3, e4, e5, e6⟩ := divs hc h0 h1
  have hd := hc.1
  have hlen := hc.2.2.2.2.2.1
  have hit : iter (ref40_working_l0 c t) 0 = some (if t / c.Day ∈ c.Holidays then Sum.inr false else Sum.inl ()) := by
    have key := iter_eq (body := ref40_working_l0 c t) (fun s => ∃ k : Nat, s = (k : Int) ∧ k ≤ c.Holidays.length) (fun s => (c.Holidays.length - s).toNat)
      (fun s => (bif (c.Holidays.drop s.toNat).contains (t / c.Day) then Sum.inr false else Sum.inl () : Unit ⊕ Bool)) ?_ (s := 0) ⟨0, rfl, by omega⟩
    · rw [key]; by_cases h : t / c.Day ∈ c.Holidays <;> simp [h]
    · rintro _ ⟨k, rfl, hk⟩
      unfold ref40_working_l0
      rw [e1]
      by_cases hlt : k < c.Holidays.length
      · rw [if_pos (by simpa using hlt), idx_lt hlt]
        simp only [Option.bind_some, Int.toNat_natCast]
        by_cases b : c.Holidays[k] = t / c.Day
        · right; rw [if_pos (by simpa using b)]
          have : (c.Holidays.drop k).contains (t / c.Day) = true := by rw [List.drop_eq_getElem_cons hlt]; simp [b]
          simp only [this]; rfl
        · left
          rw [if_neg (by simpa using b), w64 (by omega) (by omega)]
          refine ⟨_, rfl, ⟨k + 1, rfl, by omega⟩, by omega, ?_⟩
          have e9 : ((k : Int) + 1).toNat = k + 1 := by omega
          rw [e9]
          have : (c.Holidays.drop k).contains (t / c.Day) = (c.Holidays.drop (k + 1)).contains (t / c.Day) := by rw [List.drop_eq_getElem_cons hlt, List.contains_cons, show ((t / c.Day) == c.Holidays[k]) = false by simpa using Ne.symm b, Bool.false_or]
          simp only [this]
      · right
        rw [if_neg (by simpa using hlt)]
        have : c.Holidays.drop k = [] := List.drop_eq_nil_of_le (by omega)
        simp [this]
  unfold ref40_working wkC
  rw [ck_t (show c.Day ≠ 0 by omega), e1, e2, e3, hit]
  simp only [Option.bind_some]
  by_cases b1 : c.From ≤ t % c.Day
  · by_cases b2 : t % c.Day < c.To
    · rw [if_neg (by simpa using b1), if_neg (by simpa using b2), ck_t (show ¬ (t / c.Day) % 7 < 0 by omega)]
      simp only [Option.bind_some, b1, b2, decide_true, Bool.and_self, Bool.true_and, bAnd1]
      have hz : 0 ≤ (c.Week).fdiv (2 ^ (min (Int.toNat ((t / c.Day) % 7)) IntKind.i64.bits)) % 2 ∧ (c.Week).fdiv (2 ^ (min (Int.toNat ((t / c.Day) % 7)) IntKind.i64.bits)) % 2 < 2 := by omega
      generalize (c.Week).fdiv (2 ^ (min (Int.toNat ((t / c.Day) % 7)) IntKind.i64.bits)) % 2 = z at *
      by_cases hz0 : z = 0
      · simp [hz0]
      · have : z = 1 := by omega
        subst this
        by_cases hm : t / c.Day ∈ c.Holidays <;> simp [hm]
    · rw [if_neg (by simpa using b1), if_pos (by simpa using b2)]; simp [b2]
  · rw [if_pos (by simpa using b1)]; simp [b1]
end

/-- the working ticks among n from a on -/
def cntC (c : api_Calendar) : Nat → Int → Int
  | 0, _ => 0
  | n + 1, a => (if wkC c a then 1 else 0) + cntC c n (a + 1)
theorem cntC_bd (c : api_Calendar) : ∀ (n : Nat) (a : Int), 0 ≤ cntC c n a ∧ cntC c n a ≤ n
  | 0, a => by simp [cntC]
  | n + 1, a => by have := cntC_bd c n (a + 1); simp only [cntC]; split <;> omega
theorem cntC_add (c : api_Calendar) : ∀ (n m : Nat) (a : Int), cntC c (n + m) a = cntC c n a + cntC c m (a + n)
  | 0, m, a => by simp [cntC]
  | n + 1, m, a => by
    rw [show n + 1 + m = (n + m) + 1 by omega]
    simp only [cntC]
    rw [cntC_add c n m (a + 1), show a + 1 + (n : Int) = a + ((n + 1 : Nat) : Int) by omega]
    omega

def maxT : Int := 1099511627776
def betw (c : api_Calendar) (a b : Int) : Int × Int :=
  if ¬ OkC c then (0, 42) else if ¬ (0 ≤ a ∧ a ≤ maxT ∧ 0 ≤ b ∧ b ≤ maxT ∧ a ≤ b) then (0, 2) else if 100000 < b - a then (0, 3) else (cntC c (b - a).toNat a, 0)

theorem betw_loop {c : api_Calendar} (hc : OkC c) {body : Int × Int → Option (Lp (Int × Int) Int)} {b : Int} (hb : b ≤ maxT)
    (h : ∀ s : Int × Int, 0 ≤ s.2 → s.2 ≤ maxT → body s = if (decide (s.2 < b)) = true then (if wkC c s.2 = true then some (.go (IntKind.i64.wrap (s.1 + 1), IntKind.i64.wrap (s.2 + 1))) else some (.go (s.1, IntKind.i64.wrap (s.2 + 1)))) else some (.out s.1))
    {a : Int} (ha : 0 ≤ a) (hab : a ≤ b) : iter body (0, a) = some (cntC c (b - a).toNat a) := by
  have key := iter_eq (body := body) (fun s => a ≤ s.2 ∧ s.2 ≤ b ∧ 0 ≤ s.1 ∧ s.1 ≤ s.2 - a) (fun s => (b - s.2).toNat) (fun s => s.1 + cntC c (b - s.2).toNat s.2) ?_ (s := (0, a)) ⟨by simp, by simpa using hab, by simp, by simp⟩
  · simpa using key
  · rintro ⟨x, t⟩ ⟨h1, h2, h3, h4⟩
    simp only at h1 h2 h3 h4
    unfold maxT at *
    rw [h (x, t) (by simp <;> omega) (by simp <;> omega)]
    by_cases hlt : t < b
    · left
      rw [if_pos (by simpa using hlt)]
      simp only
      have e : (b - t).toNat = (b - (t + 1)).toNat + 1 := by omega
      rw [w64 (by omega) (by omega), w64 (by omega) (by omega), e]
      simp only [cntC]
      cases hw : wkC c t with
      | true =>
        rw [if_pos rfl]
        exact ⟨_, rfl, ⟨by simp <;> omega, by simp <;> omega, by simp <;> omega, by simp <;> omega⟩, by simp <;> omega, by simp <;> omega⟩
      | false =>
        rw [if_neg (by simp)]
        exact ⟨_, rfl, ⟨by simp <;> omega, by simp <;> omega, by simp <;> omega, by simp <;> omega⟩, by simp <;> omega, by simp⟩
    · right
      rw [if_neg (by simpa using hlt), show (b - t).toNat = 0 by omega]
      simp [cntC]

theorem tick_sp (t : Int) : calendar_tick t = some (decide (0 ≤ t) && decide (t ≤ maxT)) := by unfold calendar_tick maxT; rw [among_sp]; rfl

/-- the tick at which n working ticks from u on are over, if it is among the next f -/
def addC (c : api_Calendar) : Nat → Int → Int → Option Int
  | 0, _, _ => none
  | f + 1, n, u => if n = 0 then some u else addC c f (if wkC c u then n - 1 else n) (u + 1)
def limT (t : Int) : Int := if t + 100000 > maxT then maxT else t + 100000
def addS (c : api_Calendar) (t n : Int) : Int × Int :=
  if ¬ OkC c then (0, 42) else if ¬ (0 ≤ t ∧ t ≤ maxT ∧ 0 ≤ n ∧ n ≤ 1000) then (0, 2) else match addC c (limT t - t + 1).toNat n t with | some u => (u, 0) | none => (0, 41)

theorem add_sp (c : api_Calendar) (t n : Int) : calendar_Add c t n = some (addS c t n) := by
  unfold calendar_Add addS
  rw [check_sp]
  by_cases hc : OkC c
  case neg => simp [hc]
  simp only [hc, if_true, Option.bind_some, tick_sp, among_sp, not_true, if_false]
  rw [if_neg (by simp)]
  have hm : maxT = 1099511627776 := rfl
  by_cases h1 : 0 ≤ t ∧ t ≤ maxT
  case neg =>
    rw [if_pos (by simp <;> omega)]
    simp only [Option.bind_some, if_true]
    rw [if_pos (by omega)]
  rw [if_neg (by simp <;> omega)]
  simp only [Option.bind_some]
  by_cases h2 : 0 ≤ n ∧ n ≤ 1000
  case neg => rw [if_pos (by simp <;> omega), if_pos (by omega)]
  rw [if_neg (by simp <;> omega), if_neg (by omega)]
  have hl : (if 1099511627776 < IntKind.i64.wrap (t + 100000) then 1099511627776 else IntKind.i64.wrap (t + 100000)) = limT t := by
    rw [w64 (by omega) (by omega)]; rfl
  have hlim : t ≤ limT t ∧ limT t ≤ maxT ∧ limT t ≤ t + 100000 := by unfold limT; split <;> omega
  have key := iter_eq (body := calendar_Add_l0 t c) (fun s => t ≤ s.2 ∧ s.2 ≤ limT t + 1 ∧ 0 ≤ s.1 ∧ s.1 ≤ n) (fun s => (limT t + 1 - s.2).toNat)
    (fun s => match addC c (limT t - s.2 + 1).toNat s.1 s.2 with | some u => .inr (u, 0) | none => .inl ()) ?_ (s := (n, t)) ⟨by simp, by simp <;> omega, by simpa using h2.1, by simp⟩
  · rw [key]
    simp only [Option.bind_some]
    cases addC c (limT t - t + 1).toNat n t <;> rfl
  · rintro ⟨x, u⟩ ⟨g1, g2, g3, g4⟩
    simp only at g1 g2 g3 g4 ⊢
    unfold calendar_Add_l0
    rw [hl]
    by_cases b1 : u ≤ limT t
    · rw [if_pos (by simpa using b1)]
      have e : (limT t - u + 1).toNat = (limT t - (u + 1) + 1).toNat + 1 := by omega
      rw [e]
      simp only [addC]
      by_cases b2 : x = 0
      · right; rw [if_pos (by simpa using b2)]; simp [b2]
      · left
        rw [if_neg (by simpa using b2), if_neg b2, working_sp hc (by omega) (by omega)]
        simp only [Option.bind_some]
        rw [w64 (by omega) (by omega), w64 (by omega) (by omega)]
        cases hw : wkC c u with
        | true => rw [if_pos rfl]; exact ⟨_, rfl, by simp <;> omega, by simp <;> omega, by simp⟩
        | false => rw [if_neg (by simp)]; exact ⟨_, rfl, by simp <;> omega, by simp <;> omega, by simp⟩
    · right
      rw [if_neg (by simpa using b1), show (limT t - u + 1).toNat = 0 by omega]
      rfl
theorem refadd_sp (c : api_Calendar) (t n : Int) : ref40_Add c t n = some (addS c t n) := by
  unfold ref40_Add addS
  rw [refvalid_sp]
  by_cases hc : OkC c
  case neg => simp [hc]
  simp only [hc, decide_true, Option.bind_some, in_sp, not_true, if_false]
  rw [if_neg (by simp)]
  have hm : maxT = 1099511627776 := rfl
  by_cases h1 : 0 ≤ t ∧ t ≤ maxT
  case neg =>
    rw [if_pos (by simp <;> omega)]
    simp only [Option.bind_some, if_true]
    rw [if_pos (by omega)]
  rw [if_neg (by simp <;> omega)]
  simp only [Option.bind_some]
  by_cases h2 : 0 ≤ n ∧ n ≤ 1000
  case neg => rw [if_pos (by simp <;> omega), if_pos (by omega)]
  rw [if_neg (by simp <;> omega), if_neg (by omega)]
  have hlim : t ≤ limT t ∧ limT t ≤ maxT ∧ limT t ≤ t + 100000 ∧ (limT t = maxT ∨ limT t = t + 100000) := by unfold limT; split <;> omega
  have key := iter_eq (body := ref40_Add_l0 t c) (fun s => t ≤ s.2 ∧ s.2 ≤ limT t ∧ 0 ≤ s.1 ∧ s.1 ≤ n) (fun s => (limT t + 1 - s.2).toNat)
    (fun s => match addC c (limT t - s.2 + 1).toNat s.1 s.2 with | some u => .inl u | none => .inr (0, 41)) ?_ (s := (n, t)) ⟨by simp, by simp <;> omega, by simpa using h2.1, by simp⟩
  · rw [key]
    simp only [Option.bind_some]
    cases addC c (limT t - t + 1).toNat n t <;> rfl
  · rintro ⟨x, u⟩ ⟨g1, g2, g3, g4⟩
    simp only at g1 g2 g3 g4 ⊢
    unfold ref40_Add_l0
    have e : (limT t - u + 1).toNat = (limT t - u).toNat + 1 := by omega
    rw [e]
    simp only [addC, Option.bind_some]
    by_cases b2 : x = 0
    · right; rw [if_neg (by simp <;> omega)]; simp [b2]
    · rw [if_pos (by simp <;> omega), if_neg b2, w64 (x := t + 100000) (by omega) (by omega)]
      by_cases b3 : u = limT t
      · right
        rw [if_pos (by simp <;> omega), show (limT t - u).toNat = 0 by omega]
        rfl
      · left
        rw [if_neg (by simp <;> omega), refworking_sp hc (by omega) (by omega)]
        simp only [Option.bind_some]
        rw [w64 (by omega) (by omega), w64 (by omega) (by omega)]
        have e2 : (limT t - u).toNat = (limT t - (u + 1) + 1).toNat := by omega
        cases hw : wkC c u with
        | true => rw [if_pos rfl]; exact ⟨_, rfl, by simp <;> omega, by simp <;> omega, by simp [e2]⟩
        | false => rw [if_neg (by simp)]; exact ⟨_, rfl, by simp <;> omega, by simp <;> omega, by simp [e2]⟩

def nextC (c : api_Calendar) : Nat → Int → Option Int
  | 0, _ => none
  | f + 1, u => if wkC c u then some u else nextC c f (u + 1)
def nextS (c : api_Calendar) (t : Int) : Int × Int :=
  if ¬ OkC c then (0, 42) else if ¬ (0 ≤ t ∧ t ≤ maxT) then (0, 2) else match nextC c (limT t - t + 1).toNat t with | some u => (u, 0) | none => (0, 41)
def workS (c : api_Calendar) (t : Int) : Bool := decide (OkC c) && (decide (0 ≤ t) && decide (t ≤ maxT)) && wkC c t

/-- a tape that stands in its list -/
def TapeOk (m : make_Tape) : Prop := 0 ≤ m.at_ ∧ m.L.length ≤ 1000000
def tnextV (m : make_Tape) (n : Int) : Int := if (m.L.length : Int) ≤ m.at_ then 0 else ((m.L[m.at_.toNat]?.getD 0) % 65536) % n
def tnextT (m : make_Tape) : make_Tape := if (m.L.length : Int) ≤ m.at_ then m else ⟨m.L, m.at_ + 1⟩
theorem tnextT_ok {m : make_Tape} (h : TapeOk m) : TapeOk (tnextT m) := by
  unfold tnextT; split
  · exact h
  · exact ⟨by have := h.1; simp <;> omega, h.2⟩
theorem tnextV_bd (m : make_Tape) {n : Int} (hn : 0 < n) : 0 ≤ tnextV m n ∧ tnextV m n < n := by
  unfold tnextV; split
  · omega
  · exact ⟨Int.emod_nonneg _ (by omega), Int.emod_lt_of_pos _ hn⟩
theorem next_spT {m : make_Tape} (h : TapeOk m) {n : Int} (hn : 0 < n) : make_Tape_Next m n = some (tnextV m n, tnextT m) := by
  obtain ⟨h1, h2⟩ := h
  unfold make_Tape_Next tnextV tnextT
  by_cases hb : (m.L.length : Int) ≤ m.at_
  · rw [if_pos (by simpa using hb), if_pos hb, if_pos hb]
  · rw [if_neg (by simpa using hb), if_neg hb, if_neg hb, idx_toNat h1 (by omega), List.getElem?_eq_getElem (show m.at_.toNat < m.L.length by omega)]
    simp only [Option.bind_some, ck_t (show n ≠ 0 by omega), Option.getD_some, bAnd16]
    rw [Int.tmod_eq_emod_of_nonneg (Int.emod_nonneg _ (by omega)), w64 (by omega) (by omega)]
theorem between_spT {m : make_Tape} (h : TapeOk m) {a b : Int} (hab : a ≤ b) (ha : -1000000 ≤ a) (hb : b ≤ 1000000) : make_Tape_Between m a b = some (a + tnextV m (b - a + 1), tnextT m) := by
  have := tnextV_bd m (n := b - a + 1) (by omega)
  unfold make_Tape_Between
  rw [w64 (x := b - a) (by omega) (by omega), w64 (x := b - a + 1) (by omega) (by omega), next_spT h (by omega)]
  simp only [Option.bind_some]
  rw [w64 (by omega) (by omega)]
theorem pick_spT {m : make_Tape} (h : TapeOk m) {l : List Int} (hl : 0 < l.length) : ∃ x ∈ l, make_Pick m l = some (x, tnextT m) := by
  have hb := tnextV_bd m (n := (l.length : Int)) (by omega)
  unfold make_Pick
  rw [next_spT h (by omega)]
  simp only [Option.bind_some]
  refine ⟨l[(tnextV m (l.length : Int)).toNat]'(by omega), List.getElem_mem _, ?_⟩
  rw [idx_toNat hb.1 (by omega)]
  rfl
theorem few_spT {m : make_Tape} (h : TapeOk m) : ∃ (l : List Int) (m' : make_Tape), make_Few m 12 4 = some (l, m') ∧ TapeOk m' ∧ l.Pairwise (· < ·) ∧ (∀ x ∈ l, 0 ≤ x ∧ x < 12) ∧ l.length ≤ 12 := by
  unfold make_Few
  have key : ∃ e, iter (make_Few_l0 12 4) (0, m.L, m.at_, []) = some e ∧ (TapeOk ⟨e.1, e.2.1⟩ ∧ e.2.2.Pairwise (· < ·) ∧ (∀ x ∈ e.2.2, 0 ≤ x ∧ x < 12) ∧ (e.2.2.length : Int) ≤ 12) := by
    refine iter_ex (body := make_Few_l0 12 4) (fun s => 0 ≤ s.1 ∧ s.1 ≤ 12 ∧ TapeOk ⟨s.2.1, s.2.2.1⟩ ∧ s.2.2.2.Pairwise (· < ·) ∧ (∀ x ∈ s.2.2.2, 0 ≤ x ∧ x < s.1) ∧ (s.2.2.2.length : Int) ≤ s.1) (fun s => (12 - s.1).toNat) _ ?_ ⟨by simp, by simp, h, .nil, by simp, by simp⟩
    rintro ⟨i, L, p, out⟩ ⟨g1, g2, g3, g4, g5, g6⟩
    simp only at g1 g2 g3 g4 g5 g6
    unfold make_Few_l0
    simp only
    by_cases hi : i < 12
    · left
      rw [if_pos (by simpa using hi), next_spT g3 (by omega)]
      simp only [Option.bind_some]
      rw [w64 (x := i + 1) (by omega) (by omega)]
      split
      · rw [ck_t (by simp <;> omega)]
        refine ⟨_, rfl, ⟨by simp <;> omega, by simp <;> omega, tnextT_ok g3, ?_, ?_, ?_⟩, by simp <;> omega⟩
        · rw [List.pairwise_append]
          exact ⟨g4, List.pairwise_singleton _ _, fun a ha b hb => by simp at hb; subst hb; exact (g5 a ha).2⟩
        · intro x hx
          simp only [List.mem_append, List.mem_singleton] at hx
          rcases hx with hx | rfl
          · have := g5 x hx; simp only; omega
          · simp only; omega
        · simp <;> omega
      · refine ⟨_, rfl, ⟨by simp <;> omega, by simp <;> omega, tnextT_ok g3, g4, fun x hx => ?_, ?_⟩, by simp <;> omega⟩
        · have := g5 x hx; simp only; omega
        · simp only; omega
    · right
      rw [if_neg (by simpa using hi)]
      exact ⟨_, rfl, g3, g4, fun x hx => by have := g5 x hx; show 0 ≤ x ∧ x < 12; omega, by show (out.length : Int) ≤ 12; omega⟩
  obtain ⟨e, he, h1, h2, h3, h4⟩ := key
  rw [he]
  exact ⟨_, _, rfl, h1, h2, h3, by omega⟩

/-- what the tape's calendars are like -/
structure MadeC (c : api_Calendar) : Prop where
  ok : OkC c
  day : 1 ≤ c.Day ∧ c.Day ≤ 12
  week : c.Week ∈ [31, 127, 62, 1]
  hol : ∀ x ∈ c.Holidays, 0 ≤ x ∧ x < 12
  len : c.Holidays.length ≤ 12
theorem calendar_spT {m : make_Tape} (h : TapeOk m) : ∃ (c : api_Calendar) (m' : make_Tape), make_Calendar m = some (c, m') ∧ TapeOk m' ∧ MadeC c := by
  have d := tnextV_bd m (n := 12 - 1 + 1) (by omega)
  unfold make_Calendar
  rw [between_spT h (by omega) (by omega) (by omega)]
  simp only [Option.bind_some]
  have h1 := tnextT_ok h
  obtain ⟨w, hw, e2⟩ := pick_spT h1 (l := [31, 127, 62, 1]) (by simp)
  rw [e2]
  simp only [Option.bind_some]
  have h2 := tnextT_ok h1
  have f := tnextV_bd (tnextT (tnextT m)) (n := 1 + tnextV m (12 - 1 + 1)) (by omega)
  rw [next_spT h2 (by omega)]
  simp only [Option.bind_some]
  have h3 := tnextT_ok h2
  rw [w64 (by omega) (by omega), between_spT h3 (by omega) (by omega) (by omega)]
  simp only [Option.bind_some]
  have h4 := tnextT_ok h3
  obtain ⟨l, m', e5, k1, k2, k3, k4⟩ := few_spT h4
  rw [e5]
  simp only [Option.bind_some]
  generalize tnextV (tnextT (tnextT m)) (1 + tnextV m (12 - 1 + 1)) = fr at *
  have t := tnextV_bd (tnextT (tnextT (tnextT m))) (n := 1 + tnextV m (12 - 1 + 1) - (fr + 1) + 1) (by omega)
  refine ⟨_, _, rfl, k1, ⟨⟨by simp only; omega, by simp only; omega, by simp only; omega, by simp only; omega, ?_, by simp only; omega, (ascB_iff _).2 k2, fun x hx => (k3 x hx).1⟩, by simp only; omega, hw, k3, k4⟩⟩
  simp only [List.mem_cons, List.not_mem_nil, or_false] at hw
  simp only; omega

/-! How many working ticks there are -/
theorem addC_some {c : api_Calendar} : ∀ {f : Nat} {n u v : Int}, 0 ≤ n → addC c f n u = some v → u ≤ v ∧ v < u + f ∧ cntC c (v - u).toNat u = n ∧ (0 < n → u < v ∧ wkC c (v - 1) = true)
  | 0, n, u, v, _, h => by simp [addC] at h
  | f + 1, n, u, v, hn, h => by
    simp only [addC] at h
    by_cases h0 : n = 0
    · rw [if_pos h0] at h
      cases h
      subst h0
      refine ⟨by omega, by omega, by simp [cntC], fun h => by omega⟩
    · rw [if_neg h0] at h
      cases hw : wkC c u with
      | true =>
        rw [hw, if_pos rfl] at h
        obtain ⟨g1, g2, g3, g4⟩ := addC_some (by omega) h
        have e : (v - u).toNat = (v - (u + 1)).toNat + 1 := by omega
        refine ⟨by omega, by omega, ?_, fun _ => ⟨by omega, ?_⟩⟩
        · rw [e]; simp only [cntC]; rw [hw, if_pos rfl, g3]; omega
        · by_cases h1 : 0 < n - 1
          · exact (g4 h1).2
          · have hn1 : n - 1 = 0 := by omega
            rw [hn1] at h
            cases f with
            | zero => simp [addC] at h
            | succ f => simp [addC] at h; rw [← h, show u + 1 - 1 = u by omega]; exact hw
      | false =>
        rw [hw, if_neg (by simp)] at h
        obtain ⟨g1, g2, g3, g4⟩ := addC_some hn h
        have e : (v - u).toNat = (v - (u + 1)).toNat + 1 := by omega
        refine ⟨by omega, by omega, ?_, fun h1 => ⟨by omega, (g4 h1).2⟩⟩
        rw [e]; simp only [cntC]; rw [hw, if_neg (by simp), g3]; omega
theorem addC_ex {c : api_Calendar} : ∀ {f k : Nat} {n u : Int}, 0 ≤ n → n ≤ cntC c k u → k < f → ∃ v, addC c f n u = some v ∧ v ≤ u + k
  | 0, k, n, u, _, _, h => by omega
  | f + 1, k, n, u, hn, hc, hk => by
    simp only [addC]
    by_cases h0 : n = 0
    · exact ⟨u, by rw [if_pos h0], by omega⟩
    · rw [if_neg h0]
      cases k with
      | zero => simp [cntC] at hc; omega
      | succ k =>
        simp only [cntC] at hc
        cases hw : wkC c u with
        | true =>
          rw [hw, if_pos rfl] at hc
          obtain ⟨v, g1, g2⟩ := addC_ex (c := c) (f := f) (k := k) (n := n - 1) (u := u + 1) (by omega) (by omega) (by omega)
          exact ⟨v, g1, by omega⟩
        | false =>
          rw [hw, if_neg (by simp)] at hc
          obtain ⟨v, g1, g2⟩ := addC_ex (c := c) (f := f) (k := k) (n := n) (u := u + 1) hn (by omega) (by omega)
          exact ⟨v, g1, by omega⟩
theorem addC_more {c : api_Calendar} : ∀ {f f' : Nat} {n u v : Int}, addC c f n u = some v → f ≤ f' → addC c f' n u = some v
  | 0, _, _, _, _, h, _ => by simp [addC] at h
  | f + 1, 0, _, _, _, _, h => by omega
  | f + 1, f' + 1, n, u, v, h, hf => by
    simp only [addC] at h ⊢
    split
    · rename_i h0; rwa [if_pos h0] at h
    · rename_i h0; rw [if_neg h0] at h; exact addC_more h (by omega)
theorem addC_two {c : api_Calendar} : ∀ {f : Nat} {a b t u v : Int} {f' : Nat}, 0 ≤ a → 0 ≤ b → addC c f a t = some u → addC c f' b u = some v → addC c (f + f') (a + b) t = some v
  | 0, _, _, _, _, _, _, _, _, h, _ => by simp [addC] at h
  | f + 1, a, b, t, u, v, f', ha, hb, h, h2 => by
    simp only [addC] at h
    by_cases h0 : a = 0
    · rw [if_pos h0] at h
      cases h
      rw [h0, Int.zero_add]
      exact addC_more h2 (by omega)
    · rw [if_neg h0] at h
      rw [show f + 1 + f' = (f + f') + 1 by omega]
      simp only [addC]
      rw [if_neg (by omega)]
      have := addC_two (a := if wkC c t then a - 1 else a) (by split <;> omega) hb h h2
      have e : (if wkC c t then a + b - 1 else a + b) = (if wkC c t then a - 1 else a) + b := by split <;> omega
      rw [e]; exact this

theorem wk_at {c : api_Calendar} (h : MadeC c) {d : Int} (hd : 12 ≤ d) (hw : d % 7 = if c.Week = 62 then 1 else 0) : wkC c (d * c.Day + c.From) = true := by
  obtain ⟨hD, hF, hFT, hTD, _⟩ := h.ok
  have hf : 0 ≤ c.From ∧ c.From < c.Day := by omega
  have e1 : (d * c.Day + c.From) / c.Day = d := by
    rw [Int.add_comm, Int.add_mul_ediv_right _ _ (by omega), Int.ediv_eq_zero_of_lt hf.1 hf.2]; omega
  have e2 : (d * c.Day + c.From) % c.Day = c.From := by
    rw [Int.add_comm, Int.add_mul_emod_self_right, Int.emod_eq_of_lt hf.1 hf.2]
  unfold wkC
  rw [e1, e2, bAnd1, hw]
  have hnm : ¬ d ∈ c.Holidays := fun hm => by have := h.hol d hm; omega
  have hwk := h.week
  simp only [List.mem_cons, List.not_mem_nil, or_false] at hwk
  have hb : ((c.Week).fdiv (2 ^ (min (Int.toNat (if c.Week = 62 then 1 else 0)) IntKind.i64.bits))) % 2 = 1 := by
    rcases hwk with e | e | e | e <;> rw [e] <;> decide
  simp [hFT, hnm, hb]

theorem wk_soon {c : api_Calendar} (h : MadeC c) {u : Int} (hu : 0 ≤ u) : ∃ v, u ≤ v ∧ v < u + 300 ∧ wkC c v = true := by
  obtain ⟨hD, hF, hFT, hTD, _⟩ := h.ok
  have hd := h.day
  have hq : 0 ≤ u / c.Day := Int.ediv_nonneg hu (by omega)
  let e : Int := if u / c.Day < 12 then 12 else u / c.Day + 1
  let d : Int := 7 * (e / 7 + 1) + (if c.Week = 62 then 1 else 0)
  have he : 12 ≤ e ∧ u / c.Day + 1 ≤ e ∧ e ≤ u / c.Day + 13 := by simp only [e]; split <;> omega
  have hdd : e < d ∧ d ≤ e + 8 ∧ d % 7 = if c.Week = 62 then 1 else 0 := by simp only [d]; split <;> omega
  refine ⟨d * c.Day + c.From, ?_, ?_, wk_at h (by omega) hdd.2.2⟩
  · have h1 : u < (u / c.Day + 1) * c.Day := by
      have := Int.lt_ediv_add_one_mul_self u (show 0 < c.Day by omega); exact this
    have h2 : (u / c.Day + 1) * c.Day ≤ d * c.Day := Int.mul_le_mul_of_nonneg_right (by omega) (by omega)
    omega
  · have h1 : u / c.Day * c.Day ≤ u := Int.ediv_mul_le u (by omega)
    have h2 : d * c.Day ≤ (u / c.Day + 21) * c.Day := Int.mul_le_mul_of_nonneg_right (by omega) (by omega)
    have h3 : (u / c.Day + 21) * c.Day = u / c.Day * c.Day + 21 * c.Day := Int.add_mul _ _ _
    clear_value d e
    omega
theorem cnt_one {c : api_Calendar} {u v : Int} (h1 : u ≤ v) (h3 : wkC c v = true) : ∀ n : Nat, v < u + n → 1 ≤ cntC c n u := by
  intro n hn
  have hs : n = (v - u).toNat + (1 + (n - (v - u).toNat - 1)) := by omega
  rw [hs, cntC_add, cntC_add]
  have a1 := (cntC_bd c (v - u).toNat u).1
  have a2 := (cntC_bd c (n - (v - u).toNat - 1) (u + ((v - u).toNat : Nat) + (1 : Nat))).1
  have a3 : cntC c 1 (u + ((v - u).toNat : Nat)) = 1 := by
    simp only [cntC]
    rw [show u + ((v - u).toNat : Nat) = v by omega, h3]; rfl
  omega
theorem cnt_many {c : api_Calendar} (h : MadeC c) : ∀ (k : Nat) {u : Int}, 0 ≤ u → (k : Int) ≤ cntC c (300 * k) u
  | 0, u, _ => by simp [cntC]
  | k + 1, u, hu => by
    rw [show 300 * (k + 1) = 300 + 300 * k by omega, cntC_add]
    obtain ⟨v, h1, h2, h3⟩ := wk_soon h hu
    have := cnt_one h1 h3 300 (by omega)
    have := cnt_many h k (u := u + (300 : Nat)) (by omega)
    omega

/-- adding succeeds -/
theorem add_ok {c : api_Calendar} (h : MadeC c) {t n : Int} (ht : 0 ≤ t) (ht2 : t ≤ 1000000) (hn : 0 ≤ n) (hn2 : n ≤ 100) : ∃ v, addS c t n = (v, 0) ∧ addC c 100001 n t = some v ∧ t ≤ v ∧ v ≤ t + 30000 ∧ cntC c (v - t).toNat t = n ∧ (0 < n → t < v ∧ wkC c (v - 1) = true) := by
  have hc := cnt_many h n.toNat ht
  obtain ⟨v, g1, g2⟩ := addC_ex (c := c) (f := 100001) (k := 300 * n.toNat) (n := n) (u := t) hn (by omega) (by omega)
  obtain ⟨k1, k2, k3, k4⟩ := addC_some hn g1
  have hl : limT t = t + 100000 := by unfold limT maxT; rw [if_neg (by omega)]
  refine ⟨v, ?_, g1, k1, by omega, k3, k4⟩
  unfold addS
  rw [if_neg (by simpa using h.ok), if_neg (show ¬ ¬ (0 ≤ t ∧ t ≤ maxT ∧ 0 ≤ n ∧ n ≤ 1000) by unfold maxT; omega), hl, show (t + 100000 - t + 1).toNat = 100001 by omega, g1]
theorem betw_ok {c : api_Calendar} (h : OkC c) {a b : Int} (ha : 0 ≤ a) (hab : a ≤ b) (hb : b ≤ 10000000) (hd : b - a ≤ 100000) : betw c a b = (cntC c (b - a).toNat a, 0) := by
  unfold betw
  rw [if_neg (by simpa using h), if_neg (show ¬ ¬ (0 ≤ a ∧ a ≤ maxT ∧ 0 ≤ b ∧ b ≤ maxT ∧ a ≤ b) by unfold maxT; omega), if_neg (by omega)]
theorem work_ok {c : api_Calendar} (h : OkC c) {t : Int} (ht : 0 ≤ t) (ht2 : t ≤ 10000000) : workS c t = wkC c t := by
  unfold workS maxT
  simp [h, ht]; intro _; omega
end Go.Vl
