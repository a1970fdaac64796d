/- Plain laws of calendars: what the functions of the program and of the reference compute. Conditions: none. -/
import Derived.Test.YtphnihphnboneaaCalm
import Derived.Test.YtphnihphnboneaaPlA
set_option linter.unusedSimpArgs false
set_option linter.unusedVariables false
namespace Go.Vl
open Go

theorem less_int (a b : Int) : cmp_Less_int a b = some (decide (a < b)) := by simp [cmp_Less_int, cmp_isNaN_int]

theorem half {x : Int} (h0 : 0 ≤ x) (h1 : x ≤ 4611686018427387904) : IntKind.i64.wrap ((IntKind.u64.wrap (IntKind.i64.wrap x)).fdiv (2 ^ (min 1 IntKind.u64.bits))) = x / 2 := by
  rw [w64 (x := x) (by omega) (by omega), wu64 h0 (by omega)]
  have : (2 : Int) ^ (min 1 IntKind.u64.bits) = 2 := rfl
  rw [this, Int.fdiv_eq_ediv_of_nonneg _ (by omega), w64 (by omega) (by omega)]

theorem bin_spec {l : List Int} (hs : l.Pairwise (· < ·)) (hl : l.length ≤ 1000000) (x : Int) : ∃ i : Int, slices_BinarySearch_int l x = some (i, decide (x ∈ l)) := by
  have key : ∃ e : Int, iter (slices_BinarySearch_int_l0 l x) (0, (l.length : Int)) = some e ∧ ∃ i : Nat, e = i ∧ i ≤ l.length ∧ (∀ k (hk : k < l.length), k < i → l[k] < x) ∧ (∀ k (hk : k < l.length), i ≤ k → x ≤ l[k]) := by
    refine iter_ex (fun s => ∃ i j : Nat, s = ((i : Int), (j : Int)) ∧ i ≤ j ∧ j ≤ l.length ∧ (∀ k (hk : k < l.length), k < i → l[k] < x) ∧ (∀ k (hk : k < l.length), j ≤ k → x ≤ l[k])) (fun s => (s.2 - s.1).toNat) _ ?_
      ⟨0, l.length, rfl, by omega, by omega, fun k hk h => by omega, fun k hk h => by omega⟩
    rintro _ ⟨i, j, rfl, hij, hj, h1, h2⟩
    unfold slices_BinarySearch_int_l0
    by_cases hlt : i < j
    · left
      rw [if_pos (by simp <;> omega)]
      simp only
      rw [half (by omega) (by omega)]
      have hm : ((i : Int) + j) / 2 = (((i + j) / 2 : Nat) : Int) := by omega
      rw [hm]
      generalize hmd : (i + j) / 2 = m
      have hmi : i ≤ m ∧ m < j := by omega
      rw [idx_lt (by omega : m < l.length)]
      simp only [Option.bind_some, less_int]
      by_cases hx : l[m] < x
      · rw [if_pos (by simpa using hx), w64 (by omega) (by omega)]
        refine ⟨_, rfl, ⟨m + 1, j, rfl, by omega, hj, fun k hk h => ?_, h2⟩, by simp <;> omega⟩
        rcases Nat.lt_succ_iff_lt_or_eq.1 h with h | h
        · exact Int.lt_trans (sorted_split hs h (by omega)) hx
        · subst h; exact hx
      · rw [if_neg (by simpa using hx)]
        refine ⟨_, rfl, ⟨i, m, rfl, by omega, by omega, h1, fun k hk h => ?_⟩, by simp <;> omega⟩
        rcases Nat.lt_or_eq_of_le h with h | h
        · have := sorted_split hs h hk; omega
        · subst h; omega
    · right
      rw [if_neg (by simp <;> omega)]
      have : i = j := by omega
      subst this
      exact ⟨_, rfl, i, rfl, hj, h1, h2⟩
  obtain ⟨e, he, i, rfl, hi, h1, h2⟩ := key
  refine ⟨i, ?_⟩
  unfold slices_BinarySearch_int
  rw [he]
  have hm := mem_at hs h1 h2 hi
  simp only [Option.bind_some]
  by_cases hlt : i < l.length
  · rw [if_pos (by simpa using hlt), idx_lt hlt]
    simp only [Option.bind_some, slices_isNaN_int]
    by_cases hx : l[i] = x
    · have hmem : x ∈ l := hm.1 ⟨hlt, hx⟩
      simp [hx, hmem]
    · have hmem : ¬ x ∈ l := fun h => by obtain ⟨_, h⟩ := hm.2 h; exact hx h
      simp [hx, hmem]
  · rw [if_neg (by simpa using hlt)]
    have hmem : ¬ x ∈ l := fun h => by obtain ⟨h, _⟩ := hm.2 h; exact hlt h
    simp [hmem]

def OkC (c : api_Calendar) : Prop := (1 ≤ c.Day ∧ c.Day ≤ 48) ∧ 0 ≤ c.From ∧ c.From < c.To ∧ c.To ≤ c.Day ∧ (0 ≤ c.Week ∧ c.Week ≤ 127) ∧ c.Holidays.length ≤ 40 ∧ ascB c.Holidays = true ∧ ∀ h ∈ c.Holidays, 0 ≤ h
instance (c : api_Calendar) : Decidable (OkC c) := by unfold OkC; infer_instance

theorem among_sp (a b c : Int) : calendar_among a b c = some (decide (b ≤ a) && decide (a ≤ c)) := rfl
theorem in_sp (a b c : Int) : ref40_in a b c = some (decide (b ≤ a) && decide (a ≤ c)) := rfl

theorem asc_drop {l : List Int} {k : Nat} (hk : k + 1 < l.length) : ascB (l.drop k) = (decide (l[k] < l[k+1]) && ascB (l.drop (k + 1))) := by
  rw [List.drop_eq_getElem_cons (show k < l.length by omega), List.drop_eq_getElem_cons hk]; rfl
theorem asc_end {l : List Int} {k : Nat} (hk : l.length ≤ k + 1) : ascB (l.drop k) = true := by
  have : (l.drop k).length ≤ 1 := by simp <;> omega
  match h : l.drop k with
  | [] => rfl
  | [_] => rfl
  | _ :: _ :: _ => rw [h] at this; simp at this

theorem ascending_sp {l : List Int} (hl : l.length ≤ 1000) : directory_Ascending l = some (ascB l) := by
  unfold directory_Ascending
  rw [iter_eq (fun s => ∃ k : Nat, s = (k : Int) + 1 ∧ k ≤ l.length) (fun s => (l.length + 1 - s).toNat) (fun s => if ascB (l.drop (s - 1).toNat) then .inl () else .inr false) ?_ (s := 1) ⟨0, rfl, by omega⟩]
  · simp only [Option.bind_some]
    cases h : ascB l <;> simp [h]
  · rintro _ ⟨k, rfl, hk⟩
    have e0 : ((k : Int) + 1 - 1).toNat = k := by omega
    unfold directory_Ascending_l0
    by_cases hlt : k + 1 < l.length
    · rw [if_pos (by simp <;> omega), w64 (by omega) (by omega), show (k : Int) + 1 - 1 = (k : Int) by omega, idx_lt (by omega : k < l.length), show (k : Int) + 1 = ((k + 1 : Nat) : Int) by omega, idx_lt hlt]
      simp only [Option.bind_some]
      by_cases hx : l[k+1] ≤ l[k]
      · right
        rw [if_pos (by simpa using hx)]
        have : ascB (l.drop k) = false := by rw [asc_drop hlt]; simp; intro h; omega
        simp [this]
      · left
        rw [if_neg (by simpa using hx), w64 (by omega) (by omega)]
        refine ⟨_, rfl, ⟨k + 1, rfl, by omega⟩, by omega, ?_⟩
        have e1 : (((k + 1 : Nat) : Int) + 1 - 1).toNat = k + 1 := by omega
        have e2 : (((k + 1 : Nat) : Int) - 1).toNat = k := by omega
        rw [e1, Int.toNat_natCast, asc_drop hlt]
        have : l[k] < l[k+1] := by omega
        simp [this]
    · right
      rw [if_neg (by simp <;> omega), e0, asc_end (by omega)]; rfl

theorem head_min {l : List Int} (h : ascB l = true) : (∀ x ∈ l, 0 ≤ x) ↔ ∀ x, l[0]? = some x → 0 ≤ x := by
  rw [ascB_iff] at h
  cases l with
  | nil => simp
  | cons a l =>
    simp only [List.getElem?_cons_zero, Option.some.injEq, List.mem_cons, forall_eq_or_imp]
    constructor
    · rintro ⟨h1, _⟩ x rfl; exact h1
    · intro h1; exact ⟨h1 _ rfl, fun x hx => by have := List.rel_of_pairwise_cons h hx; have := h1 _ rfl; omega⟩

theorem check_sp (c : api_Calendar) : calendar_Check c = some (if OkC c then 0 else 42) := by
  unfold calendar_Check
  simp only [among_sp, Option.bind_some]
  by_cases a1 : 1 ≤ c.Day ∧ c.Day ≤ 48
  case neg => rw [if_pos (by simp <;> omega)]; simp [OkC, a1]
  rw [if_neg (by simp <;> omega)]
  by_cases a2 : 0 ≤ c.From
  case neg => rw [if_pos (by simp <;> omega)]; simp [OkC, a2]
  rw [if_neg (by simp <;> omega)]
  by_cases a3 : c.From < c.To
  case neg => rw [if_pos (by simp <;> omega)]; simp [OkC, a3]
  rw [if_neg (by simp <;> omega)]
  by_cases a4 : c.To ≤ c.Day
  case neg => rw [if_pos (by simp <;> omega)]; simp [OkC, a4]
  rw [if_neg (by simp <;> omega)]
  by_cases a5 : 0 ≤ c.Week ∧ c.Week ≤ 127
  case neg =>
    simp only [Option.bind_some]
    rw [if_pos (by simp <;> omega)]; simp [OkC, a5]
  simp only [Option.bind_some]
  rw [if_neg (by simp <;> omega)]
  by_cases a6 : c.Holidays.length ≤ 40
  case neg => rw [if_pos (by simp <;> omega)]; simp [OkC, a6]
  rw [if_neg (by simp <;> omega), ascending_sp (by omega)]
  simp only [Option.bind_some]
  cases a7 : ascB c.Holidays with
  | false => simp [OkC, a7]
  | true =>
    have hm := head_min a7
    simp only [Bool.not_true, Bool.false_eq_true, if_false]
    cases hh : c.Holidays with
    | nil => simp [OkC, a1, a2, a3, a4, a5, hh, ascB]
    | cons x l =>
      rw [hh] at hm a7 a6
      simp only [idx, List.length_cons]
      simp
      have hiff : OkC c ↔ 0 ≤ x := by
        unfold OkC
        rw [hh]
        constructor
        · rintro ⟨_, _, _, _, _, _, _, h⟩; exact h x (by simp)
        · intro h; exact ⟨a1, a2, a3, a4, a5, a6, a7, hm.2 (fun y hy => by simp at hy; omega)⟩
      by_cases hx : 0 ≤ x
      · rw [if_pos (hiff.2 hx), if_neg (by omega)]
      · rw [if_neg (fun h => hx (hiff.1 h)), if_pos (by omega)]

theorem refvalid_sp {c : api_Calendar} : ref40_Valid c = some (decide (OkC c)) := by
  unfold ref40_Valid
  simp only [in_sp, Option.bind_some]
  by_cases a1 : 1 ≤ c.Day ∧ c.Day ≤ 48
  case neg => rw [if_pos (by simp <;> omega)]; simp [OkC, a1]
  rw [if_neg (by simp <;> omega)]
  by_cases a2 : 0 ≤ c.From
  case neg => rw [if_pos (by simp <;> omega)]; simp [OkC, a2]
  rw [if_neg (by simp <;> omega)]
  by_cases a3 : c.From < c.To
  case neg => rw [if_pos (by simp <;> omega)]; simp [OkC, a3]
  rw [if_neg (by simp <;> omega)]
  by_cases a4 : c.To ≤ c.Day
  case neg => rw [if_pos (by simp <;> omega)]; simp [OkC, a4]
  rw [if_neg (by simp <;> omega)]
  by_cases a5 : 0 ≤ c.Week ∧ c.Week ≤ 127
  case neg => rw [if_pos (by simp <;> omega)]; simp [OkC, a5]
  rw [if_neg (by simp <;> omega)]
  simp only [Option.bind_some]
  by_cases a6 : c.Holidays.length ≤ 40
  case neg => rw [if_pos (by simp <;> omega)]; simp [OkC, a6]
  rw [if_neg (by simp <;> omega)]
  have hok : OkC c ↔ ascB c.Holidays = true ∧ ∀ h ∈ c.Holidays, 0 ≤ h := ⟨fun h => ⟨h.2.2.2.2.2.2.1, h.2.2.2.2.2.2.2⟩, fun h => ⟨a1, a2, a3, a4, a5, a6, h.1, h.2⟩⟩
  generalize hL : c.Holidays = L at *
  -- the rest of the list, from k on, behind its predecessor
  let good : Nat → Prop := fun k => (∀ h ∈ L.drop k, 0 ≤ h) ∧ ascB (L.drop (k - 1)) = true
  have e : iter (ref40_Valid_l0 c) 0 = some (if OkC c then Sum.inl () else Sum.inr false) := by
    have key := iter_eq (body := ref40_Valid_l0 c) (fun s => ∃ k : Nat, s = (k : Int) ∧ k ≤ L.length) (fun s => (L.length - s).toNat)
      (fun s => (if good s.toNat then Sum.inl () else Sum.inr false : Unit ⊕ Bool)) ?_ (s := 0) ⟨0, rfl, by omega⟩
    · rw [key]
      have : good (0 : Int).toNat ↔ OkC c := by
        rw [hok]; simp only [good]; simp; exact ⟨fun h => ⟨h.2, h.1⟩, fun h => ⟨h.2, h.1⟩⟩
      by_cases h : OkC c
      · rw [if_pos h, if_pos (this.2 h)]
      · rw [if_neg h, if_neg (fun h' => h (this.1 h'))]
    · rintro _ ⟨k, rfl, hk⟩
      unfold ref40_Valid_l0
      rw [hL]
      by_cases hlt : k < L.length
      · rw [if_pos (by simpa using hlt), idx_lt hlt]
        simp only [Option.bind_some, Int.toNat_natCast]
        have hd : (∀ h ∈ L.drop k, 0 ≤ h) ↔ 0 ≤ L[k] ∧ ∀ h ∈ L.drop (k + 1), 0 ≤ h := by
          rw [List.drop_eq_getElem_cons hlt, List.forall_mem_cons]
        by_cases b1 : L[k] < 0
        · right
          rw [if_pos (by simpa using b1)]
          have : ¬ good k := fun h => by have := (hd.1 h.1).1; omega
          simp [this]
        · rw [if_neg (by simpa using b1)]
          cases k with
          | zero =>
            left
            rw [if_neg (by simp)]
            simp only [Option.bind_some]
            rw [if_neg (by simp), w64 (by omega) (by omega)]
            refine ⟨_, rfl, ⟨1, by simp, by omega⟩, by simp <;> omega, ?_⟩
            have : good ((0 : Nat) + 1 : Int).toNat ↔ good 0 := by
              simp only [good]
              rw [hd]
              simp
              try (intro h _; omega)
            simp only [this]
          | succ k =>
            have hlt' : k < L.length := by omega
            rw [if_pos (by first | (simp; done) | (simp; omega)), w64 (by omega) (by omega), show ((k + 1 : Nat) : Int) - 1 = (k : Int) by omega, idx_lt hlt']
            simp only [Option.bind_some]
            by_cases b2 : L[k+1] ≤ L[k]
            · right
              rw [if_pos (by simpa using b2)]
              have : ¬ good (k + 1) := fun h => by
                have := h.2
                rw [Nat.add_sub_cancel, asc_drop hlt] at this
                simp at this; omega
              simp [this]
            · left
              rw [if_neg (by simpa using b2), w64 (by omega) (by omega)]
              refine ⟨_, rfl, ⟨k + 2, by simp <;> omega, by omega⟩, by omega, ?_⟩
              have e1 : (((k + 1 : Nat) : Int) + 1).toNat = k + 2 := by omega
              rw [e1]
              have : good (k + 2) ↔ good (k + 1) := by
                simp only [good]
                rw [hd, Nat.add_sub_cancel, show k + 2 - 1 = k + 1 by omega, asc_drop hlt]
                have g1 : L[k] < L[k+1] := by omega
                simp [g1]
                intro _ _; omega
              simp only [this]
      · right
        rw [if_neg (by simpa using hlt)]
        have : k = L.length := by omega
        subst this
        have : good L.length := ⟨by simp, asc_end (by omega)⟩
        simp [this]
  rw [e]
  by_cases h : OkC c <;> simp [h]
theorem refcheck_sp (c : api_Calendar) : ref40_Check c = some (if OkC c then 0 else 42) := by
  unfold ref40_Check
  rw [refvalid_sp]
  by_cases h : OkC c <;> simp [h]

/-- whether a tick is a working one -/
def wkC (c : api_Calendar) (t : Int) : Bool :=
  (decide (c.From ≤ t % c.Day) && decide (t % c.Day < c.To)) && ((bAnd .i64 ((c.Week).fdiv (2 ^ (min (Int.toNat ((t / c.Day) % 7)) IntKind.i64.bits))) 1 == 1) && !decide (t / c.Day ∈ c.Holidays))

theorem bAnd1 (x : Int) : bAnd .i64 x 1 = x % 2 := by
  have h : (BitVec.ofInt 64 x &&& BitVec.ofInt 64 1).toNat = (x % 2).toNat := by
    rw [BitVec.toNat_and]
    have h1 : (BitVec.ofInt 64 1).toNat = 2 ^ 1 - 1 := by decide
    rw [h1, Nat.and_two_pow_sub_one_eq_mod, BitVec.toNat_ofInt]
    omega
  show IntKind.i64.wrap (((BitVec.ofInt 64 x &&& BitVec.ofInt 64 1).toNat : Nat) : Int) = x % 2
  rw [h, IntKind.wrap_i64]
  omega

section
variable {c : api_Calendar} (hc : OkC c) {t : Int} (h0 : 0 ≤ t) (h1 : t ≤ 4611686018427387904)
include hc h0 h1
theorem divs : IntKind.i64.wrap (t.tdiv c.Day) = t / c.Day ∧ t.tmod c.Day = t % c.Day ∧ (t / c.Day).tmod 7 = (t / c.Day) % 7 ∧ 0 ≤ t / c.Day ∧ t / c.Day ≤ t ∧ 0 ≤ t % c.Day := by
  have hd := hc.1
  have a1 : 0 ≤ t / c.Day := Int.ediv_nonneg h0 (by omega)
  have a2 : t / c.Day ≤ t := by
    have := Int.ediv_le_self c.Day h0; exact this
  refine ⟨?_, Int.tmod_eq_emod_of_nonneg h0, Int.tmod_eq_emod_of_nonneg a1, a1, a2, Int.emod_nonneg _ (by omega)⟩
  rw [Int.tdiv_eq_ediv_of_nonneg h0, w64 (by omega) (by omega)]

theorem working_sp : calendar_working c t = some (wkC c t) := by
  obtain ⟨e1, e2, e3, e4, e5, e6⟩ := divs hc h0 h1
  have hd := hc.1
  obtain ⟨i, hi⟩ := bin_spec ((ascB_iff _).1 hc.2.2.2.2.2.2.1) (by have := hc.2.2.2.2.2.1; omega) (t / c.Day)
  unfold calendar_working wkC
  rw [ck_t (show c.Day ≠ 0 by omega), e1, e2, e3, hi]
  simp only [Option.bind_some]
  by_cases b1 : c.From ≤ t % c.Day
  · by_cases b2 : t % c.Day < c.To
    · rw [if_pos (by simpa using b1), if_pos (by simpa using b2), ck_t (show ¬ (t / c.Day) % 7 < 0 by omega)]
      simp only [Option.bind_some, b1, b2, decide_true, Bool.and_self, Bool.true_and]
      cases (bAnd .i64 ((c.Week).fdiv (2 ^ (min (Int.toNat ((t / c.Day) % 7)) IntKind.i64.bits))) 1 == 1) <;> simp
    · rw [if_pos (by simpa using b1), if_neg (by simpa using b2)]; simp [b2]
  · rw [if_neg (by simpa using b1)]; simp [b1]

theorem refworking_sp : ref40_working c t = some (wkC c t) := by
  obtain ⟨e1, e2, e3, e4, e5, e6⟩ := divs hc h0 h1
  have hd := hc.1
  have hlen := hc.2.2.2.2.2.1
  have hit : iter (ref40_working_l0 c t) 0 = some (if t / c.Day ∈ c.Holidays then Sum.inr false else Sum.inl ()) := by
    have key := iter_eq (body := ref40_working_l0 c t) (fun s => ∃ k : Nat, s = (k : Int) ∧ k ≤ c.Holidays.length) (fun s => (c.Holidays.length - s).toNat)
      (fun s => (bif (c.Holidays.drop s.toNat).contains (t / c.Day) then Sum.inr false else Sum.inl () : Unit ⊕ Bool)) ?_ (s := 0) ⟨0, rfl, by omega⟩
    · rw [key]; by_cases h : t / c.Day ∈ c.Holidays <;> simp [h]
    · rintro _ ⟨k, rfl, hk⟩
      unfold ref40_working_l0
      rw [e1]
      by_cases hlt : k < c.Holidays.length
      · rw [if_pos (by simpa using hlt), idx_lt hlt]
        simp only [Option.bind_some, Int.toNat_natCast]
        by_cases b : c.Holidays[k] = t / c.Day
        · right; rw [if_pos (by simpa using b)]
          have : (c.Holidays.drop k).contains (t / c.Day) = true := by rw [List.drop_eq_getElem_cons hlt]; simp [b]
          simp only [this]; rfl
        · left
          rw [if_neg (by simpa using b), w64 (by omega) (by omega)]
          refine ⟨_, rfl, ⟨k + 1, rfl, by omega⟩, by omega, ?_⟩
          have e9 : ((k : Int) + 1).toNat = k + 1 := by omega
          rw [e9]
          have : (c.Holidays.drop k).contains (t / c.Day) = (c.Holidays.drop (k + 1)).contains (t / c.Day) := by rw [List.drop_eq_getElem_cons hlt, List.contains_cons, show ((t / c.Day) == c.Holidays[k]) = false by simpa using Ne.symm b, Bool.false_or]
          simp only [this]
      · right
        rw [if_neg (by simpa using hlt)]
        have : c.Holidays.drop k = [] := List.drop_eq_nil_of_le (by omega)
        simp [this]
  unfold ref40_working wkC
  rw [ck_t (show c.Day ≠ 0 by omega), e1, e2, e3, hit]
  simp only [Option.bind_some]
  by_cases b1 : c.From ≤ t % c.Day
  · by_cases b2 : t % c.Day < c.To
    · rw [if_neg (by simpa using b1), if_neg (by simpa using b2), ck_t (show ¬ (t / c.Day) % 7 < 0 by omega)]
      simp only [Option.bind_some, b1, b2, decide_true, Bool.and_self, Bool.true_and, bAnd1]
      have hz : 0 ≤ (c.Week).fdiv (2 ^ (min (Int.toNat ((t / c.Day) % 7)) IntKind.i64.bits)) % 2 ∧ (c.Week).fdiv (2 ^ (min (Int.toNat ((t / c.Day) % 7)) IntKind.i64.bits)) % 2 < 2 := by omega
      generalize (c.Week).fdiv (2 ^ (min (Int.toNat ((t / c.Day) % 7)) IntKind.i64.bits)) % 2 = z at *
      by_cases hz0 : z = 0
      · simp [hz0]
      · have : z = 1 := by omega
        subst this
        by_cases hm : t / c.Day ∈ c.Holidays <;> simp [hm]
    · rw [if_neg (by simpa using b1), if_pos (by simpa using b2)]; simp [b2]
  · rw [if_pos (by simpa using b1)]; simp [b1]
end
end Go.Vl
