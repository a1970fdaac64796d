/- Plain laws of calendars: CalendarExact, and how many working ticks there are. Conditions: none. -/
import Derived.Test.YtphnihphnboneaaCalR
set_option linter.unusedSimpArgs false
set_option linter.unusedVariables false
namespace Go.Vl
open Go

theorem exact_j4 (c : api_Calendar) (q : List Int) (s v : Int) : law40_CalendarExact_j4 c q s v = some (.go (IntKind.i64.wrap (s + 1))) := by
  simp [law40_CalendarExact_j4, add_sp, refadd_sp, next_sp, refnext_sp]
theorem exact_j3 (c : api_Calendar) (q : List Int) (s v : Int) : law40_CalendarExact_j3 c q s v = some (.go (IntKind.i64.wrap (s + 1))) := by
  simp [law40_CalendarExact_j3, between_sp, refbetween_sp, Working_sp, refWorking_sp, exact_j4]
theorem exact_l2 (l : List (List Int)) (hl : l.length = 4) (c : api_Calendar) : iter (law40_CalendarExact_l2 l c) 0 = some (.inl ()) := by
  refine iter_eq (body := law40_CalendarExact_l2 l c) (fun s => 0 ≤ s ∧ s ≤ 4) (fun s => (4 - s).toNat) (fun _ => .inl ()) ?_ ⟨by omega, by omega⟩
  rintro s ⟨h1, h2⟩
  unfold law40_CalendarExact_l2
  by_cases h : s < 4
  · left
    rw [if_pos (by simpa using h), ck_t h, idx_toNat h1 (by omega)]
    simp only [Option.bind_some, exact_j3]
    refine ⟨s + 1, ?_, by omega, by omega, by first | trivial | rfl⟩
    rw [w64 (x := s + 1) (by omega) (by omega)]
    split <;> rfl
  · right; rw [if_neg (by simpa using h)]
theorem exact_l1 (l : List api_Calendar) (hl : l.length = 3) (a b n : Int) (y : Int × make_Tape) {m : make_Tape} (hm : TapeOk m) : iter (law40_CalendarExact_l1 l a b n y) (0, m.L, m.at_) = some (.inl ()) := by
  refine iter_eq (body := law40_CalendarExact_l1 l a b n y) (fun s => 0 ≤ s.1 ∧ s.1 ≤ 3 ∧ TapeOk ⟨s.2.1, s.2.2⟩) (fun s => (3 - s.1).toNat) (fun _ => .inl ()) ?_ ⟨by simp, by simp, hm⟩
  rintro ⟨s, L, p⟩ ⟨h1, h2, h3⟩
  simp only at h1 h2 h3
  unfold law40_CalendarExact_l1
  simp only
  by_cases h : s < 3
  · left
    have t1 := tnextT_ok h3
    have t2 := tnextT_ok t1
    have t3 := tnextT_ok t2
    rw [if_pos (by simpa using h), ck_t h, idx_toNat h1 (by omega)]
    simp only [Option.bind_some, check_sp, refcheck_sp]
    rw [if_neg (by simp), next_spT h3 (by omega)]
    simp only [Option.bind_some]
    rw [next_spT t1 (by omega)]
    simp only [Option.bind_some]
    rw [next_spT t2 (by omega)]
    simp only [Option.bind_some]
    rw [next_spT t3 (by omega)]
    simp only [Option.bind_some]
    rw [exact_l2 _ (by simp)]
    simp only [Option.bind_some]
    rw [w64 (x := s + 1) (by omega) (by omega)]
    exact ⟨_, rfl, ⟨by simp <;> omega, by simp <;> omega, tnextT_ok t3⟩, by simp <;> omega, by first | trivial | rfl⟩
  · right; rw [if_neg (by simpa using h)]
theorem exact_j0 (y : api_Calendar × make_Tape) (a1 : api_Calendar) (a2 a3 a4 : Int) (v : (List Int) × Int × Int × Int × Int × Int × (List Int)) (h : TapeOk ⟨v.1, v.2.1⟩) : law40_CalendarExact_j0 y a1 a2 a3 a4 v = some true := by
  unfold law40_CalendarExact_j0
  rw [next_spT h (by omega)]
  simp only [Option.bind_some]
  rw [exact_l1 _ (by simp) _ _ _ _ (tnextT_ok h)]
  simp [awake40]
theorem calendarExact_plain (l : List Int) (c : api_Calendar) (a b n : Int) : law40_CalendarExact l c a b n = some true := by
  unfold law40_CalendarExact
  simp only [Option.bind_some]
  by_cases h : 200 < l.length ∨ 60 < c.Holidays.length
  · rw [if_pos (by simp only [Bool.or_eq_true, decide_eq_true_eq]; omega)]; simp [awake40]
  · rw [if_neg (by simp only [Bool.or_eq_true, decide_eq_true_eq]; omega)]
    have h0 : TapeOk ⟨l, 0⟩ := ⟨by simp, by simp; omega⟩
    obtain ⟨k, m, e, hm, hk⟩ := calendar_spT h0
    have t1 := tnextT_ok hm
    rw [e]
    simp only [Option.bind_some]
    rw [next_spT hm (by omega)]
    simp only [Option.bind_some]
    split
    · rw [between_spT t1 (by omega) (by omega) (by omega)]; exact exact_j0 _ _ _ _ _ _ (tnextT_ok t1)
    split
    · rw [between_spT t1 (by omega) (by omega) (by omega)]; exact exact_j0 _ _ _ _ _ _ (tnextT_ok t1)
    split
    · rw [between_spT t1 (by omega) (by omega) (by omega)]; exact exact_j0 _ _ _ _ _ _ (tnextT_ok t1)
    split
    · obtain ⟨x, _, e2⟩ := pick_spT t1 (l := [-1, 128, 0, 64]) (by simp)
      rw [e2]; exact exact_j0 _ _ _ _ _ _ (tnextT_ok t1)
    split
    · have := hk.len
      rw [ck_t (by omega), between_spT t1 (by omega) (by omega) (by omega)]
      simp only [Option.bind_some]
      rw [ck_t (by simp; omega)]
      exact exact_j0 _ _ _ _ _ _ (tnextT_ok t1)
    · exact exact_j0 _ _ _ _ _ _ t1

/-! How many working ticks there are -/
theorem addC_some {c : api_Calendar} : ∀ {f : Nat} {n u v : Int}, 0 ≤ n → addC c f n u = some v → u ≤ v ∧ v < u + f ∧ cntC c (v - u).toNat u = n ∧ (0 < n → u < v ∧ wkC c (v - 1) = true)
  | 0, n, u, v, _, h => by simp [addC] at h
  | f + 1, n, u, v, hn, h => by
    simp only [addC] at h
    by_cases h0 : n = 0
    · rw [if_pos h0] at h
      cases h
      subst h0
      refine ⟨by omega, by omega, by simp [cntC], fun h => by omega⟩
    · rw [if_neg h0] at h
      cases hw : wkC c u with
      | true =>
        rw [hw, if_pos rfl] at h
        obtain ⟨g1, g2, g3, g4⟩ := addC_some (by omega) h
        have e : (v - u).toNat = (v - (u + 1)).toNat + 1 := by omega
        refine ⟨by omega, by omega, ?_, fun _ => ⟨by omega, ?_⟩⟩
        · rw [e]; simp only [cntC]; rw [hw, if_pos rfl, g3]; omega
        · by_cases h1 : 0 < n - 1
          · exact (g4 h1).2
          · have hn1 : n - 1 = 0 := by omega
            rw [hn1] at h
            cases f with
            | zero => simp [addC] at h
            | succ f => simp [addC] at h; rw [← h, show u + 1 - 1 = u by omega]; exact hw
      | false =>
        rw [hw, if_neg (by simp)] at h
        obtain ⟨g1, g2, g3, g4⟩ := addC_some hn h
        have e : (v - u).toNat = (v - (u + 1)).toNat + 1 := by omega
        refine ⟨by omega, by omega, ?_, fun h1 => ⟨by omega, (g4 h1).2⟩⟩
        rw [e]; simp only [cntC]; rw [hw, if_neg (by simp), g3]; omega
theorem addC_ex {c : api_Calendar} : ∀ {f k : Nat} {n u : Int}, 0 ≤ n → n ≤ cntC c k u → k < f → ∃ v, addC c f n u = some v ∧ v ≤ u + k
  | 0, k, n, u, _, _, h => by omega
  | f + 1, k, n, u, hn, hc, hk => by
    simp only [addC]
    by_cases h0 : n = 0
    · exact ⟨u, by rw [if_pos h0], by omega⟩
    · rw [if_neg h0]
      cases k with
      | zero => simp [cntC] at hc; omega
      | succ k =>
        simp only [cntC] at hc
        cases hw : wkC c u with
        | true =>
          rw [hw, if_pos rfl] at hc
          obtain ⟨v, g1, g2⟩ := addC_ex (c := c) (f := f) (k := k) (n := n - 1) (u := u + 1) (by omega) (by omega) (by omega)
          exact ⟨v, g1, by omega⟩
        | false =>
          rw [hw, if_neg (by simp)] at hc
          obtain ⟨v, g1, g2⟩ := addC_ex (c := c) (f := f) (k := k) (n := n) (u := u + 1) hn (by omega) (by omega)
          exact ⟨v, g1, by omega⟩
theorem addC_more {c : api_Calendar} : ∀ {f f' : Nat} {n u v : Int}, addC c f n u = some v → f ≤ f' → addC c f' n u = some v
  | 0, _, _, _, _, h, _ => by simp [addC] at h
  | f + 1, 0, _, _, _, _, h => by omega
  | f + 1, f' + 1, n, u, v, h, hf => by
    simp only [addC] at h ⊢
    split
    · rename_i h0; rwa [if_pos h0] at h
    · rename_i h0; rw [if_neg h0] at h; exact addC_more h (by omega)
theorem addC_two {c : api_Calendar} : ∀ {f : Nat} {a b t u v : Int} {f' : Nat}, 0 ≤ a → 0 ≤ b → addC c f a t = some u → addC c f' b u = some v → addC c (f + f') (a + b) t = some v
  | 0, _, _, _, _, _, _, _, _, h, _ => by simp [addC] at h
  | f + 1, a, b, t, u, v, f', ha, hb, h, h2 => by
    simp only [addC] at h
    by_cases h0 : a = 0
    · rw [if_pos h0] at h
      cases h
      rw [h0, Int.zero_add]
      exact addC_more h2 (by omega)
    · rw [if_neg h0] at h
      rw [show f + 1 + f' = (f + f') + 1 by omega]
      simp only [addC]
      rw [if_neg (by omega)]
      have := addC_two (a := if wkC c t then a - 1 else a) (by split <;> omega) hb h h2
      have e : (if wkC c t then a + b - 1 else a + b) = (if wkC c t then a - 1 else a) + b := by split <;> omega
      rw [e]; exact this

theorem wk_at {c : api_Calendar} (h : MadeC c) {d : Int} (hd : 12 ≤ d) (hw : d % 7 = if c.Week = 62 then 1 else 0) : wkC c (d * c.Day + c.From) = true := by
  obtain ⟨hD, hF, hFT, hTD, _⟩ := h.ok
  have hf : 0 ≤ c.From ∧ c.From < c.Day := by omega
  have e1 : (d * c.Day + c.From) / c.Day = d := by
    rw [Int.add_comm, Int.add_mul_ediv_right _ _ (by omega), Int.ediv_eq_zero_of_lt hf.1 hf.2]; omega
  have e2 : (d * c.Day + c.From) % c.Day = c.From := by
    rw [Int.add_comm, Int.add_mul_emod_self_right, Int.emod_eq_of_lt hf.1 hf.2]
  unfold wkC
  rw [e1, e2, bAnd1, hw]
  have hnm : ¬ d ∈ c.Holidays := fun hm => by have := h.hol d hm; omega
  have hwk := h.week
  simp only [List.mem_cons, List.not_mem_nil, or_false] at hwk
  have hb : ((c.Week).fdiv (2 ^ (min (Int.toNat (if c.Week = 62 then 1 else 0)) IntKind.i64.bits))) % 2 = 1 := by
    rcases hwk with e | e | e | e <;> rw [e] <;> decide
  simp [hFT, hnm, hb]

theorem wk_soon {c : api_Calendar} (h : MadeC c) {u : Int} (hu : 0 ≤ u) : ∃ v, u ≤ v ∧ v < u + 300 ∧ wkC c v = true := by
  obtain ⟨hD, hF, hFT, hTD, _⟩ := h.ok
  have hd := h.day
  have hq : 0 ≤ u / c.Day := Int.ediv_nonneg hu (by omega)
  let e : Int := if u / c.Day < 12 then 12 else u / c.Day + 1
  let d : Int := 7 * (e / 7 + 1) + (if c.Week = 62 then 1 else 0)
  have he : 12 ≤ e ∧ u / c.Day + 1 ≤ e ∧ e ≤ u / c.Day + 13 := by simp only [e]; split <;> omega
  have hdd : e < d ∧ d ≤ e + 8 ∧ d % 7 = if c.Week = 62 then 1 else 0 := by simp only [d]; split <;> omega
  refine ⟨d * c.Day + c.From, ?_, ?_, wk_at h (by omega) hdd.2.2⟩
  · have h1 : u < (u / c.Day + 1) * c.Day := by
      have := Int.lt_ediv_add_one_mul_self u (show 0 < c.Day by omega); exact this
    have h2 : (u / c.Day + 1) * c.Day ≤ d * c.Day := Int.mul_le_mul_of_nonneg_right (by omega) (by omega)
    omega
  · have h1 : u / c.Day * c.Day ≤ u := Int.ediv_mul_le u (by omega)
    have h2 : d * c.Day ≤ (u / c.Day + 21) * c.Day := Int.mul_le_mul_of_nonneg_right (by omega) (by omega)
    have h3 : (u / c.Day + 21) * c.Day = u / c.Day * c.Day + 21 * c.Day := Int.add_mul _ _ _
    clear_value d e
    omega
theorem cnt_one {c : api_Calendar} {u v : Int} (h1 : u ≤ v) (h3 : wkC c v = true) : ∀ n : Nat, v < u + n → 1 ≤ cntC c n u := by
  intro n hn
  have hs : n = (v - u).toNat + (1 + (n - (v - u).toNat - 1)) := by omega
  rw [hs, cntC_add, cntC_add]
  have a1 := (cntC_bd c (v - u).toNat u).1
  have a2 := (cntC_bd c (n - (v - u).toNat - 1) (u + ((v - u).toNat : Nat) + (1 : Nat))).1
  have a3 : cntC c 1 (u + ((v - u).toNat : Nat)) = 1 := by
    simp only [cntC]
    rw [show u + ((v - u).toNat : Nat) = v by omega, h3]; rfl
  omega
theorem cnt_many {c : api_Calendar} (h : MadeC c) : ∀ (k : Nat) {u : Int}, 0 ≤ u → (k : Int) ≤ cntC c (300 * k) u
  | 0, u, _ => by simp [cntC]
  | k + 1, u, hu => by
    rw [show 300 * (k + 1) = 300 + 300 * k by omega, cntC_add]
    obtain ⟨v, h1, h2, h3⟩ := wk_soon h hu
    have := cnt_one h1 h3 300 (by omega)
    have := cnt_many h k (u := u + (300 : Nat)) (by omega)
    omega

/-- adding succeeds -/
theorem add_ok {c : api_Calendar} (h : MadeC c) {t n : Int} (ht : 0 ≤ t) (ht2 : t ≤ 1000000) (hn : 0 ≤ n) (hn2 : n ≤ 100) : ∃ v, addS c t n = (v, 0) ∧ addC c 100001 n t = some v ∧ t ≤ v ∧ v ≤ t + 30000 ∧ cntC c (v - t).toNat t = n ∧ (0 < n → t < v ∧ wkC c (v - 1) = true) := by
  have hc := cnt_many h n.toNat ht
  obtain ⟨v, g1, g2⟩ := addC_ex (c := c) (f := 100001) (k := 300 * n.toNat) (n := n) (u := t) hn (by omega) (by omega)
  obtain ⟨k1, k2, k3, k4⟩ := addC_some hn g1
  have hl : limT t = t + 100000 := by unfold limT maxT; rw [if_neg (by omega)]
  refine ⟨v, ?_, g1, k1, by omega, k3, k4⟩
  unfold addS
  rw [if_neg (by simpa using h.ok), if_neg (show ¬ ¬ (0 ≤ t ∧ t ≤ maxT ∧ 0 ≤ n ∧ n ≤ 1000) by unfold maxT; omega), hl, show (t + 100000 - t + 1).toNat = 100001 by omega, g1]
theorem betw_ok {c : api_Calendar} (h : OkC c) {a b : Int} (ha : 0 ≤ a) (hab : a ≤ b) (hb : b ≤ 10000000) (hd : b - a ≤ 100000) : betw c a b = (cntC c (b - a).toNat a, 0) := by
  unfold betw
  rw [if_neg (by simpa using h), if_neg (show ¬ ¬ (0 ≤ a ∧ a ≤ maxT ∧ 0 ≤ b ∧ b ≤ maxT ∧ a ≤ b) by unfold maxT; omega), if_neg (by omega)]
theorem work_ok {c : api_Calendar} (h : OkC c) {t : Int} (ht : 0 ≤ t) (ht2 : t ≤ 10000000) : workS c t = wkC c t := by
  unfold workS maxT
  simp [h, ht]; intro _; omega
end Go.Vl
