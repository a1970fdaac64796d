/- Plain laws of calendars: CalendarAdds, CalendarParts, CalendarNext, CalendarHolidays. Conditions: none. -/
import Derived.Test.YtphnihphnboneaaCalS
set_option linter.unusedSimpArgs false
set_option linter.unusedVariables false
namespace Go.Vl
open Go

theorem calendarAdds_plain (l : List Int) : law40_CalendarAdds l = some true := by
  unfold law40_CalendarAdds
  by_cases h : 200 < l.length
  · rw [if_pos (by simp only [decide_eq_true_eq]; omega)]; simp [awake40]
  rw [if_neg (by simp only [decide_eq_true_eq]; omega)]
  obtain ⟨c, m, e, hm, hk⟩ := calendar_spT (m := ⟨l, 0⟩) ⟨by simp, by simp; omega⟩
  have t1 := tnextT_ok hm
  have b1 := tnextV_bd m (n := 200) (by omega)
  have b2 := tnextV_bd (tnextT m) (n := 12) (by omega)
  rw [e]
  simp only [Option.bind_some]
  rw [next_spT hm (by omega)]
  simp only [Option.bind_some]
  rw [next_spT t1 (by omega)]
  simp only [Option.bind_some, add_sp]
  generalize tnextV m 200 = t at *
  generalize tnextV (tnextT m) 12 = n at *
  obtain ⟨v, g1, _, g2, g3, g4, g5⟩ := add_ok hk b1.1 (by omega) b2.1 (by omega : n ≤ 100)
  rw [g1]
  simp only
  rw [if_neg (by simp <;> omega)]
  simp only [between_sp, Option.bind_some]
  rw [betw_ok hk.ok b1.1 g2 (by omega) (by omega), g4]
  simp only
  rw [if_neg (by simp)]
  by_cases hn : n = 0
  · rw [if_pos (by simpa using hn)]
    have : v = t := by
      have := addC_some (c := c) (f := 1) (n := 0) (u := t) (v := t) (by omega) (by simp [addC])
      have h0 : addC c 100001 n t = some t := by subst hn; simp [addC]
      have := add_ok hk b1.1 (by omega) b2.1 (by omega : n ≤ 100)
      obtain ⟨v', a1, a2, _⟩ := this
      rw [a1] at g1
      rw [h0] at a2
      cases a2; cases g1; rfl
    simp [this, awake40]
  · rw [if_neg (by simpa using hn)]
    obtain ⟨g6, g7⟩ := g5 (by omega)
    rw [w64 (x := v - 1) (by omega) (by omega), w64 (x := n - 1) (by omega) (by omega), betw_ok hk.ok b1.1 (by omega) (by omega) (by omega)]
    have hc : cntC c (v - 1 - t).toNat t = n - 1 := by
      have := cntC_add c (v - 1 - t).toNat 1 t
      rw [show (v - 1 - t).toNat + 1 = (v - t).toNat by omega, g4] at this
      simp only [cntC] at this
      rw [show t + ((v - 1 - t).toNat : Int) = v - 1 by omega, g7, if_pos rfl] at this
      omega
    simp [hc, Working_sp, work_ok hk.ok (show 0 ≤ v - 1 by omega) (by omega), g7, awake40]

theorem calendarParts_plain (l : List Int) : law40_CalendarParts l = some true := by
  unfold law40_CalendarParts
  by_cases h : 200 < l.length
  · rw [if_pos (by simp only [decide_eq_true_eq]; omega)]; simp [awake40]
  rw [if_neg (by simp only [decide_eq_true_eq]; omega)]
  obtain ⟨c, m, e, hm, hk⟩ := calendar_spT (m := ⟨l, 0⟩) ⟨by simp, by simp; omega⟩
  have t1 := tnextT_ok hm
  have t2 := tnextT_ok t1
  have t3 := tnextT_ok t2
  have t4 := tnextT_ok t3
  have b1 := tnextV_bd m (n := 200) (by omega)
  have b2 := tnextV_bd (tnextT m) (n := 8) (by omega)
  have b3 := tnextV_bd (tnextT (tnextT m)) (n := 8) (by omega)
  have b4 := tnextV_bd (tnextT (tnextT (tnextT m))) (n := 60) (by omega)
  have b5 := tnextV_bd (tnextT (tnextT (tnextT (tnextT m)))) (n := 60) (by omega)
  rw [e]
  simp only [Option.bind_some]
  rw [next_spT hm (by omega)]
  simp only [Option.bind_some]
  rw [next_spT t1 (by omega)]
  simp only [Option.bind_some]
  rw [next_spT t2 (by omega)]
  simp only [Option.bind_some, add_sp, between_sp]
  rw [next_spT t3 (by omega)]
  simp only [Option.bind_some]
  rw [next_spT t4 (by omega)]
  simp only [Option.bind_some]
  generalize tnextV m 200 = t at *
  generalize tnextV (tnextT m) 8 = a at *
  generalize tnextV (tnextT (tnextT m)) 8 = b at *
  generalize tnextV (tnextT (tnextT (tnextT m))) 60 = x at *
  generalize tnextV (tnextT (tnextT (tnextT (tnextT m)))) 60 = y at *
  obtain ⟨u, g1, g1', g2, g3, g4, g5⟩ := add_ok hk b1.1 (by omega) b2.1 (by omega : a ≤ 100)
  obtain ⟨v, h1, h1', h2, h3, h4, h5⟩ := add_ok hk (t := u) (by omega) (by omega) b3.1 (by omega : b ≤ 100)
  obtain ⟨w, k1, k1', k2, k3, k4, k5⟩ := add_ok hk b1.1 (by omega) (n := a + b) (by omega) (by omega)
  have hvw : v = w := by
    have q1 := addC_two b2.1 b3.1 g1' h1'
    have q2 := addC_more k1' (f' := 100001 + 100001) (by omega)
    rw [q1] at q2; cases q2; rfl
  rw [w64 (x := a + b) (by omega) (by omega), w64 (x := t + x) (by omega) (by omega), w64 (x := t + x + y) (by omega) (by omega), w64 (x := t + x + y - t) (by omega) (by omega), g1]
  simp only
  rw [h1, k1, hvw]
  simp only
  rw [if_neg (by simp), betw_ok hk.ok b1.1 (by omega) (by omega) (by omega), betw_ok hk.ok (a := t + x) (b := t + x + y) (by omega) (by omega) (by omega) (by omega), betw_ok hk.ok (a := t) (b := t + x + y) b1.1 (by omega) (by omega) (by omega)]
  have hs := cntC_add c (t + x - t).toNat (t + x + y - (t + x)).toNat t
  rw [show (t + x - t).toNat + (t + x + y - (t + x)).toNat = (t + x + y - t).toNat by omega, show t + ((t + x - t).toNat : Int) = t + x by omega] at hs
  have d1 := cntC_bd c (t + x - t).toNat t
  have d2 := cntC_bd c (t + x + y - (t + x)).toNat (t + x)
  have d3 := cntC_bd c (t + x + y - t).toNat t
  rw [w64 (by simp only; omega) (by simp only; omega)]
  simp only [hs]
  rw [hs] at d3
  have : cntC c (t + x - t).toNat t + cntC c (t + x + y - (t + x)).toNat (t + x) ≤ t + x + y - t := by omega
  simp [this, awake40]

theorem nextC_some {c : api_Calendar} : ∀ {f : Nat} {u v : Int}, nextC c f u = some v → u ≤ v ∧ v < u + f ∧ wkC c v = true ∧ ∀ x, u ≤ x → x < v → wkC c x = false
  | 0, u, v, h => by simp [nextC] at h
  | f + 1, u, v, h => by
    simp only [nextC] at h
    cases hw : wkC c u with
    | true =>
      rw [hw, if_pos rfl] at h; cases h
      exact ⟨by omega, by omega, hw, fun x h1 h2 => by omega⟩
    | false =>
      rw [hw, if_neg (by simp)] at h
      obtain ⟨h1, h2, h3, h4⟩ := nextC_some h
      refine ⟨by omega, by omega, h3, fun x g1 g2 => ?_⟩
      by_cases hx : x = u
      · rw [hx]; exact hw
      · exact h4 x (by omega) g2
theorem nextC_ex {c : api_Calendar} : ∀ {f : Nat} {u v : Int}, u ≤ v → v < u + f → wkC c v = true → ∃ w, nextC c f u = some w ∧ w ≤ v
  | 0, u, v, h1, h2, _ => by omega
  | f + 1, u, v, h1, h2, h3 => by
    simp only [nextC]
    cases hw : wkC c u with
    | true => exact ⟨u, by simp, h1⟩
    | false =>
      have : u ≠ v := fun e => by rw [e, h3] at hw; cases hw
      obtain ⟨w, g1, g2⟩ := nextC_ex (c := c) (f := f) (u := u + 1) (v := v) (by omega) (by omega) h3
      exact ⟨w, by simpa using g1, g2⟩
theorem cnt_zero {c : api_Calendar} : ∀ (n : Nat) (u : Int), (∀ x, u ≤ x → x < u + n → wkC c x = false) → cntC c n u = 0
  | 0, u, _ => rfl
  | n + 1, u, h => by
    simp only [cntC]
    rw [h u (by omega) (by omega), cnt_zero n (u + 1) fun x h1 h2 => h x (by omega) (by omega)]; rfl

theorem calendarNext_plain (l : List Int) : law40_CalendarNext l = some true := by
  unfold law40_CalendarNext
  by_cases h : 200 < l.length
  · rw [if_pos (by simp only [decide_eq_true_eq]; omega)]; simp [awake40]
  rw [if_neg (by simp only [decide_eq_true_eq]; omega)]
  obtain ⟨c, m, e, hm, hk⟩ := calendar_spT (m := ⟨l, 0⟩) ⟨by simp, by simp; omega⟩
  have b1 := tnextV_bd m (n := 200) (by omega)
  rw [e]
  simp only [Option.bind_some]
  rw [next_spT hm (by omega)]
  simp only [Option.bind_some, next_sp, Working_sp, add_sp]
  generalize tnextV m 200 = t at *
  obtain ⟨q, q1, q2, q3⟩ := wk_soon hk b1.1
  have hl : limT t = t + 100000 := by unfold limT maxT; rw [if_neg (by omega)]
  obtain ⟨u, g1, g1'⟩ := nextC_ex (c := c) (f := 100001) q1 (by omega) q3
  obtain ⟨g2, g3, g4, g5⟩ := nextC_some g1
  have hn : nextS c t = (u, 0) := by
    unfold nextS
    rw [if_neg (by simpa using hk.ok), if_neg (show ¬ ¬ (0 ≤ t ∧ t ≤ maxT) by unfold maxT; omega), hl, show (t + 100000 - t + 1).toNat = 100001 by omega, g1]
  rw [hn]
  simp only
  rw [if_neg (by simp), if_neg (by simp only [decide_eq_true_eq]; omega)]
  simp only [Option.bind_some]
  rw [work_ok hk.ok (by omega) (by omega), g4, if_neg (by simp)]
  have hit : iter (law40_CalendarNext_l0 (u, 0) (c, m)) t = some (.inl ()) := by
    refine iter_eq (body := law40_CalendarNext_l0 (u, 0) (c, m)) (fun s => t ≤ s ∧ s ≤ u) (fun s => (u - s).toNat) (fun _ => .inl ()) ?_ ⟨by omega, by omega⟩
    rintro s ⟨h1, h2⟩
    unfold law40_CalendarNext_l0
    by_cases hs : s < u
    · left
      rw [if_pos (by simpa using hs), Working_sp, work_ok hk.ok (by omega) (by omega), g5 s h1 hs]
      simp only [Option.bind_some]
      rw [if_neg (by simp), w64 (by omega) (by omega)]
      exact ⟨_, rfl, ⟨by omega, by omega⟩, by omega, by first | trivial | rfl⟩
    · right; rw [if_neg (by simpa using hs)]
  rw [hit]
  simp only [Option.bind_some]
  obtain ⟨v, k1, k1', k2, k3, k4, k5⟩ := add_ok hk b1.1 (by omega) (n := 1) (by omega) (by omega)
  obtain ⟨k6, k7⟩ := k5 (by omega)
  have hv : v = u + 1 := by
    have h1 : ¬ v - 1 < u := fun hh => by have := g5 (v - 1) (by omega) hh; rw [k7] at this; cases this
    have h2 : ¬ u < v - 1 := fun hh => by
      have := cntC_add c (u + 1 - t).toNat (v - (u + 1)).toNat t
      rw [show (u + 1 - t).toNat + (v - (u + 1)).toNat = (v - t).toNat by omega, k4, show t + ((u + 1 - t).toNat : Int) = u + 1 by omega] at this
      have a1 := cnt_one g2 g4 (u + 1 - t).toNat (by omega)
      have a2 := cnt_one (u := u + 1) (v := v - 1) (by omega) k7 (v - (u + 1)).toNat (by omega)
      omega
    omega
  rw [k1, w64 (by omega) (by omega)]
  simp [hv, awake40]

theorem made_less {c : api_Calendar} (h : MadeC c) {l : List Int} (hl : l.Sublist c.Holidays) : MadeC ⟨c.Day, c.From, c.To, c.Week, l⟩ := by
  obtain ⟨⟨a1, a2, a3, a4, a5, a6, a7, a8⟩, b, w, hh, hn⟩ := h
  have := hl.length_le
  exact ⟨⟨a1, a2, a3, a4, a5, by show l.length ≤ 40; omega, (ascB_iff _).2 (((ascB_iff _).1 a7).sublist hl), fun x hx => a8 x (hl.subset hx)⟩, b, w, fun x hx => hh x (hl.subset hx), by show l.length ≤ 12; omega⟩
theorem wk_less {c : api_Calendar} {l l' : List Int} (hl : ∀ x ∈ l, x ∈ l') {t : Int} (h : wkC ⟨c.Day, c.From, c.To, c.Week, l'⟩ t = true) : wkC ⟨c.Day, c.From, c.To, c.Week, l⟩ t = true := by
  unfold wkC at h ⊢
  simp only [Bool.and_eq_true, Bool.not_eq_true', decide_eq_false_iff_not] at h ⊢
  exact ⟨h.1, h.2.1, fun hm => h.2.2 (hl _ hm)⟩
theorem cnt_less {c c' : api_Calendar} (h : ∀ t, wkC c t = true → wkC c' t = true) : ∀ (n : Nat) (u : Int), cntC c n u ≤ cntC c' n u
  | 0, _ => Int.le_refl _
  | n + 1, u => by
    simp only [cntC]
    have := cnt_less h n (u + 1)
    cases hw : wkC c u with
    | true => rw [h u hw]; omega
    | false => simp only [Bool.false_eq_true, if_false]; split <;> omega
theorem add_less {c c' : api_Calendar} (h : ∀ t, wkC c t = true → wkC c' t = true) {f : Nat} {n u v v' : Int} (hn : 0 ≤ n) (h1 : addC c f n u = some v) (h2 : addC c' f n u = some v') : v' ≤ v := by
  obtain ⟨g1, g2, g3, _⟩ := addC_some hn h1
  have := cnt_less h (v - u).toNat u
  obtain ⟨w, k1, k2⟩ := addC_ex (c := c') (f := f) (k := (v - u).toNat) (n := n) (u := u) hn (by omega) (by omega)
  rw [h2] at k1; cases k1; omega
theorem wk_shift {c : api_Calendar} (hd : 1 ≤ c.Day) (hh : c.Holidays = []) (t : Int) : wkC c (t + 7 * c.Day) = wkC c t := by
  have e1 : (t + 7 * c.Day) / c.Day = t / c.Day + 7 := Int.add_mul_ediv_right _ _ (by omega)
  have e2 : (t + 7 * c.Day) % c.Day = t % c.Day := Int.add_mul_emod_self_right _ _ _
  unfold wkC
  rw [e1, e2, hh, show (t / c.Day + 7) % 7 = t / c.Day % 7 by omega]
  simp
theorem add_shift {c : api_Calendar} (hd : 1 ≤ c.Day) (hh : c.Holidays = []) : ∀ (f : Nat) (n u : Int), addC c f n (u + 7 * c.Day) = (addC c f n u).map (· + 7 * c.Day)
  | 0, _, _ => rfl
  | f + 1, n, u => by
    simp only [addC]
    split
    · rfl
    · rw [wk_shift hd hh, show u + 7 * c.Day + 1 = (u + 1) + 7 * c.Day by omega, add_shift hd hh f _ (u + 1)]

theorem holidays_j0 {c : api_Calendar} (h : MadeC c) {m : make_Tape} (hm : TapeOk m) {t n : Int} (ht : 0 ≤ t ∧ t < 200) (hn : 0 ≤ n ∧ n < 12) {l : List Int} (hl : l.Sublist c.Holidays) (m1 m2 : make_Tape) :
    law40_CalendarHolidays_j0 (c, m1) (t, m2) (n, m) (addS c t n) l = some true := by
  have hd := h.day
  have h1 := made_less h hl
  have h2 := made_less h (List.nil_sublist c.Holidays)
  obtain ⟨u, g1, g1', g2, g3, _⟩ := add_ok h ht.1 (by omega) hn.1 (by omega : n ≤ 100)
  obtain ⟨v, k1, k1', k2, k3, _⟩ := add_ok h1 ht.1 (by omega) hn.1 (by omega : n ≤ 100)
  obtain ⟨a, q1, q1', q2, q3, _⟩ := add_ok h2 ht.1 (by omega) hn.1 (by omega : n ≤ 100)
  obtain ⟨b, r1, r1', r2, r3, _⟩ := add_ok h2 (t := t + 7 * c.Day) (by omega) (by omega) hn.1 (by omega : n ≤ 100)
  have hb : b = a + 7 * c.Day := by
    have := add_shift (c := ⟨c.Day, c.From, c.To, c.Week, []⟩) hd.1 rfl 100001 n t
    simp only at this
    rw [r1', q1'] at this
    simpa using this
  have hvu : v ≤ u := add_less (c := c) (fun t hw => wk_less (c := c) (l := l) (l' := c.Holidays) (fun x hx => hl.subset hx) hw) hn.1 g1' k1'
  have hav : a ≤ v := add_less (c := ⟨c.Day, c.From, c.To, c.Week, l⟩) (fun t hw => wk_less (c := c) (l := []) (l' := l) (fun x hx => by simp at hx) hw) hn.1 k1' q1'
  unfold law40_CalendarHolidays_j0
  simp only [add_sp, Option.bind_some, Working_sp]
  rw [w64 (x := 7 * c.Day) (by omega) (by omega), w64 (x := t + 7 * c.Day) (by omega) (by omega), g1, k1, q1, r1]
  simp only
  rw [w64 (x := a + 7 * c.Day) (by omega) (by omega), if_neg (by simp [hb]; omega), next_spT hm (by omega)]
  simp only [Option.bind_some]
  have bd := tnextV_bd m (n := 20) (by omega)
  generalize tnextV m 20 = day at *
  have hdm : 0 ≤ day * c.Day ∧ day * c.Day ≤ 240 := by
    have h1 : day * c.Day ≤ day * 12 := Int.mul_le_mul_of_nonneg_left (by omega) bd.1
    exact ⟨Int.mul_nonneg bd.1 (by omega), by omega⟩
  obtain ⟨hD, hF, hFT, hTD, _⟩ := h.ok
  have same : ∀ x, c.From ≤ x → x < c.To → workS c (IntKind.i64.wrap (IntKind.i64.wrap (day * c.Day) + x)) = workS c (IntKind.i64.wrap (IntKind.i64.wrap (day * c.Day) + c.From)) := by
    have val : ∀ x, c.From ≤ x → x < c.To → workS c (IntKind.i64.wrap (IntKind.i64.wrap (day * c.Day) + x)) = ((bAnd .i64 ((c.Week).fdiv (2 ^ (min (Int.toNat (day % 7)) IntKind.i64.bits))) 1 == 1) && !decide (day ∈ c.Holidays)) := fun x g1 g2 => by
      rw [w64 (x := day * c.Day) (by omega) (by omega), w64 (by omega) (by omega), work_ok h.ok (by omega) (by omega)]
      have e1 : (day * c.Day + x) / c.Day = day := by
        rw [Int.add_comm, Int.add_mul_ediv_right _ _ (by omega), Int.ediv_eq_zero_of_lt (by omega) (by omega)]; omega
      have e2 : (day * c.Day + x) % c.Day = x := by
        rw [Int.add_comm, Int.add_mul_emod_self_right, Int.emod_eq_of_lt (by omega) (by omega)]
      unfold wkC
      rw [e1, e2]
      simp [g1, g2]
    intro x g1 g2
    rw [val x g1 g2, val c.From (by omega) (by omega)]
  have hit : iter (law40_CalendarHolidays_l1 (c, m1) (day, tnextT m) (workS c (IntKind.i64.wrap (IntKind.i64.wrap (day * c.Day) + c.From)))) c.From = some (.inl ()) := by
    refine iter_eq (body := law40_CalendarHolidays_l1 _ _ _) (fun s => c.From ≤ s ∧ s ≤ c.To) (fun s => (c.To - s).toNat) (fun _ => .inl ()) ?_ ⟨by omega, by omega⟩
    rintro s ⟨h1, h2⟩
    unfold law40_CalendarHolidays_l1
    simp only
    by_cases hs : s < c.To
    · left
      rw [if_pos (by simpa using hs), Working_sp]
      simp only [Option.bind_some]
      rw [same s h1 hs, if_neg (by simp), w64 (by omega) (by omega)]
      exact ⟨_, rfl, ⟨by omega, by omega⟩, by omega, by first | trivial | rfl⟩
    · right; rw [if_neg (by simpa using hs)]
  rw [hit]
  simp [awake40]
theorem calendarHolidays_plain (l : List Int) : law40_CalendarHolidays l = some true := by
  unfold law40_CalendarHolidays
  by_cases h : 200 < l.length
  · rw [if_pos (by simp only [decide_eq_true_eq]; omega)]; simp [awake40]
  rw [if_neg (by simp only [decide_eq_true_eq]; omega)]
  obtain ⟨c, m, e, hm, hk⟩ := calendar_spT (m := ⟨l, 0⟩) ⟨by simp, by simp; omega⟩
  have t1 := tnextT_ok hm
  have t2 := tnextT_ok t1
  have b1 := tnextV_bd m (n := 200) (by omega)
  have b2 := tnextV_bd (tnextT m) (n := 12) (by omega)
  rw [e]
  simp only [Option.bind_some]
  rw [next_spT hm (by omega)]
  simp only [Option.bind_some]
  rw [next_spT t1 (by omega)]
  simp only [Option.bind_some, add_sp]
  split
  · rename_i hp
    rw [ck_t (by simp only [decide_eq_true_eq] at hp; omega)]
    exact holidays_j0 hk t2 b1 b2 (List.drop_sublist _ _) _ _
  · exact holidays_j0 hk t2 b1 b2 (List.Sublist.refl _) _ _
end Go.Vl
