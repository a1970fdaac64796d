/- Plain laws of fleets and states that are made from a tape. Conditions: none. -/
import Derived.Test.YtclmnpkhopioiabSxQ
set_option linter.unusedSimpArgs false
set_option linter.unusedVariables false
namespace Go.Vl
open Go

/-! The tape -/
def TapeOk (m : make_Tape) : Prop := 0 ≤ m.at_ ∧ m.at_ ≤ 1000000000 ∧ m.L.length ≤ 1000000
theorem next_ex {m : make_Tape} (h : 0 ≤ m.at_ ∧ m.at_ ≤ m.L.length ∧ m.L.length ≤ 1000000) {n : Int} (hn : 0 < n) : ∃ v m', make_Tape_Next m n = some (v, m') ∧ 0 ≤ v ∧ v < n ∧ (0 ≤ m'.at_ ∧ m'.at_ ≤ m'.L.length ∧ m'.L.length ≤ 1000000) := by
  obtain ⟨h1, h2, h3⟩ := h
  unfold make_Tape_Next
  by_cases hb : (m.L.length : Int) ≤ m.at_
  · rw [if_pos (by simpa using hb)]
    exact ⟨0, m, rfl, by omega, hn, h1, h2, h3⟩
  · rw [if_neg (by simpa using hb), idx_toNat h1 (by omega)]
    simp only [Option.bind_some, ck_t (show n ≠ 0 by omega), bAnd16]
    rw [Int.tmod_eq_emod_of_nonneg (Int.emod_nonneg _ (by omega)), w64 (by omega) (by omega)]
    exact ⟨_, _, rfl, Int.emod_nonneg _ (by omega), Int.emod_lt_of_pos _ hn, by simp; omega, by simp; omega, h3⟩
abbrev TOk (m : make_Tape) : Prop := 0 ≤ m.at_ ∧ m.at_ ≤ m.L.length ∧ m.L.length ≤ 1000000
theorem between_ex {m : make_Tape} (h : TOk m) {a b : Int} (hab : a ≤ b) (ha : -1000000 ≤ a) (hb : b ≤ 1000000) : ∃ v m', make_Tape_Between m a b = some (v, m') ∧ a ≤ v ∧ v ≤ b ∧ TOk m' := by
  unfold make_Tape_Between
  rw [w64 (x := b - a) (by omega) (by omega), w64 (x := b - a + 1) (by omega) (by omega)]
  obtain ⟨v, m', h1, h2, h3, h4⟩ := next_ex h (n := b - a + 1) (by omega)
  rw [h1]
  simp only [Option.bind_some]
  rw [w64 (by omega) (by omega)]
  exact ⟨_, _, rfl, by omega, by omega, h4⟩

/-! Fleets, steps, states -/
theorem make_Fleet_ex {m : make_Tape} (h : TOk m) {most : Int} (h1 : 1 ≤ most) (h8 : most ≤ 8) : ∃ f m', make_Fleet m most = some (f, m') ∧ FleetOk f ∧ (f.Consumers.length : Int) ≤ most ∧ (∀ c ∈ f.Consumers, c.Pool = 0 ∨ c.Pool = 1) ∧ TOk m' := by
  unfold make_Fleet
  obtain ⟨sl, m1, e1, s1, s2, t1⟩ := between_ex h (a := 1) (b := 2) (by omega) (by omega) (by omega)
  rw [e1]
  simp only [Option.bind_some]
  obtain ⟨k, m2, e2, k1, k2, t2⟩ := between_ex t1 (a := 1) (b := most) h1 (by omega) (by omega)
  rw [e2]
  simp only [Option.bind_some]
  have key : ∃ e, iter make_Fleet_l0 (k, m2.L, m2.at_, []) = some e ∧ (TOk ⟨e.1, e.2.1⟩ ∧ (e.2.2.length : Int) = k ∧ ∀ c ∈ e.2.2, c.Pool = 0 ∨ c.Pool = 1) := by
    refine iter_ex (fun s => 0 ≤ s.1 ∧ s.1 + (s.2.2.2.length : Int) = k ∧ TOk ⟨s.2.1, s.2.2.1⟩ ∧ ∀ c ∈ s.2.2.2, c.Pool = 0 ∨ c.Pool = 1) (fun s => s.1.toNat) _ ?_ ⟨by simp; omega, by simp, t2, by simp⟩
    rintro ⟨j, L, at_, cs⟩ ⟨g1, g2, g3, g4⟩
    simp only at g1 g2 g3 g4 ⊢
    unfold make_Fleet_l0
    by_cases hj : 0 < j
    · left
      simp only
      rw [if_pos (by simpa using hj)]
      obtain ⟨p, m3, e3, p1, p2, t3⟩ := next_ex g3 (n := 2) (by omega)
      rw [e3]
      simp only [Option.bind_some]
      obtain ⟨q, m4, e4, q1, q2, t4⟩ := next_ex t3 (n := 2) (by omega)
      rw [e4]
      simp only [Option.bind_some]
      obtain ⟨r, m5, e5, r1, r2, t5⟩ := next_ex t4 (n := 2) (by omega)
      rw [e5]
      simp only [Option.bind_some]
      rw [ck_t (by simp; omega), Option.bind_some, w64 (by omega) (by omega)]
      refine ⟨_, rfl, ⟨by simp; omega, by simp; omega, t5, fun c hc => ?_⟩, by simp; omega⟩
      simp only [List.mem_append, List.mem_singleton] at hc
      rcases hc with hc | rfl
      · exact g4 c hc
      · simp; omega
    · right
      simp only
      rw [if_neg (by simpa using hj)]
      exact ⟨_, rfl, g3, by simp; omega, g4⟩
  obtain ⟨e, he, t, hl, hp⟩ := key
  rw [he]
  refine ⟨_, _, rfl, ⟨by simp; omega, by simp; omega, by simp; omega, fun i hi => ?_⟩, by simp; omega, hp, t⟩
  have := hp _ (List.getElem_mem hi)
  unfold poolP
  rcases this with h | h <;> simp [h]

theorem make_Step_ex {m : make_Tape} (h : TOk m) {f : api_Fleet} (hf : FleetOk f) : ∃ x m', make_Step m f = some (x, m') ∧ kindOk f x ∧ TOk m' := by
  unfold make_Step
  have hl := hf.2.1
  have hl8 := hf.2.2.1
  obtain ⟨k, m1, e1, k1, k2, t1⟩ := between_ex h (a := 1) (b := 8) (by omega) (by omega) (by omega)
  rw [e1]
  simp only [Option.bind_some]
  by_cases hk : 4 ≤ k ∧ k ≤ 7
  · rw [if_pos (by simpa using hk)]
    obtain ⟨u, m2, e2, u1, u2, t2⟩ := next_ex t1 (n := (f.Consumers.length : Int)) (by omega)
    rw [e2]
    exact ⟨_, _, rfl, ⟨k1, k2, u1, u2, fun hi => by simp [issuerB] at hi; omega⟩, t2⟩
  · rw [if_neg (by simpa using hk)]
    exact ⟨_, _, rfl, ⟨k1, k2, by simp, by simp; omega, fun _ => rfl⟩, t1⟩

/-! What a step leads to is right -/
theorem an13 : bAndNot .i64 1 3 = 0 := by decide
theorem bits13 {t : Bool} : bitsP 1 3 t = true := by unfold bitsP; rw [an13]; cases t <;> decide
theorem bits3 {t : Bool} : bitsP 2 3 t = true := by unfold bitsP; rw [show bAndNot .i64 2 3 = 0 by decide]; cases t <;> decide
theorem bits33 : bitsP 3 3 true = true := by unfold bitsP; rw [show bAndNot .i64 3 3 = 0 by decide]; decide
theorem bitsP_more {x k : Int} {t : Bool} (h : bitsP x k t = true) (hk : k = 1 ∨ k = 3) : bitsP x 3 t = true := by
  obtain ⟨h1, h2, h3⟩ := bitsP_val h
  rcases h1 with h1 | h1 | h1
  · rw [h1]; exact bits13
  · rw [h1]; exact bits3
  · rcases h3 with h3 | h3
    · rw [h1, h3]; exact bits33
    · exact absurd h1 h3
theorem unitP_iff {c : api_Consumer} {u : api_Unit} {k : Int} : unitP c u k = true ↔ bitsP u.Stored k c.Dual = true ∧ ((u.Up = true ∧ bitsP u.Used k c.Dual = true ∧ (c.Live = true → u.Used = u.Stored)) ∨ (u.Up = false ∧ u.Used = 0)) := by
  unfold unitP
  generalize bitsP u.Stored k c.Dual = A
  generalize bitsP u.Used k c.Dual = B
  cases A <;> cases B <;> cases u.Up <;> cases c.Live <;> simp
theorem unitP_more {c : api_Consumer} {u : api_Unit} {k : Int} (h : unitP c u k = true) (hk : k = 1 ∨ k = 3) : unitP c u 3 = true := by
  rw [unitP_iff] at h ⊢
  obtain ⟨h1, h2⟩ := h
  refine ⟨bitsP_more h1 hk, ?_⟩
  rcases h2 with ⟨a, b, c⟩ | h2
  · exact .inl ⟨a, bitsP_more b hk, c⟩
  · exact .inr h2
theorem unitP_step {c : api_Consumer} {u : api_Unit} {k kind : Int} (h : unitP c u k = true) (hk : k = 1 ∨ k = 3) (hok : (unitStep c u kind (k == 3)).1 = true) : unitP c (unitStep c u kind (k == 3)).2 k = true := by
  have h' := h
  unfold unitP at h
  rw [Bool.and_eq_true] at h
  obtain ⟨hs, hu⟩ := h
  unfold unitStep at hok ⊢
  split at hok
  · rename_i h4
    rw [if_pos h4] at *
    simp only [Bool.and_eq_true, beq_iff_eq] at hok
    obtain ⟨hk3, hst⟩ := hok
    subst hk3
    have hst2 : bitsP (bif c.Dual then 3 else 2) 3 c.Dual = true := by cases c.Dual; exact bits3; exact bits33
    unfold fixU
    cases hup : u.Up with
    | false =>
      rw [hup] at hu
      simp only [Bool.and_false, cond_false] at hu ⊢
      unfold unitP
      simp only [hst2, cond_false, Bool.true_and]; exact hu
    | true =>
      rw [hup] at hu
      simp only [cond_true, Bool.and_eq_true] at hu
      cases hL : c.Live with
      | true => unfold unitP; simp [hst2]
      | false => unfold unitP; simp [hst2, hu.1, hL]
  · split at hok
    · rename_i h4 h7
      rw [if_neg h4, if_pos h7]
      have hst : u.Stored = 3 := by simpa using hok
      have hk3 : k = 3 := by
        rcases hk with hk | hk
        · have := (bitsP_val hs).2.1; rw [hst, hk] at this; exact absurd this (by decide)
        · exact hk
      subst hk3
      unfold fixU
      cases hup : u.Up with
      | false =>
        rw [hup] at hu
        simp only [Bool.and_false, cond_false] at hu ⊢
        unfold unitP
        simp only [bits3, cond_false, Bool.true_and]; exact hu
      | true =>
        rw [hup] at hu
        simp only [cond_true, Bool.and_eq_true] at hu
        cases hL : c.Live with
        | true => unfold unitP; simp [bits3]
        | false => unfold unitP; simp [bits3, hu.1, hL]
    · split at hok
      · rename_i h4 h7 h5
        rw [if_neg h4, if_neg h7, if_pos h5]
        unfold unitP; simp [hs]
      · split at hok
        · rename_i h4 h7 h5 h6
          rw [if_neg h4, if_neg h7, if_neg h5, if_pos h6]
          unfold unitP; simp [hs]
        · cases hok
theorem next_right {f : api_Fleet} {s : api_Rotation} {x : api_Step} (hr : RightOk f s) (hk : kindOk f x) (hok : okStep f s x = true) : RightOk f (nextS f s x) := by
  obtain ⟨hf, hkn, hb, hl, hu⟩ := hr
  obtain ⟨k1, k2, k3, k4, k5⟩ := hk
  unfold okStep at hok
  unfold nextS
  split at hok
  · rename_i h1
    rw [if_pos h1]
    exact ⟨hf, .inr rfl, bitsP_more hb hkn, hl, fun i h h' => unitP_more (hu i h h') hkn⟩
  · rename_i h1
    rw [if_neg h1]
    split at hok
    · rename_i h2
      rw [if_pos h2]
      simp only [Bool.and_eq_true, beq_iff_eq] at hok
      refine ⟨hf, .inr hok.1, ?_, hl, hu⟩
      show bitsP 3 s.Known (f.Slots == 2) = true
      rw [hok.1, hok.2.2]; exact bits33
    · rename_i h2
      rw [if_neg h2]
      split at hok
      · rename_i h3
        rw [if_pos h3]
        simp only [Bool.and_eq_true, beq_iff_eq] at hok
        refine ⟨hf, .inr hok.1, ?_, hl, hu⟩
        show bitsP 2 s.Known (f.Slots == 2) = true
        rw [hok.1]; exact bits3
      · rename_i h3
        rw [if_neg h3]
        split at hok
        · rename_i h8
          rw [if_pos h8]
          have hv : s.Valid = 3 := by simpa using hok
          have hk3 : s.Known = 3 := by
            rcases hkn with hk | hk
            · have := (bitsP_val hb).2.1; rw [hv, hk] at this; exact absurd this (by decide)
            · exact hk
          refine ⟨hf, .inr hk3, ?_, hl, hu⟩
          show bitsP 2 s.Known (f.Slots == 2) = true
          rw [hk3]; exact bits3
        · rename_i h8
          rw [if_neg h8]
          refine ⟨hf, hkn, hb, by simpa using hl, fun i h h' => ?_⟩
          have hi : i < s.Units.length := by simpa using h
          simp only [List.getElem_set]
          split
          · rename_i e
            subst e
            have e1 : f.Consumers.getD x.Unit.toNat default = f.Consumers[x.Unit.toNat] := by simp [List.getD, h']
            have e2 : s.Units.getD x.Unit.toNat default = s.Units[x.Unit.toNat] := by simp [List.getD, hi]
            rw [e1, e2] at hok ⊢
            exact unitP_step (hu _ hi h') hkn hok
          · exact hu i hi h'

theorem start_sp {f : api_Fleet} (hf : FleetOk f) : ref32_Start f = some (⟨1, 1, List.replicate f.Consumers.length ⟨true, 1, 1⟩⟩, 0) := by
  unfold ref32_Start
  rw [valid_sp]
  simp only [hf, decide_true, Option.bind_some]
  rw [if_neg (by simp)]
  have h8 := hf.2.2.1
  rw [iter_foldl f.Consumers (fun (a : List api_Unit) _ => a ++ [⟨true, 1, 1⟩]) id (fun i a => a.length = i) (fun i hi s hs => ?_) (fun s hs => ?_) [] rfl]
  · simp only [Option.bind_some, id]
    congr 2
    have : ∀ (l : List api_Consumer) (a : List api_Unit), l.foldl (fun a _ => a ++ [⟨true, 1, 1⟩]) a = a ++ List.replicate l.length ⟨true, 1, 1⟩ := fun l => by
      induction l with
      | nil => intro a; simp
      | cons c l ih => intro a; simp only [List.foldl_cons, ih, List.length_cons, List.replicate_succ]; simp
    rw [this]; simp
  · unfold ref32_Start_l0
    rw [if_pos (by simp; omega), ck_t (by simp; omega), Option.bind_some, w64 (by omega) (by omega)]
    exact ⟨rfl, by simp [hs]⟩
  · unfold ref32_Start_l0
    rw [if_neg (by simp)]; rfl
theorem start_right {f : api_Fleet} (hf : FleetOk f) : RightOk f ⟨1, 1, List.replicate f.Consumers.length ⟨true, 1, 1⟩⟩ := by
  have b1 : ∀ t, bitsP 1 1 t = true := fun t => by unfold bitsP; rw [show bAndNot .i64 1 1 = 0 by decide]; cases t <;> decide
  refine ⟨hf, .inl rfl, b1 _, by simp, fun i h h' => ?_⟩
  simp only [List.getElem_replicate]
  unfold unitP
  simp [b1]
theorem apply_right {f : api_Fleet} {s : api_Rotation} {x : api_Step} (hr : RightOk f s) (h : (applyP f s x).2 = 0) : RightOk f (applyP f s x).1 ∧ kindOk f x ∧ okStep f s x = true ∧ (applyP f s x).1 = nextS f s x := by
  unfold applyP at h ⊢
  rw [if_neg (by simpa using hr)] at h ⊢
  by_cases hk : kindOk f x
  · rw [if_neg (by simpa using hk)] at h ⊢
    cases ho : okStep f s x with
    | false => rw [ho] at h; simp at h
    | true => rw [if_neg (by simp)]; exact ⟨next_right hr hk ho, hk, rfl, rfl⟩
  · rw [if_pos hk] at h; simp at h
theorem make_State_ex {m : make_Tape} (h : TOk m) {f : api_Fleet} (hf : FleetOk f) : ∃ s m', make_State m f = some (s, m') ∧ RightOk f s ∧ TOk m' := by
  unfold make_State
  rw [start_sp hf]
  simp only [Option.bind_some]
  rw [if_neg (by simp)]
  obtain ⟨k, m1, e1, k1, k2, t1⟩ := next_ex h (n := 12) (by omega)
  rw [e1]
  simp only [Option.bind_some]
  have key : ∃ e, iter (make_State_l0 f) (k, m1.L, m1.at_, 1, 1, List.replicate f.Consumers.length ⟨true, 1, 1⟩) = some e ∧ (TOk ⟨e.1, e.2.1⟩ ∧ RightOk f ⟨e.2.2.1, e.2.2.2.1, e.2.2.2.2⟩) := by
    refine iter_ex (fun s => 0 ≤ s.1 ∧ s.1 ≤ 12 ∧ TOk ⟨s.2.1, s.2.2.1⟩ ∧ RightOk f ⟨s.2.2.2.1, s.2.2.2.2.1, s.2.2.2.2.2⟩) (fun s => s.1.toNat) _ ?_ ⟨k1, by simp; omega, t1, start_right hf⟩
    rintro ⟨j, L, at_, kn, va, us⟩ ⟨g1, g0, g2, g3⟩
    simp only at g1 g0 g2 g3 ⊢
    unfold make_State_l0
    by_cases hj : 0 < j
    · left
      simp only
      rw [if_pos (by simpa using hj)]
      obtain ⟨x, m2, e2, hx, t2⟩ := make_Step_ex g2 hf
      rw [e2]
      simp only [Option.bind_some, rapply_sp]
      by_cases h0 : (applyP f ⟨kn, va, us⟩ x).2 = 0
      · rw [if_pos (by simpa using h0), w64 (by omega) (by omega)]
        exact ⟨_, rfl, ⟨by simp; omega, by simp; omega, t2, (apply_right g3 h0).1⟩, by simp; omega⟩
      · rw [if_neg (by simpa using h0), w64 (by omega) (by omega)]
        exact ⟨_, rfl, ⟨by simp; omega, by simp; omega, t2, g3⟩, by simp; omega⟩
    · right
      simp only
      rw [if_neg (by simpa using hj)]
      exact ⟨_, rfl, g2, g3⟩
  obtain ⟨e, he, t, hr⟩ := key
  rw [he]
  exact ⟨_, _, rfl, hr, t⟩
end Go.Vl
