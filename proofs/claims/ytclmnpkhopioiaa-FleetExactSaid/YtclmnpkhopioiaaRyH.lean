/- Plain law FleetExact: program and document answer alike for every fleet and state. Conditions: none. -/
import Derived.Test.YtclmnpkhopioiaaRyF
set_option linter.unusedSimpArgs false
set_option linter.unusedVariables false
namespace Go.Vl
open Go

theorem bend_ex {m : make_Tape} (h : TOk m) {s : api_Rotation} (h1 : s.Units.length ≤ 1000) : ∃ s' m', law32_bend m s = some (s', m') ∧ s'.Units.length ≤ 1001 ∧ TOk m' := by
  unfold law32_bend
  rw [rcopy_sp h1]
  simp only [Option.bind_some]
  obtain ⟨v, m1, e1, v0, v1, t1⟩ := next_ex h (n := 6) (by omega)
  rw [e1]
  simp only [Option.bind_some]
  split
  · obtain ⟨u, m2, e2, _, _, t2⟩ := next_ex t1 (n := 4) (by omega)
    rw [e2]; exact ⟨_, _, rfl, by simp; omega, t2⟩
  split
  · obtain ⟨u, m2, e2, _, _, t2⟩ := between_ex t1 (a := -1) (b := 4) (by omega) (by omega) (by omega)
    rw [e2]; exact ⟨_, _, rfl, by simp; omega, t2⟩
  split
  · rw [ck_t (by simp; omega)]; exact ⟨_, _, rfl, by simp; omega, t1⟩
  split
  · rename_i hl
    simp only [decide_eq_true_eq] at hl
    obtain ⟨u, m2, e2, u0, u1, t2⟩ := next_ex t1 (n := (s.Units.length : Int)) hl
    rw [e2]
    simp only [Option.bind_some]
    have hu : u.toNat < s.Units.length := by omega
    rw [ck_t ⟨u0, hu⟩]
    simp only [Option.bind_some]
    obtain ⟨w, m3, e3, _, _, t3⟩ := next_ex t2 (n := 3) (by omega)
    rw [e3]
    simp only [Option.bind_some]
    split
    · rw [idx_toNat u0 hu]; exact ⟨_, _, rfl, by simp; omega, t3⟩
    split
    · obtain ⟨x, m4, e4, _, _, t4⟩ := next_ex t3 (n := 5) (by omega)
      rw [e4, idx_toNat u0 hu]; exact ⟨_, _, rfl, by simp; omega, t4⟩
    · obtain ⟨x, m4, e4, _, _, t4⟩ := next_ex t3 (n := 5) (by omega)
      rw [e4, idx_toNat u0 hu]; exact ⟨_, _, rfl, by simp; omega, t4⟩
  · exact ⟨_, _, rfl, by omega, t1⟩
theorem exact_in {l : List (List Int)} (hl : l.length = 2) {f : api_Fleet} {s : api_Rotation} : iter (law32_FleetExact_l2 l f s) 0 = some (.inl ()) := by
  rw [iter_all 2 (fun _ => true) (fun i hi => ?_) ?_]
  · simp
  · unfold law32_FleetExact_l2
    rw [if_neg (by simp)]
  · unfold law32_FleetExact_l2
    rw [if_pos (by simp; omega), ck_t (by omega), idx_lt (by omega), w64 (by omega) (by omega)]
    simp only [Option.bind_some, funits_sp, units_sp, fserves_sp, serves_sp]
    rw [ints_self (by have := unitsP_len f (arD (l[i]'(by omega)) 0); omega)]
    simp
theorem exact_states {l : List api_Rotation} (hl : l.length = 4) {f : api_Fleet} {a3 a4 : Int} {m : make_Tape} (h : TOk m) : ∃ m', iter (law32_FleetExact_l1 l f a3 a4) (0, m.L, m.at_) = some (.inl (m'.L, m'.at_)) ∧ TOk m' := by
  have := iter_ex (body := law32_FleetExact_l1 l f a3 a4) (fun s : Int × (List Int) × Int => 0 ≤ s.1 ∧ s.1 ≤ 4 ∧ TOk ⟨s.2.1, s.2.2⟩) (fun s => (4 - s.1).toNat) (fun e => ∃ m' : make_Tape, e = .inl (m'.L, m'.at_) ∧ TOk m') ?_ (s := (0, m.L, m.at_)) ⟨by simp, by simp, h⟩
  · obtain ⟨e, h1, m', rfl, h2⟩ := this
    exact ⟨m', h1, h2⟩
  rintro ⟨j, L, at_⟩ ⟨g0, g1, g2⟩
  simp only at g0 g1 g2 ⊢
  unfold law32_FleetExact_l1
  simp only
  by_cases hj : j < 4
  · left
    have hj' : j.toNat < l.length := by omega
    rw [if_pos (by simpa using hj), ck_t hj, idx_toNat g0 hj', w64 (by omega) (by omega)]
    simp only [Option.bind_some, right_sp, rright_sp, fended_sp, rended_sp, served_sp, rserved_sp]
    rw [if_neg (by simp), if_neg (by simp), ints_self (by have := servedP_len f l[j.toNat]; omega)]
    simp only [Option.bind_some]
    rw [if_neg (by simp)]
    obtain ⟨u, m1, e1, _, _, t1⟩ := next_ex g2 (n := 3) (by omega)
    rw [e1]
    simp only [Option.bind_some]
    obtain ⟨w, m2, e2, _, _, t2⟩ := between_ex t1 (a := -1) (b := 4) (by omega) (by omega) (by omega)
    rw [e2]
    simp only [Option.bind_some]
    rw [exact_in rfl]
    exact ⟨_, rfl, ⟨by simp; omega, by simp; omega, t2⟩, by simp; omega⟩
  · right
    rw [if_neg (by simpa using hj)]
    exact ⟨_, rfl, ⟨L, at_⟩, rfl, g2⟩
theorem exact_fleets {l : List api_Fleet} (hl : l.length = 3) {y5 : api_Rotation × make_Tape} (h5 : y5.1.Units.length ≤ 1000) {a2 : api_Rotation} {a3 a4 : Int} {m : make_Tape} (h : TOk m) : iter (law32_FleetExact_l0 l y5 a2 a3 a4) (0, m.L, m.at_) = some (.inl ()) := by
  have := iter_ex (body := law32_FleetExact_l0 l y5 a2 a3 a4) (fun s : Int × (List Int) × Int => 0 ≤ s.1 ∧ s.1 ≤ 3 ∧ TOk ⟨s.2.1, s.2.2⟩) (fun s => (3 - s.1).toNat) (fun e => e = .inl ()) ?_ (s := (0, m.L, m.at_)) ⟨by simp, by simp, h⟩
  · obtain ⟨e, h1, rfl⟩ := this
    exact h1
  rintro ⟨j, L, at_⟩ ⟨g0, g1, g2⟩
  simp only at g0 g1 g2 ⊢
  unfold law32_FleetExact_l0
  simp only
  by_cases hj : j < 3
  · left
    have hj' : j.toNat < l.length := by omega
    rw [if_pos (by simpa using hj), ck_t hj, idx_toNat g0 hj', w64 (by omega) (by omega)]
    generalize l[j.toNat] = f
    simp only [Option.bind_some, fstart_sp, rstart_sp, check_sp, rcheck_sp]
    have hl8 : (if FleetOk f then (startR f, (0 : Int)) else (zeroR, 36)).1.Units.length ≤ 1000000 := by
      split
      · rename_i hf; have := hf.2.2.1; simp [startR]; omega
      · simp [zeroR]
    rw [if_neg (by simp), if_neg (by simp), same_self hl8]
    simp only [Option.bind_some, fpools_sp, pools_sp]
    rw [if_neg (by simp), ints_self (by have := poolsP_len f; omega)]
    simp only [Option.bind_some]
    rw [if_neg (by simp)]
    obtain ⟨s', m1, e1, _, t1⟩ := bend_ex g2 h5
    rw [e1]
    simp only [Option.bind_some]
    obtain ⟨m2, e2, t2⟩ := exact_states (l := [y5.1, s', a2, (if FleetOk f then (startR f, (0 : Int)) else (zeroR, 36)).1]) rfl (f := f) (a3 := a3) (a4 := a4) t1
    rw [e2]
    exact ⟨_, rfl, ⟨by simp; omega, by simp; omega, t2⟩, by simp; omega⟩
  · right
    rw [if_neg (by simpa using hj)]
    exact ⟨_, rfl, rfl⟩
theorem FleetExact_law (a : List Int) (a1 : api_Fleet) (a2 : api_Rotation) (a3 a4 : Int) : law32_FleetExact a a1 a2 a3 a4 = some true := by
  unfold law32_FleetExact
  simp only [Option.bind_some]
  split
  · rw [awake32]; rfl
  rename_i h
  have h : ¬ 300 < (a.length : Int) := fun h' => h (by simp [h'])
  obtain ⟨f, m1, e1, hf, _, _, t1⟩ := make_Fleet_ex (tape0 h) (most := 4) (by omega) (by omega)
  rw [e1]
  simp only [Option.bind_some]
  obtain ⟨v, m2, e2, _, _, t2⟩ := between_ex t1 (a := 0) (b := 3) (by omega) (by omega) (by omega)
  rw [e2]
  simp only [Option.bind_some]
  obtain ⟨s, m3, e3, hs, t3⟩ := make_State_ex t2 hf
  rw [e3]
  simp only [Option.bind_some]
  rw [exact_fleets rfl (by have := hs.len.2; simp only; omega) t3]
  simp only [Option.bind_some, awake32]
end Go.Vl
