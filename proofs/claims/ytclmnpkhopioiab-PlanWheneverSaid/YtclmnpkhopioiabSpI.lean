/- Plain laws PlanServes, PlanExact. Conditions: none. -/
import Derived.Test.YtclmnpkhopioiabSpH
set_option linter.unusedSimpArgs false
set_option linter.unusedVariables false
namespace Go.Vl
open Go

/-! PlanServes -/
theorem pserves_loop {f : api_Fleet} {m : make_Tape} {s0 : api_Rotation} {y5 : (List api_Rotation) × Int} (h5 : y5.1.length ≤ 1000) (ha0 : HA f s0) : ∀ (mm k : Nat) (s : api_Rotation), k + mm = y5.1.length → wayRun f s0 s (y5.1.drop k) →
    iter (law35_PlanServes_l0 y5 (f, m)) (k : Int) = some (.inl ()) := fun mm => by
  induction mm with
  | zero =>
    intro k s hk hw
    refine iter_out ?_
    unfold law35_PlanServes_l0
    rw [if_neg (by simp; omega)]
  | succ mm ih =>
    intro k s hk hw
    have hkl : k < y5.1.length := by omega
    rw [List.drop_eq_getElem_cons hkl] at hw
    obtain ⟨r1, w1, w2, a1, hw'⟩ := hw
    have hb : law35_PlanServes_l0 y5 (f, m) (k : Int) = some (.go (((k + 1 : Nat) : Int))) := by
      unfold law35_PlanServes_l0
      rw [if_pos (by simp; omega), idx_lt hkl, w64 (by omega) (by omega)]
      simp only [Option.bind_some, rserved_sp, pools_sp]
      rw [(HA_pools r1).1 (a1 ha0), if_neg (by simp)]
      rfl
    rw [iter_go hb, ih (k + 1) _ (by omega) hw']
theorem pserves_units {f : api_Fleet} {m : make_Tape} {s : api_Rotation} (hr : RightOk f s) (hv : s.Valid = 2) (h : ∀ j, j < f.Consumers.length → unitAt s j = uE) : iter (law35_PlanServes_l1 (f, m) s) 0 = some (.inl ()) := by
  have c8 := hr.1.2.2.1
  have hl := hr.2.2.2.1
  rw [iter_all f.Consumers.length (fun _ => true) (fun i hi => ?_) ?_]
  · simp
  · unfold law35_PlanServes_l1
    rw [if_neg (by simp)]
  · unfold law35_PlanServes_l1
    rw [if_pos (by simp; omega), w64 (by omega) (by omega)]
    simp only [Option.bind_some, serves_sp]
    have e : servesI f s (i : Int) = true := by
      unfold servesI
      have e2 : s.Units.getD (Int.toNat (i : Int)) default = uE := h i hi
      rw [e2, decide_eq_true hr, decide_eq_true (by omega : (0 : Int) ≤ i), decide_eq_true (by omega : (i : Int) < s.Units.length), serves23 (.inl hv) (.inl rfl)]
      rfl
    rw [e]; rfl
theorem PlanServes_law (a : List Int) : law35_PlanServes a = some true := by
  unfold law35_PlanServes
  by_cases h : 200 < (a.length : Int)
  · rw [if_pos (by simpa using h), awake35]; rfl
  rw [if_neg (by simpa using h)]
  obtain ⟨f, m1, e1, hf, hle, hw, t1⟩ := make_FitFleet_ex (tape0 (a := a) (by omega)) (most := 8) (by omega) (by omega)
  have c8 := hf.2.2.1
  have hr : RightOk f (startR f) := start_right hf
  have he : planE f = 0 := by unfold planE; rw [if_neg (not_not_intro hf), hw]; rfl
  obtain ⟨l, h1, _, h3⟩ := plan_ex f
  obtain ⟨_, hg⟩ := h3 he
  have hlen := hg.len
  rw [e1]
  simp only [Option.bind_some, rstart_sp, hf, if_true]
  rw [h1, he]
  simp only [Option.bind_some]
  have hrl := run_len hr hg.run
  rw [rrun_eq, run_sp hr (by omega), bound_sp]
  simp only [Option.bind_some]
  have hne : 0 < (runP f (startR f) l).1.length := by
    refine Nat.pos_of_ne_zero fun h0 => ?_
    have := run_nil hr hg.run (by omega)
    have hv := hg.va
    rw [this] at hv
    exact absurd hv (by show ¬ (1 : Int) = 2; decide)
  have hb : ¬ boundP f < (l.length : Int) := by unfold boundP; rw [if_pos hf]; omega
  rw [if_neg (by simp), if_neg (by simp [(safeRun_run l _ hr hg.run).1]), if_neg (by simp; intro h; rw [h] at hne; simp at hne)]
  simp only [Option.bind_some]
  rw [if_neg (by simpa using hb)]
  have hloop := pserves_loop (f := f) (m := m1) (s0 := startR f) (y5 := runP f (startR f) l) (by omega) (start_HA f) (runP f (startR f) l).1.length 0 (startR f) (by omega) (by rw [List.drop_zero]; exact run_way l _ hr (way_refl _) (fun h => h) hg.run)
  obtain ⟨k1, k2⟩ := run_last hr hg.run (by omega) hne
  rw [show (0 : Int) = ((0 : Nat) : Int) from rfl, hloop]
  simp only [Option.bind_some]
  rw [k1, k2]
  simp only [Option.bind_some]
  rw [show ((0 : Nat) : Int) = (0 : Int) from rfl, pserves_units hg.right hg.va hg.allE, rended_sp, hg.ended, fcheck35_sp f _ (by omega : l.length ≤ 120), good_check hr hg, hg.va, awake35]
  have : (bAnd .i64 2 1 == 0) = true := by decide
  simp only [Option.bind_some]
  rw [this]
  rfl

/-! PlanExact -/
theorem pexact_l4 {l : List (List api_Step)} (hl : l.length = 3) (h : ∀ x ∈ l, x.length ≤ 120) (f : api_Fleet) (s : api_Rotation) : iter (law35_PlanExact_l4 l f s) 0 = some (.inl ()) := by
  rw [iter_all 3 (fun _ => true) (fun i hi => ?_) ?_]
  · simp
  · unfold law35_PlanExact_l4
    rw [if_neg (by simp)]
  · unfold law35_PlanExact_l4
    have hi' : i < l.length := by omega
    have := h _ (List.getElem_mem hi')
    rw [if_pos (by simp; omega), ck_t (by omega), idx_lt hi', w64 (by omega) (by omega)]
    simp only [Option.bind_some]
    rw [fcheck35_sp f s this, rcheck35_sp f s this]
    simp
theorem pexact_l3 {l20 : List api_Rotation} (hl : l20.length = 2) {y15 : (List api_Step) × Int} {v19 : (List Int) × Int × (List api_Step)} {a4 : List api_Step} (h1 : y15.1.length ≤ 120) (h2 : v19.2.2.length ≤ 120) (h3 : a4.length ≤ 120) (f : api_Fleet) : iter (law35_PlanExact_l3 l20 y15 v19 a4 f) 0 = some (.inl ()) := by
  rw [iter_all 2 (fun _ => true) (fun i hi => ?_) ?_]
  · simp
  · unfold law35_PlanExact_l3
    rw [if_neg (by simp)]
  · unfold law35_PlanExact_l3
    have hi' : i < l20.length := by omega
    rw [if_pos (by simp; omega), ck_t (by omega), idx_lt hi', w64 (by omega) (by omega)]
    simp only [Option.bind_some]
    rw [pexact_l4 rfl (fun x hx => by
      simp only [List.mem_cons, List.not_mem_nil, or_false] at hx
      rcases hx with rfl | rfl | rfl <;> assumption)]
    simp
theorem pexact_j2 {y17 : api_Rotation × Int} {a2 : api_Rotation} {y15 : (List api_Step) × Int} {a4 : List api_Step} {f : api_Fleet} {s8 : Int × (List Int) × Int} {v19 : (List Int) × Int × (List api_Step)} (h1 : y15.1.length ≤ 120) (h2 : v19.2.2.length ≤ 120) (h3 : a4.length ≤ 120) (h0 : 0 ≤ s8.1) (h9 : s8.1 < 3) :
    law35_PlanExact_j2 y17 a2 y15 a4 f s8 v19 = some (.go (s8.1 + 1, v19.1, v19.2.1)) := by
  unfold law35_PlanExact_j2
  simp only [Option.bind_some]
  rw [pexact_l3 rfl h1 h2 h3, w64 (by omega) (by omega)]
  rfl
theorem pexact_l1 {l : List Int} (hl : l.length = 3) (f : api_Fleet) : iter (law35_PlanExact_l1 l f) 0 = some (.inl ()) := by
  rw [iter_all 3 (fun _ => true) (fun i hi => ?_) ?_]
  · simp
  · unfold law35_PlanExact_l1
    rw [if_neg (by simp)]
  · unfold law35_PlanExact_l1
    have hi' : i < l.length := by omega
    rw [if_pos (by simp; omega), ck_t (by omega), idx_lt hi', w64 (by omega) (by omega)]
    simp only [Option.bind_some, fit_sp, rfit_sp]
    simp
theorem pexact_loop {l5 : List api_Fleet} (h5 : l5.length = 3) {a3 : Int} {a2 : api_Rotation} {a4 : List api_Step} (h4 : a4.length ≤ 120) {t : make_Tape} (ht : TOk t) : iter (law35_PlanExact_l0 l5 a3 a2 a4) (0, t.L, t.at_) = some (.inl ()) := by
  have := iter_ex (body := law35_PlanExact_l0 l5 a3 a2 a4) (fun s : Int × (List Int) × Int => 0 ≤ s.1 ∧ s.1 ≤ 3 ∧ TOk ⟨s.2.1, s.2.2⟩) (fun s => (3 - s.1).toNat) (fun e => e = .inl ()) ?_ (s := (0, t.L, t.at_)) ⟨by simp, by simp, ht⟩
  · obtain ⟨e, h1, rfl⟩ := this
    exact h1
  rintro ⟨j, L, at_⟩ ⟨g0, g1, g2⟩
  simp only at g0 g1 g2 ⊢
  unfold law35_PlanExact_l0
  simp only
  by_cases hj : j < 3
  case neg =>
    right
    rw [if_neg (by simpa using hj)]
    exact ⟨_, rfl, rfl⟩
  left
  have hj' : j.toNat < l5.length := by omega
  rw [if_pos (by simpa using hj), ck_t hj, idx_toNat g0 hj']
  generalize l5[j.toNat] = f
  simp only [Option.bind_some, why_sp, rwhy_sp, bound_sp, rbound_sp]
  rw [if_neg (by simp), if_neg (by simp)]
  simp only [Option.bind_some]
  rw [if_neg (by simp), pexact_l1 rfl]
  simp only [Option.bind_some]
  obtain ⟨l, h1, h2, h3⟩ := plan_ex f
  rw [h1, rplan_sp]
  simp only [Option.bind_some]
  rw [if_neg (by simp)]
  by_cases he : planE f = 0
  · obtain ⟨hf, hg⟩ := h3 he
    have c8 := hf.2.2.1
    have hlen := hg.len
    have hr : RightOk f (startR f) := start_right hf
    have hb : ¬ boundP f < (l.length : Int) := by unfold boundP; rw [if_pos hf]; omega
    rw [he, if_neg (by simp), rstart_sp, if_pos hf]
    simp only [Option.bind_some]
    rw [if_neg (by simp), if_pos (by simp), rcheck35_sp f _ (by omega : l.length ≤ 120), good_check hr hg]
    simp only [Option.bind_some]
    rw [if_neg (by simp)]
    simp only [Option.bind_some]
    rw [if_neg (by simpa using hb), ck_t (by omega)]
    simp only [Option.bind_some]
    by_cases h0 : 0 < l.length
    · rw [if_pos (by simpa using h0)]
      obtain ⟨v, m1, e1, v0, v1, t1⟩ := next_ex g2 (n := (l.length : Int)) (by omega)
      rw [e1]
      simp only [Option.bind_some]
      obtain ⟨w, m2, e2, _, _, t2⟩ := next_ex t1 (n := 2) (by omega)
      rw [e2]
      simp only [Option.bind_some]
      have hv : v.toNat < l.length := by omega
      split
      · have hw : IntKind.i64.wrap (v + 1) = v + 1 := w64 (by omega) (by omega)
        rw [hw, ck_t (by omega), Option.bind_some, ck_t (by omega), Option.bind_some, ck_t (by omega), Option.bind_some, ck_t (by omega), Option.bind_some, ck_t (by simp; omega), Option.bind_some]
        rw [pexact_j2 (by simp only; omega) (by simp; omega) h4 g0 hj]
        exact ⟨_, rfl, ⟨by simp; omega, by simp; omega, t2⟩, by simp; omega⟩
      · obtain ⟨x, m3, e3, _, t3⟩ := make_Step_ex t2 hf
        rw [e3, Option.bind_some, ck_t ⟨v0, hv⟩, Option.bind_some, idx_toNat v0 hv]
        simp only [Option.bind_some]
        rw [pexact_j2 (by simp only; omega) (by simp; omega) h4 g0 hj]
        exact ⟨_, rfl, ⟨by simp; omega, by simp; omega, t3⟩, by simp; omega⟩
    · rw [if_neg (by simpa using h0), pexact_j2 (by simp only; omega) (by simp only; omega) h4 g0 hj]
      exact ⟨_, rfl, ⟨by simp; omega, by simp; omega, g2⟩, by simp; omega⟩
  · rw [h2 he, if_pos (by simpa using he), rstart_sp]
    simp only [Option.bind_some]
    rw [if_neg (by simp), if_neg (by simpa using he)]
    simp only [Option.bind_some]
    rw [if_neg (by simp), ck_t (by simp), Option.bind_some, if_neg (by simp), pexact_j2 (by simp) (by simp) h4 g0 hj]
    exact ⟨_, rfl, ⟨by simp; omega, by simp; omega, g2⟩, by simp; omega⟩
theorem PlanExact_law (a : List Int) (a1 : api_Fleet) (a2 : api_Rotation) (a3 : Int) (a4 : List api_Step) : law35_PlanExact a a1 a2 a3 a4 = some true := by
  unfold law35_PlanExact
  simp only [Option.bind_some]
  split
  · rw [awake35]; rfl
  rename_i hh
  have h : ¬ 300 < (a.length : Int) := fun h' => hh (by simp [h'])
  have h4 : a4.length ≤ 120 := by
    simp only [Bool.or_eq_true, decide_eq_true_eq, not_or] at hh
    omega
  obtain ⟨f, m1, e1, hf, _, _, t1⟩ := make_FitFleet_ex (tape0 h) (most := 8) (by omega) (by omega)
  rw [e1]
  simp only [Option.bind_some]
  obtain ⟨f2, m2, e2, hf2, _, _, t2⟩ := make_Fleet_ex t1 (most := 5) (by omega) (by omega)
  rw [e2]
  simp only [Option.bind_some]
  rw [pexact_loop rfl h4 t2]
  simp only [Option.bind_some, awake35]
end Go.Vl
