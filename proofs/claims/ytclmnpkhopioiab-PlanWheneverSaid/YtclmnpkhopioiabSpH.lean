/- Plain laws FallbackExact, FallbackGoes, FallbackNever, FallbackEnds. Conditions: none. -/
import Derived.Test.YtclmnpkhopioiabSpM
set_option linter.unusedSimpArgs false
set_option linter.unusedVariables false
namespace Go.Vl
open Go

/-! The way of a rotation -/
def wayP (a b : api_Rotation) : Prop := (b.Known = a.Known ∨ b.Known = 3) ∧ (b.Valid = a.Valid ∨ b.Valid = 2 ∨ (a.Valid = 1 ∧ b.Valid = 3))
theorem way_refl (a : api_Rotation) : wayP a a := ⟨.inl rfl, .inl rfl⟩
theorem way_trans {a b c : api_Rotation} (h : wayP a b) (h2 : wayP b c) : wayP a c := by
  unfold wayP at h h2 ⊢; omega
theorem way_forward {f : api_Fleet} {a b : api_Rotation} (ha : RightOk f a) (hb : RightOk f b) (h : wayP a b) : forwardP f a b = true := by
  unfold forwardP
  rw [decide_eq_true ha, decide_eq_true hb]
  have hk := ha.2.1
  have hv := (bitsP_val ha.2.2.1).1
  obtain ⟨h1, h2⟩ := h
  have e1 : bAndNot .i64 a.Known b.Known = 0 := by
    rcases hk with k | k <;> rcases h1 with q | q <;> rw [q, k] <;> first | exact bn11 | exact bn13 | exact bn33
  rw [e1]
  simp only [Bool.true_and, beq_self_eq_true]
  rcases hv with k | k | k <;> rcases h2 with q | q | ⟨q, q'⟩ <;> first | (exfalso; omega) | (rw [k] at q; cases q; done) | skip
  all_goals first | (rw [q', k]; decide) | (rw [q, k]; decide)
theorem step_way {f : api_Fleet} {s : api_Rotation} {x : api_Step} (hr : RightOk f s) (h0 : (applyP f s x).2 = 0) : wayP s (applyP f s x).1 := by
  obtain ⟨_, r2, r3, r4⟩ := apply_right hr h0
  rw [r4]
  obtain ⟨h1, h2⟩ := next_known hr r3
  exact ⟨h1, by omega⟩
/-- the states of a safe run: each is right, on the way from the one ahead and from the first -/
def wayRun (f : api_Fleet) (s0 : api_Rotation) : api_Rotation → List api_Rotation → Prop
  | _, [] => True
  | s, x :: l => RightOk f x ∧ wayP s x ∧ wayP s0 x ∧ (HA f s0 → HA f x) ∧ wayRun f s0 x l
theorem run_way {f : api_Fleet} {s0 : api_Rotation} : ∀ (l : List api_Step) (s : api_Rotation), RightOk f s → wayP s0 s → (HA f s0 → HA f s) → safeRun f s l → wayRun f s0 s (runP f s l).1 := fun l => by
  induction l with
  | nil => intro s _ _ _ _; trivial
  | cons x l ih =>
    intro s hr hw ha hs
    have h0 := safe_possible hs.1
    have r1 := (apply_right hr h0).1
    have q1 := (safeRun_run l _ r1 hs.2).1
    have w1 := step_way hr h0
    have a1 : HA f s0 → HA f (applyP f s x).1 := fun h => safe_HA hr (ha h) hs.1
    rw [runP_eq, if_neg (not_not_intro h0), if_neg (not_not_intro q1)]
    exact ⟨r1, w1, way_trans hw w1, a1, ih _ r1 (way_trans hw w1) a1 hs.2⟩
theorem run_len {f : api_Fleet} {s : api_Rotation} {l : List api_Step} (hr : RightOk f s) (hs : safeRun f s l) : (runP f s l).1.length = l.length := (runP_right l s hr (safeRun_run l s hr hs).1).1
theorem forward_anti {f : api_Fleet} {a b : api_Rotation} (ha : RightOk f a) (hb : RightOk f b) (h1 : forwardP f a b = true) (h2 : forwardP f b a = true) : a.Known = b.Known ∧ a.Valid = b.Valid := by
  unfold forwardP at h1 h2
  rw [decide_eq_true ha, decide_eq_true hb] at h1 h2
  simp only [Bool.true_and] at h1 h2
  have hk := ha.2.1
  have hk2 := hb.2.1
  have hv := (bitsP_val ha.2.2.1).1
  have hv2 := (bitsP_val hb.2.2.1).1
  generalize a.Known = ka at *
  generalize b.Known = kb at *
  generalize a.Valid = va at *
  generalize b.Valid = vb at *
  clear ha hb
  rcases hk with rfl | rfl <;> rcases hk2 with rfl | rfl <;> rcases hv with rfl | rfl | rfl <;> rcases hv2 with rfl | rfl | rfl <;> first | exact ⟨rfl, rfl⟩ | (exact absurd h1 (by decide)) | (exact absurd h2 (by decide))

/-! FallbackEnds -/
theorem good_make {f : api_Fleet} {s : api_Rotation} (hr : RightOk f s) (ha : HA f s) (hw : (whyP f).2 = false) : makeE f s = 0 := by
  unfold makeE
  rw [if_neg (not_not_intro hr), hw, (hold_HA hr).2 ha]; rfl
theorem FallbackEnds_law (a : List Int) : law39_FallbackEnds a = some true := by
  unfold law39_FallbackEnds
  by_cases h : 300 < (a.length : Int)
  · rw [if_pos (by simpa using h), awake39]; rfl
  rw [if_neg (by simpa using h)]
  obtain ⟨f, m1, e1, hf, hle, hw, t1⟩ := make_FitFleet_ex (tape0 h) (most := 6) (by omega) (by omega)
  have c8 := hf.2.2.1
  have hr : RightOk f (startR f) := start_right hf
  have he := good_make hr (start_HA f) hw
  obtain ⟨l, h1, _, h3⟩ := make_ex (f := f) (s := startR f)
  obtain ⟨_, _, _, hg⟩ := h3 he
  have hlen := hg.len
  rw [e1]
  simp only [Option.bind_some, rstart_sp, hf, if_true]
  rw [h1, he]
  simp only [Option.bind_some]
  rw [rcheck35_sp f (startR f) (by omega), good_check hr hg, rrun_eq, run_sp hr (by omega)]
  simp only [Option.bind_some]
  rw [if_neg (by simp)]
  simp only [Option.bind_some]
  have hne : 0 < (runP f (startR f) l).1.length := by
    refine Nat.pos_of_ne_zero fun h0 => ?_
    have := run_nil hr hg.run (by omega)
    have hv := hg.va
    rw [this] at hv
    exact absurd hv (by show ¬ (1 : Int) = 2; decide)
  obtain ⟨k1, k2⟩ := run_last hr hg.run (by omega) hne
  rw [if_neg (by simp), if_neg (by simp; intro h; rw [h] at hne; simp at hne), k1, k2]
  simp only [Option.bind_some]
  have he2 := good_make hg.right hg.ha hw
  obtain ⟨l2, j1, _, j3⟩ := make_ex (f := f) (s := endS f (startR f) l)
  obtain ⟨_, _, _, hg2⟩ := j3 he2
  have hlen2 := hg2.len
  have hf1 : forwardP f (startR f) (endS f (startR f) l) = true := way_forward hr hg.right ⟨.inr hg.kn, .inr (.inl hg.va)⟩
  have hf2 : forwardP f (endS f (startR f) l) (startR f) = false := by
    unfold forwardP
    rw [hg.kn]
    have : bAndNot .i64 3 (startR f).Known ≠ 0 := by show bAndNot .i64 3 1 ≠ 0; decide
    simp [this]
  have hc0 : checkP f (endS f (startR f) l) [] = true := by
    unfold checkP
    rw [decide_eq_true hg.right]
    show (true && ((0 : Int) == 0 && endedP f (endS f (startR f) l))) = true
    rw [hg.ended]; rfl
  rw [j1, he2]
  simp only [Option.bind_some]
  rw [if_pos (by simp), rcheck35_sp f _ (by omega : l2.length ≤ 120), good_check hg.right hg2, rcheck35_sp f _ (l := []) (by simp), hc0, forward_sp, hf1, forward_sp, hf2, awake39]
  rfl

/-! FallbackGoes -/
theorem goes_loop {f : api_Fleet} {m : make_Tape} {s0 : api_Rotation} {m3 : make_Tape} {y5 : (List api_Rotation) × Int} (h5 : y5.1.length ≤ 1000) (h0 : RightOk f s0) (ha0 : HA f s0) : ∀ (mm k : Nat) (s : api_Rotation), k + mm = y5.1.length → RightOk f s → wayRun f s0 s (y5.1.drop k) →
    iter (law39_FallbackGoes_l0 y5 (f, m) (s0, m3)) ((k : Int), s.Known, s.Valid, s.Units) = some (.inl (((s :: y5.1.drop k).getLast (by simp)).Known, ((s :: y5.1.drop k).getLast (by simp)).Valid, ((s :: y5.1.drop k).getLast (by simp)).Units)) := fun mm => by
  induction mm with
  | zero =>
    intro k s hk hr hw
    have : k = y5.1.length := by omega
    subst this
    refine (iter_out (e := .inl (s.Known, s.Valid, s.Units)) ?_).trans ?_
    · unfold law39_FallbackGoes_l0
      rw [if_neg (by simp)]
    · simp
  | succ mm ih =>
    intro k s hk hr hw
    have hkl : k < y5.1.length := by omega
    have hd := List.drop_eq_getElem_cons hkl
    rw [hd] at hw
    obtain ⟨r1, w1, w2, a1, hw'⟩ := hw
    have hb : law39_FallbackGoes_l0 y5 (f, m) (s0, m3) ((k : Int), s.Known, s.Valid, s.Units) = some (.go (((k + 1 : Nat) : Int), y5.1[k].Known, y5.1[k].Valid, y5.1[k].Units)) := by
      unfold law39_FallbackGoes_l0
      simp only
      rw [if_pos (by simp; omega), idx_lt hkl, w64 (by omega) (by omega)]
      simp only [Option.bind_some, forward_sp, hold_sp]
      rw [way_forward hr r1 w1, way_forward h0 r1 w2, (hold_HA r1).2 (a1 ha0)]
      rfl
    rw [iter_go hb, ih (k + 1) _ (by omega) r1 hw']
    simp only [hd, List.getLast_cons_cons]
theorem FallbackGoes_law (a : List Int) : law39_FallbackGoes a = some true := by
  unfold law39_FallbackGoes
  by_cases h : 300 < (a.length : Int)
  · rw [if_pos (by simpa using h), awake39]; rfl
  rw [if_neg (by simpa using h)]
  obtain ⟨f, m1, e1, hf, hle, hw, t1⟩ := make_FitFleet_ex (tape0 h) (most := 6) (by omega) (by omega)
  have c8 := hf.2.2.1
  obtain ⟨s, m2, e2, hr, ha, t2⟩ := make_Held_ex t1 hf
  have he := good_make hr ha hw
  obtain ⟨l, h1, _, h3⟩ := make_ex (f := f) (s := s)
  obtain ⟨_, _, _, hg⟩ := h3 he
  have hlen := hg.len
  rw [e1]
  simp only [Option.bind_some]
  rw [e2]
  simp only [Option.bind_some]
  rw [h1, he]
  simp only [Option.bind_some]
  have hl := run_len hr hg.run
  rw [rrun_eq, run_sp hr (by omega), rcheck35_sp f s (by omega : l.length ≤ 120), good_check hr hg, hold_sp, (hold_HA hr).2 ha]
  simp only [Option.bind_some]
  rw [if_neg (by simp), if_neg (by simp [(safeRun_run l s hr hg.run).1]), if_neg (by simp)]
  simp only [Option.bind_some]
  rw [if_neg (by simp)]
  have hloop := goes_loop (f := f) (m := m1) (s0 := s) (m3 := m2) (y5 := runP f s l) (by omega) hr ha (runP f s l).1.length 0 s (by omega) hr (by rw [List.drop_zero]; exact run_way l s hr (way_refl s) (fun h => h) hg.run)
  rw [show (0 : Int) = ((0 : Nat) : Int) from rfl, hloop]
  simp only [Option.bind_some, List.drop_zero]
  have hlast : (s :: (runP f s l).1).getLast (by simp) = endS f s l := by
    have := endS_last l s [] hr hg.run
    rw [List.nil_append, List.singleton_append, List.getLast?_eq_some_getLast (by simp)] at this
    exact Option.some.inj this
  rw [hlast]
  rw [show (⟨(endS f s l).Known, (endS f s l).Valid, (endS f s l).Units⟩ : api_Rotation) = endS f s l from rfl, rended_sp, hg.ended, awake39]
  rfl

/-! FallbackNever -/
theorem never_loop {f : api_Fleet} {m : make_Tape} {s0 : api_Rotation} {m3 : make_Tape} {y5 : (List api_Rotation) × Int} (h5 : y5.1.length ≤ 1000) (h0 : RightOk f s0) : ∀ (mm k : Nat) (s : api_Rotation), k + mm = y5.1.length → wayRun f s0 s (y5.1.drop k) →
    iter (law39_FallbackNever_l0 y5 (f, m) (s0, m3)) (k : Int) = some (.inl ()) := fun mm => by
  induction mm with
  | zero =>
    intro k s hk hw
    refine iter_out ?_
    unfold law39_FallbackNever_l0
    rw [if_neg (by simp; omega)]
  | succ mm ih =>
    intro k s hk hw
    have hkl : k < y5.1.length := by omega
    rw [List.drop_eq_getElem_cons hkl] at hw
    obtain ⟨r1, w1, w2, a1, hw'⟩ := hw
    have hb : law39_FallbackNever_l0 y5 (f, m) (s0, m3) (k : Int) = some (.go (((k + 1 : Nat) : Int))) := by
      unfold law39_FallbackNever_l0
      rw [if_pos (by simp; omega), idx_lt hkl, w64 (by omega) (by omega)]
      simp only [Option.bind_some, forward_sp]
      rw [way_forward h0 r1 w2]
      rfl
    rw [iter_go hb, ih (k + 1) _ (by omega) hw']
theorem FallbackNever_law (a : List Int) : law39_FallbackNever a = some true := by
  unfold law39_FallbackNever
  by_cases h : 300 < (a.length : Int)
  · rw [if_pos (by simpa using h), awake39]; rfl
  rw [if_neg (by simpa using h)]
  obtain ⟨f, m1, e1, hf, _, _, t1⟩ := make_Fleet_ex (tape0 h) (most := 4) (by omega) (by omega)
  rw [e1]
  simp only [Option.bind_some]
  obtain ⟨s, m2, e2, hs, t2⟩ := make_State_ex t1 hf
  rw [e2]
  simp only [Option.bind_some]
  obtain ⟨l, m3, e3, hl, hrun, t3⟩ := make_SafeSteps_ex t2 hs (n := 3) (by omega)
  rw [e3]
  simp only [Option.bind_some]
  have hlen : l.length ≤ 3 := by omega
  have hrl := run_len hs hrun
  rw [rrun_eq, run_sp hs (by omega)]
  simp only [Option.bind_some]
  rw [if_neg (by simp [(safeRun_run l s hs hrun).1])]
  have hloop := never_loop (f := f) (m := m1) (s0 := s) (m3 := m2) (y5 := runP f s l) (by omega) hs (runP f s l).1.length 0 s (by omega) (by rw [List.drop_zero]; exact run_way l s hs (way_refl s) (fun h => h) hrun)
  rw [show (0 : Int) = ((0 : Nat) : Int) from rfl, hloop]
  simp only [Option.bind_some]
  obtain ⟨b, m4, e4, hb, t4⟩ := make_State_ex t3 hf
  rw [e4]
  simp only [Option.bind_some]
  obtain ⟨c, m5, e5, hc, t5⟩ := make_State_ex t4 hf
  rw [e5]
  simp only [Option.bind_some, forward_sp]
  have hmid : (if forwardP f b c = true then
        if forwardP f c b = true then
          if (b.Known != c.Known) = true then
            some true
          else
            some (b.Valid != c.Valid)
        else
          some false
      else
        some false) = some false := by
    by_cases h1 : forwardP f b c = true
    · rw [if_pos h1]
      by_cases h2 : forwardP f c b = true
      · obtain ⟨k1, k2⟩ := forward_anti hb hc h1 h2
        rw [if_pos h2, if_neg (by simp [k1]), k2]; simp
      · rw [if_neg h2]
    · rw [if_neg h1]
  rw [hmid]
  simp only [Option.bind_some]
  rw [if_neg (by simp), way_forward hb hb (way_refl b), awake39]
  rfl

/-! FallbackExact -/
theorem fexact_in {l : List api_Rotation} (hl : l.length = 3) {f : api_Fleet} {x : api_Rotation} : iter (law39_FallbackExact_l1 l f x) 0 = some (.inl ()) := by
  rw [iter_all 3 (fun _ => true) (fun i hi => ?_) ?_]
  · simp
  · unfold law39_FallbackExact_l1
    rw [if_neg (by simp)]
  · unfold law39_FallbackExact_l1
    rw [if_pos (by simp; omega), ck_t (by omega), idx_lt (by omega), w64 (by omega) (by omega)]
    simp only [Option.bind_some, hold_sp, rhold_sp, forward_sp, rforward_sp]
    simp
theorem fexact_loop {l5 : List api_Fleet} (h5 : l5.length = 4) {f1 f2 : api_Fleet} {m1 m2 : make_Tape} (hf1 : FleetOk f1) (hf2 : FleetOk f2) {a2 a3 : api_Rotation} {t : make_Tape} (ht : TOk t) : iter (law39_FallbackExact_l0 l5 (f1, m1) (f2, m2) a2 a3) (0, t.L, t.at_) = some (.inl ()) := by
  have := iter_ex (body := law39_FallbackExact_l0 l5 (f1, m1) (f2, m2) a2 a3) (fun s : Int × (List Int) × Int => 0 ≤ s.1 ∧ s.1 ≤ 4 ∧ TOk ⟨s.2.1, s.2.2⟩) (fun s => (4 - s.1).toNat) (fun e => e = .inl ()) ?_ (s := (0, t.L, t.at_)) ⟨by simp, by simp, ht⟩
  · obtain ⟨e, h1, rfl⟩ := this
    exact h1
  rintro ⟨j, L, at_⟩ ⟨g0, g1, g2⟩
  simp only at g0 g1 g2 ⊢
  unfold law39_FallbackExact_l0
  simp only
  by_cases hj : j < 4
  case neg =>
    right
    rw [if_neg (by simpa using hj)]
    exact ⟨_, rfl, rfl⟩
  left
  have hj' : j.toNat < l5.length := by omega
  rw [if_pos (by simpa using hj), ck_t hj, idx_toNat g0 hj', w64 (by omega) (by omega)]
  simp only [Option.bind_some]
  obtain ⟨s1, n1, e1, _, _, t1⟩ := make_Held_ex g2 hf1
  rw [e1]
  simp only [Option.bind_some]
  obtain ⟨s2, n2, e2, _, t2⟩ := make_State_ex t1 hf1
  rw [e2]
  simp only [Option.bind_some]
  obtain ⟨s3, n3, e3, _, t3⟩ := make_State_ex t2 hf2
  rw [e3]
  simp only [Option.bind_some]
  rw [idx_toNat g0 (by simp; omega)]
  simp only [Option.bind_some]
  generalize l5[j.toNat] = f
  generalize ([s1, s2, s3, a2] : List api_Rotation)[j.toNat]'(by simp; omega) = s
  obtain ⟨l, h1, h2, h3⟩ := make_ex (f := f) (s := s)
  rw [h1, rmake_sp]
  simp only [Option.bind_some]
  obtain ⟨s4, n4, e4, _, t4⟩ := make_State_ex t3 hf1
  by_cases he : makeE f s = 0
  · obtain ⟨hr, _, _, hg⟩ := h3 he
    have c8 := hr.1.2.2.1
    have hlen := hg.len
    rw [rcheck35_sp f s (by omega : l.length ≤ 120), good_check hr hg, rbound_sp]
    simp only [Option.bind_some, he]
    have hb : ¬ boundP f < (l.length : Int) := by unfold boundP; rw [if_pos hr.1]; omega
    rw [if_neg (by simp), if_neg (by simp), if_pos (by simp), if_neg (by simp)]
    simp only [Option.bind_some]
    rw [if_neg (by simpa using hb), e4]
    simp only [Option.bind_some]
    rw [fexact_in rfl]
    exact ⟨_, rfl, ⟨by simp; omega, by simp; omega, t4⟩, by simp; omega⟩
  · rw [h2 he, if_neg (by simp), if_pos (by simpa using he), if_neg (by simp), if_neg (by simpa using he)]
    simp only [Option.bind_some]
    rw [if_neg (by simp), e4]
    simp only [Option.bind_some]
    rw [fexact_in rfl]
    exact ⟨_, rfl, ⟨by simp; omega, by simp; omega, t4⟩, by simp; omega⟩
theorem FallbackExact_law (a : List Int) (a1 : api_Fleet) (a2 a3 : api_Rotation) : law39_FallbackExact a a1 a2 a3 = some true := by
  unfold law39_FallbackExact
  simp only [Option.bind_some]
  split
  · rw [awake39]; rfl
  rename_i h
  have h : ¬ 300 < (a.length : Int) := fun h' => h (by simp [h'])
  obtain ⟨f, m1, e1, hf, _, _, t1⟩ := make_FitFleet_ex (tape0 h) (most := 6) (by omega) (by omega)
  rw [e1]
  simp only [Option.bind_some]
  obtain ⟨f2, m2, e2, hf2, _, _, t2⟩ := make_Fleet_ex t1 (most := 4) (by omega) (by omega)
  rw [e2]
  simp only [Option.bind_some]
  rw [fexact_loop rfl hf hf2 t2]
  simp only [Option.bind_some, awake39]
end Go.Vl
