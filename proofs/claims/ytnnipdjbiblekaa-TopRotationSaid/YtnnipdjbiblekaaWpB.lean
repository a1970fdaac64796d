/- A rotation from its start to its end: TopRotation. Conditions: none. -/
import Derived.Test.YtnnipdjbiblekaaWpA
set_option linter.unusedSimpArgs false
set_option linter.unusedVariables false
namespace Go.Vl
open Go
theorem top_awake : top_awake39 = some true := by
  unfold top_awake39
  rw [show (⟨1, [(⟨0, false, false⟩ : api_Consumer), (⟨0, false, false⟩ : api_Consumer)]⟩ : api_Fleet) = fC from rfl]
  obtain ⟨l2, b1, _, b3⟩ := plan_ex fC
  have eC : planE fC = 0 := by unfold planE; rw [if_neg (not_not_intro fC_ok), whyC]; rfl
  obtain ⟨_, hg⟩ := b3 eC
  have hlen : l2.length ≤ 120 := Nat.le_trans hg.len (by decide)
  have hr : RightOk fC (startR fC) := start_right fC_ok
  rw [fstart_sp, if_pos fC_ok, b1, eC]
  simp only [Option.bind_some]
  rw [if_pos (by rfl), if_pos (by rfl), fcheck35_sp fC (startR fC) hlen, good_check hr hg]
  rfl
theorem way_mem {f : api_Fleet} {s0 : api_Rotation} : ∀ (l : List api_Rotation) (s : api_Rotation), wayRun f s0 s l → ∀ x ∈ l, RightOk f x ∧ wayP s0 x ∧ (HA f s0 → HA f x) := fun l => by
  induction l with
  | nil => intro s _ x hx; cases hx
  | cons y l ih =>
    intro s h x hx
    rcases List.mem_cons.1 hx with rfl | hx
    · exact ⟨h.1, h.2.2.1, h.2.2.2.1⟩
    · exact ih y h.2.2.2.2 x hx
theorem rot_loop {y16 : (List api_Rotation) × Int} {f : api_Fleet} {m : make_Tape} {s : api_Rotation} {e : Int} (hl : y16.1.length ≤ 100000) (hs : RightOk f s) (h : ∀ x ∈ y16.1, RightOk f x ∧ wayP s x ∧ HA f x) : iter (top_TopRotation_l0 y16 (f, m) (s, e)) 0 = some (.inl ()) := by
  have key : ∀ (n k : Nat), k + n = y16.1.length → iter (top_TopRotation_l0 y16 (f, m) (s, e)) (k : Int) = some (.inl ()) := fun n => by
    induction n with
    | zero =>
      intro k hk
      refine (iter_out (e := .inl ()) ?_).trans rfl
      unfold top_TopRotation_l0
      rw [if_neg (by simp; omega)]
    | succ n ih =>
      intro k hk
      have hkl : k < y16.1.length := by omega
      obtain ⟨r1, w1, a1⟩ := h _ (List.getElem_mem hkl)
      have hb : top_TopRotation_l0 y16 (f, m) (s, e) (k : Int) = some (.go ((k + 1 : Nat) : Int)) := by
        unfold top_TopRotation_l0
        rw [if_pos (by simp; omega), idx_lt hkl, w64 (by omega) (by omega)]
        simp only [Option.bind_some, served_sp, fpools_sp, forward_sp]
        rw [way_forward hs r1 w1, (HA_pools r1).1 a1]
        simp
      rw [iter_go hb, ih (k + 1) (by omega)]
  exact key y16.1.length 0 (by omega)
theorem TopRotation_law (a : List Int) : top_TopRotation a = some true := by
  unfold top_TopRotation
  by_cases h : 400 < (a.length : Int)
  · rw [if_pos (by simpa using h), top_awake]; rfl
  rw [if_neg (by simpa using h)]
  have ht : TOk ⟨a, 0⟩ := by
    exact ⟨by simp, by simp, by simp; omega⟩
  obtain ⟨f, m1, e1, hf, hle, _, t1⟩ := make_Fleet_ex ht (most := 3) (by omega) (by omega)
  have c8 := hf.2.2.1
  have hr : RightOk f (startR f) := start_right hf
  obtain ⟨l, p1, p2, p3⟩ := plan_ex f
  rw [e1]
  simp only [Option.bind_some]
  rw [fstart_sp, if_pos hf, p1, why_sp]
  simp only [Option.bind_some]
  rw [if_neg (by simp)]
  cases hw : (whyP f).2 with
  | true =>
    have he : planE f = 38 := by unfold planE; rw [if_neg (not_not_intro hf), if_pos hw]
    obtain ⟨_, wf, _⟩ := why_first hw
    rw [if_pos rfl, he, if_neg (by simp), fit_sp, wf]
    simp only [Option.bind_some]
    rw [if_neg (by simp)]
    simp only [Option.bind_some]
    by_cases h2 : 2 < (f.Consumers.length : Int)
    · rw [if_pos (by simpa using h2), if_pos (by rfl), if_pos (by rfl), top_awake]; rfl
    · rw [if_neg (by simpa using h2)]
      obtain ⟨d, d1, d2⟩ := dist_ex (s := startR f) (by omega : f.Consumers.length ≤ 3) hr
      have hd : d = -1 := by
        rcases d2 with ⟨d2, _⟩ | ⟨_, ⟨t, q1, q2⟩, _⟩
        · exact d2
        · rw [never_ended hf hw _ _ q1] at q2; cases q2
      subst hd
      rw [d1]
      simp only [Option.bind_some]
      rw [if_pos (by rfl), if_pos (by rfl), top_awake]; rfl
  | false =>
    have he : planE f = 0 := by unfold planE; rw [if_neg (not_not_intro hf), if_neg (by rw [hw]; simp)]
    obtain ⟨_, hg⟩ := p3 he
    have hlen := hg.len
    have hl3 : l.length ≤ 15 := by omega
    rw [if_neg (by simp), he]
    obtain ⟨os, m2, e2, ho, hol, t2⟩ := outcomes_ex t1 (n := 40) (by omega) (by omega)
    rw [e2]
    simp only [Option.bind_some]
    rw [Run_sp hr (by omega) ho (by omega), States_sp hr (by omega) ho (by omega)]
    obtain ⟨n1, n2⟩ := runT_len (f := f) (os := os) l (startR f) [] [startR f]
    have hat := run_att (f := f) ho l (startR f) [] [startR f] (fun a h => by cases h)
    obtain ⟨blk, i', c', c1, c2, c3, c4, c5, c6, c7⟩ := run_left (f := f) (os := os) (l := l) l.length 0 (startR f) [] [startR f] (by omega) hr hg.run
    obtain ⟨more, g1, g2, g3, g4, g5⟩ := run_states (f := f) (os := os) l (startR f) [] [startR f] hr hg.run rfl
    have hway := way_mem _ _ (run_way l (startR f) hr (way_refl _) (fun h => h) hg.run)
    rw [List.drop_zero] at c1 c4 c5 c6 c7
    generalize runT f os l (startR f) [] [startR f] = R at n1 n2 hat c1 c4 c5 c6 c7 g1 g3 g4 g5 ⊢
    obtain ⟨⟨s', tr, sts⟩, e⟩ := R
    simp only [List.nil_append, List.length_nil] at n1 n2 hat c1 c4 c5 c6 c7 g1 g3 g4 g5 ⊢
    subst c1
    have hall : ∀ x ∈ sts, RightOk f x ∧ wayP (startR f) x ∧ HA f x := fun x hx => by
      rw [g1] at hx
      have : x = startR f ∨ x ∈ (runP f (startR f) l).1 := by
        rcases List.mem_append.1 hx with h1 | h1
        · rw [List.mem_singleton] at h1; exact .inl h1
        · exact g2 x h1
      rcases this with rfl | h1
      · exact ⟨hr, way_refl _, start_HA f⟩
      · obtain ⟨q1, q2, q3⟩ := hway x h1
        exact ⟨q1, q2, q3 (start_HA f)⟩
    have hmem : s' ∈ sts := by rw [g1]; exact List.mem_of_getLast? g3
    obtain ⟨r1, w1, a1⟩ := hall _ hmem
    simp only [Option.bind_some]
    rw [if_neg (by simp), rot_loop (y16 := (sts, e)) (by simp only [List.length_singleton] at n2 ⊢; omega) hr hall]
    simp only [Option.bind_some]
    by_cases h0 : e = 0
    · rw [if_pos (by simpa using h0), (g5 h0).1, fended_sp, hg.ended]
      simp only [Option.bind_some, if_true]
      rw [fcheck35_sp f (startR f) (by omega), good_check hr hg, top_awake]
      rfl
    · have h40 : e = 40 := g4.resolve_left h0
      have he2 := good_make r1 a1 hw
      obtain ⟨l2, j1, _, j3⟩ := make_ex (f := f) (s := s')
      obtain ⟨_, _, _, hg2⟩ := j3 he2
      have hlen2 := hg2.len
      obtain ⟨ta, ea, _⟩ := mute_run muteNil (l.drop i') s' [] [s'] c5
      rw [if_neg (by simpa using h0), left_sp (by omega) (by omega) hat c3 c2]
      simp only [Option.bind_some]
      rw [Run_sp c4 (by simp; omega) (mute_out muteNil) (by simp), ea, j1, he2, h40]
      simp only [Option.bind_some]
      rw [if_pos (by rfl), if_pos (by rfl), if_pos (by rfl), c6, fended_sp, hg.ended]
      simp only [Option.bind_some, if_true]
      rw [if_pos (by rfl), fcheck35_sp f s' (by omega), good_check r1 hg2, top_awake]
      rfl
end Go.Vl
