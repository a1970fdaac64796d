/- Walks: each function of the given program computes what its mirror says. Conditions: none. -/
import Derived.Test.YtclmnpkhopioiabSw2
set_option linter.unusedSimpArgs false
set_option linter.unusedVariables false
namespace Go.Vl
open Go Go.Proofs
set_option maxHeartbeats 1000000 in
theorem make_State_ok {a0 : make_Tape} {a1 : api_Fleet} {r : api_Rotation × make_Tape} (h0 : make_State a0 a1 = some r) : FnOK Try.prog 18 [make_Tape_av a0] [.ptr (InO 0) 0, .agg (api_Fleet_av a1)] (.agg (api_Rotation_av r.1)) [make_Tape_av r.2] := by
  unfold make_State at h0
  refine fn_ok (nt := 37) (rs := [.cell 4 33]) Try.func18 rfl Try.ntmps18 rfl (by simp) (by decide) rfl fun K => ?_
  refine kr [0, 3, 4] (by simp; rfl) ?_
  refine kc ?_
  refine ko [0, 3, 4, 11] 1 (by simp; rfl) ?_
  replace h0 := bnd h0; obtain ⟨y1, hy1, h0⟩ := h0
  refine kcall [0, 3, 4, 12] [] (ref32_Start_ok hy1) rfl rfl rfl Try.call30 (by simp) (by simp; rfl) ?_
  refine ko [0, 3, 4, 5, 6] 6 (by simp; rfl) ?_
  refine tops_nil ?_
  refine tr_seq ?_
  refine kr [0, 3, 4, 5, 16] (by simp; rfl) ?_
  refine tr_cond (b := (y1.2 != 0)) (by simp) (fun c1 => ?_) (fun c1 => ?_)
  · rw [if_pos c1] at h0
    refine kr [4] (by simp; rfl) ?_
    cases h0
    exact tr_ret ⟨[], by simp, rfl, by simp⟩
  · rw [if_neg (by rw [c1]; decide)] at h0
    refine tr_skip ?_
    refine tr_seq ?_
    refine kc ?_
    refine ko [0, 3, 4, 5, 18] 1 (by simp; rfl) ?_
    replace h0 := bnd h0; obtain ⟨y2, hy2, h0⟩ := h0
    refine kcall [0, 3, 4, 5, 19] [1000000] (make_Tape_Next_ok hy2) rfl rfl rfl Try.call22 (by simp) (by simp; rfl) ?_
    refine ko [0, 3, 4, 5, 7] 1 (by simp; rfl) ?_
    refine tops_nil ?_
    replace h0 := bnd h0; obtain ⟨e1, hI1, h0⟩ := h0
    refine tjv (fun v3 : (List Int) × Int × Int × Int × (List api_Unit) => ({ nt := 37, env := [(4, .ptr 4 0), (5, .ptr 5 0)], box := [(4, [.d (.int .i64 0), .d (.int .i64 0), .nilS]), (5, [.d (.int .i64 v3.2.2.1), .d (.int .i64 v3.2.2.2.1), .d (.slice (rowsF api_Unit_row v3.2.2.2.2))]), (1000000, [.d (.slice (rowsF (iRow .i64) v3.1)), .d (.int .i64 v3.2.1)])], vec := [] } : St)) (fun v3 => v3 = e1) (fun v3 hI1e _ W1 => ?_) ?_
    · subst hI1e
      refine tr_wk W1 ?_
      refine kr [4] (by simp; rfl) ?_
      cases h0
      exact tr_ret ⟨[], by simp, rfl, by simp⟩
    · refine tr_block (tr_iter (fun s4 : Int × (List Int) × Int × Int × Int × (List api_Unit) => ({ nt := 37, env := [(0, .ptr 1000000 0), (3, .ptr 3 0), (4, .ptr 4 0), (5, .ptr 5 0), (7, .d (.int .i64 s4.1))], box := [(3, [.d (.int .i64 a1.Slots), .d (.slice (rowsF api_Consumer_row a1.Consumers))]), (4, [.d (.int .i64 0), .d (.int .i64 0), .nilS]), (5, [.d (.int .i64 s4.2.2.2.1), .d (.int .i64 s4.2.2.2.2.1), .d (.slice (rowsF api_Unit_row s4.2.2.2.2.2))]), (1000000, [.d (.slice (rowsF (iRow .i64) s4.2.1)), .d (.int .i64 s4.2.2.1)])], vec := [] } : St)) hI1 (wk (by simp [weak_iff])) fun G1 s4 o1 h1 hg1 he1 => ?_)
      unfold make_State_l0 at h1
      refine tr_seq ?_
      refine kr [0, 3, 4, 5, 7, 21] (by simp; rfl) ?_
      refine tr_cond (b := (decide (0 < s4.1))) (by simp) (fun c6 => ?_) (fun c6 => ?_)
      · rw [if_pos c6] at h1
        refine tr_skip ?_
        refine tr_seq ?_
        refine tr_block ?_
        refine kd [[], [], [], [], [2, 3], [0, 1, 4], [5], [6], [6], [], [7, 9], [8, 9]] [4, 9, 10] [(8, [9, 10]), (1000000, [4])] none [] 12 fol (by decide +kernel) (by simp) ?_
        refine dr_go 0 2 rfl (by simp (maxSteps := 1000000); rfl) ?_
        refine dr_go 2 2 rfl (by simp (maxSteps := 1000000); rfl) ?_
        replace h1 := bnd h1; obtain ⟨y5, hy5, h1⟩ := h1
        refine dr_call 4 [1000000] (make_Step_ok hy5) rfl rfl rfl rfl rfl Try.call53 (by simp) ?_
        replace h1 := bnd h1; obtain ⟨y6, hy6, h1⟩ := h1
        refine dr_call 5 [] (ref33_Apply_ok hy6) rfl rfl rfl rfl rfl Try.call21 (by simp) ?_
        refine dr_go 6 2 rfl (by simp (maxSteps := 1000000); rfl) ?_
        refine dr_go 8 2 rfl (by simp (maxSteps := 1000000); rfl) ?_
        refine dr_go 10 2 rfl (by simp (maxSteps := 1000000); rfl) ?_
        refine dr_end rfl (tops_nil ?_)
        refine kr [0, 3, 4, 5, 7, 8, 34] (by simp; rfl) ?_
        refine tr_cond (b := (y6.2 == 0)) (by simp) (fun c7 => ?_) (fun c7 => ?_)
        · rw [if_pos c7] at h1
          refine lr (by simp; rfl) ?_
          refine lr (by simp; rfl) ?_
          exact ⟨_, hg1 _ (Option.some.inj h1), wk (by simp [weak_iff])⟩
        · rw [if_neg (by rw [c7]; decide)] at h1
          refine tr_skip ?_
          refine lr (by simp; rfl) ?_
          exact ⟨_, hg1 _ (Option.some.inj h1), wk (by simp [weak_iff])⟩
      · rw [if_neg (by rw [c6]; decide)] at h1
        refine tr_exit ?_
        exact ⟨_, he1 _ (Option.some.inj h1), wk (by simp [weak_iff])⟩
set_option maxHeartbeats 1000000 in
theorem make_Held_ok {a0 : make_Tape} {a1 : api_Fleet} {r : api_Rotation × make_Tape} (h0 : make_Held a0 a1 = some r) : FnOK Try.prog 24 [make_Tape_av a0] [.ptr (InO 0) 0, .agg (api_Fleet_av a1)] (.agg (api_Rotation_av r.1)) [make_Tape_av r.2] := by
  unfold make_Held at h0
  refine fn_ok (nt := 41) (rs := [.cell 4 33]) Try.func24 rfl Try.ntmps24 rfl (by simp) (by decide) rfl fun K => ?_
  refine kr [0, 3, 4] (by simp; rfl) ?_
  refine kc ?_
  refine ko [0, 3, 4, 10] 1 (by simp; rfl) ?_
  replace h0 := bnd h0; obtain ⟨y1, hy1, h0⟩ := h0
  refine kcall [0, 3, 4, 11] [] (ref32_Start_ok hy1) rfl rfl rfl Try.call30 (by simp) (by simp; rfl) ?_
  refine ko [0, 3, 4, 5] 6 (by simp; rfl) ?_
  refine tops_nil ?_
  refine tr_seq ?_
  refine kc ?_
  refine ko [0, 3, 4, 5, 14] 1 (by simp; rfl) ?_
  replace h0 := bnd h0; obtain ⟨y2, hy2, h0⟩ := h0
  refine kcall [0, 3, 4, 5, 15] [1000000] (make_Tape_Next_ok hy2) rfl rfl rfl Try.call22 (by simp) (by simp; rfl) ?_
  refine ko [0, 3, 4, 5, 7] 1 (by simp; rfl) ?_
  refine tops_nil ?_
  replace h0 := bnd h0; obtain ⟨e1, hI1, h0⟩ := h0
  refine tjv (fun v3 : (List Int) × Int × Int × Int × (List api_Unit) => ({ nt := 41, env := [(4, .ptr 4 0), (5, .ptr 5 0)], box := [(4, [.d (.int .i64 0), .d (.int .i64 0), .nilS]), (5, [.d (.int .i64 v3.2.2.1), .d (.int .i64 v3.2.2.2.1), .d (.slice (rowsF api_Unit_row v3.2.2.2.2))]), (1000000, [.d (.slice (rowsF (iRow .i64) v3.1)), .d (.int .i64 v3.2.1)])], vec := [] } : St)) (fun v3 => .inl v3 = e1) (fun v3 hI1e _ W1 => ?_) ?_
  · subst hI1e
    dsimp only at h0
    refine tr_wk W1 ?_
    refine kr [4] (by simp; rfl) ?_
    cases h0
    exact tr_ret ⟨[], by simp, rfl, by simp⟩
  · refine tr_block (tr_iter (fun s4 : Int × (List Int) × Int × Int × Int × (List api_Unit) => ({ nt := 41, env := [(0, .ptr 1000000 0), (3, .ptr 3 0), (4, .ptr 4 0), (5, .ptr 5 0), (7, .d (.int .i64 s4.1))], box := [(3, [.d (.int .i64 a1.Slots), .d (.slice (rowsF api_Consumer_row a1.Consumers))]), (4, [.d (.int .i64 0), .d (.int .i64 0), .nilS]), (5, [.d (.int .i64 s4.2.2.2.1), .d (.int .i64 s4.2.2.2.2.1), .d (.slice (rowsF api_Unit_row s4.2.2.2.2.2))]), (1000000, [.d (.slice (rowsF (iRow .i64) s4.2.1)), .d (.int .i64 s4.2.2.1)])], vec := [] } : St)) hI1 (wk (by simp [weak_iff])) fun G1 s4 o1 h1 hg1 he1 => ?_)
    unfold make_Held_l0 at h1
    refine tr_seq ?_
    refine kr [0, 3, 4, 5, 7, 17] (by simp; rfl) ?_
    refine tr_cond (b := (decide (0 < s4.1))) (by simp) (fun c5 => ?_) (fun c5 => ?_)
    · rw [if_pos c5] at h1
      refine tr_skip ?_
      refine tr_seq ?_
      refine tr_block ?_
      refine kc ?_
      refine ko [0, 3, 4, 5, 7, 20, 21] 2 (by simp; rfl) ?_
      replace h1 := bnd h1; obtain ⟨y5, hy5, h1⟩ := h1
      refine kcall [0, 3, 4, 5, 7, 22] [] (ref33_Choices_ok hy5) rfl rfl rfl Try.call20 (by simp) (by simp; rfl) ?_
      refine ko [0, 3, 4, 5, 7, 8] 1 (by simp; rfl) ?_
      refine tops_nil ?_
      refine tr_seq ?_
      refine kr [0, 3, 4, 5, 7, 8, 25] (by simp; rfl) ?_
      refine tr_cond (b := (((y5).length : Int) == 0)) (by simp) (fun c6 => ?_) (fun c6 => ?_)
      · rw [if_pos c6] at h1
        refine kr [4] (by simp; rfl) ?_
        have k1 := he1 _ (Option.some.inj h1)
        subst k1
        dsimp only at h0
        cases h0
        exact tr_ret ⟨[], by simp, rfl, by simp⟩
      · rw [if_neg (by rw [c6]; decide)] at h1
        refine tr_skip ?_
        refine kd1 [[], [], [], [], [], [4], [3, 5], [2, 5, 6], [5, 7], [0, 1, 5, 8], [5, 9], [5, 10], [5, 10], [1, 5, 11]] [6, 13] [(5, [13]), (1000000, [6])] none [] 14 fol (by decide +kernel) (by simp) ?_
        refine dr_go 0 2 rfl (by simp (maxSteps := 1000000); rfl) ?_
        refine dr_go 2 2 rfl (by simp (maxSteps := 1000000); rfl) ?_
        refine dr_go 4 2 rfl (by simp (maxSteps := 1000000); rfl) ?_
        replace h1 := bnd h1; obtain ⟨y6, hy6, h1⟩ := h1
        refine dr_call 6 [1000000] (make_Tape_Next_ok hy6) rfl rfl rfl rfl rfl Try.call22 (by simp) ?_
        replace h1 := bnd h1; obtain ⟨x7, p9, h1⟩ := h1
        replace p9 := idx_some p9
        have p9' := p9; try simp at p9'
        refine dr_go 7 2 rfl (by simp (maxSteps := 1000000) [p9, p9']; rfl) ?_
        replace h1 := bnd h1; obtain ⟨y8, hy8, h1⟩ := h1
        refine dr_call 9 [] (ref33_Apply_ok hy8) rfl rfl rfl rfl rfl Try.call21 (by simp) ?_
        refine dr_go 10 2 rfl (by simp (maxSteps := 1000000); rfl) ?_
        refine dr_go 12 2 rfl (by simp (maxSteps := 1000000); rfl) ?_
        refine dr_end rfl (tops_nil ?_)
        refine lr (by simp; rfl) ?_
        exact ⟨_, hg1 _ (Option.some.inj h1), wk (by simp [weak_iff])⟩
    · rw [if_neg (by rw [c5]; decide)] at h1
      refine tr_exit ?_
      exact ⟨_, he1 _ (Option.some.inj h1), wk (by simp [weak_iff])⟩
set_option maxHeartbeats 1000000 in
theorem ref35_Fit_ok {a0 : api_Fleet} {a1 : Int} {r : Bool} (h0 : ref35_Fit a0 a1 = some r) : FnOK Try.prog 51 [] [.agg (api_Fleet_av a0), .d (.int .i64 a1)] (.d (.bool r)) [] := by
  unfold ref35_Fit at h0
  refine fn_ok (nt := 34) (rs := [.tmp 4]) Try.func51 rfl Try.ntmps51 rfl (by simp) (by decide) rfl fun K => ?_
  refine kr [1, 2] (by simp; rfl) ?_
  refine kc ?_
  refine ko [2, 7, 8] 2 (by simp; rfl) ?_
  replace h0 := bnd h0; obtain ⟨y1, hy1, h0⟩ := h0
  refine kcall [2, 9] [] (ref32_Units_ok hy1) rfl rfl rfl Try.call64 (by simp) (by simp; rfl) ?_
  refine ko [2, 5] 1 (by simp; rfl) ?_
  refine tops_nil ?_
  refine tr_seq ?_
  refine kr [2, 5, 12] (by simp; rfl) ?_
  refine tr_cond (b := (((y1).length : Int) != 1)) (by simp) (fun c1 => ?_) (fun c1 => ?_)
  · rw [if_pos c1] at h0
    refine kr [4] (by simp; rfl) ?_
    cases h0
    exact tr_ret ⟨[], by simp, rfl, by simp⟩
  · rw [if_neg (by rw [c1]; decide)] at h0
    refine tr_skip ?_
    refine kd [[], [0], [], [2], [3], [1, 4], [5], [], [6, 7]] [7, 8] [(6, [7, 8])] none [] 9 fol (by decide +kernel) (by simp) ?_
    replace h0 := bnd h0; obtain ⟨x2, p5, h0⟩ := h0
    replace p5 := idx_some p5
    have p5' := p5; try simp at p5'
    replace h0 := bnd h0; obtain ⟨x3, p6, h0⟩ := h0
    replace p6 := idx_some p6
    have p6' := p6; try simp at p6'
    refine dr_go 0 2 rfl (by simp (maxSteps := 1000000) [p5, p6, p5', p6']; rfl) ?_
    refine dr_go 2 2 rfl (by simp (maxSteps := 1000000) [p5, p6, p5', p6']; rfl) ?_
    refine dr_go 4 2 rfl (by simp (maxSteps := 1000000) [p5, p6, p5', p6']; rfl) ?_
    refine dr_go 6 2 rfl (by simp (maxSteps := 1000000) [p5, p6, p5', p6']; rfl) ?_
    refine dr_go 8 1 rfl (by simp (maxSteps := 1000000) [p5, p6, p5', p6']; rfl) ?_
    refine dr_end rfl (tops_nil ?_)
    replace h0 := bnd h0; obtain ⟨v4, hvv4, h0⟩ := h0
    refine sjv (fun v4_ : Bool => ({ nt := 34, env := [(4, .d (.bool v4_))], box := [], vec := [] } : St)) (fun v4_ => v4 = v4_) (fun v4_ e => ?_) ?_
    · subst e
      cases h0
      exact tr_ret ⟨[], by simp, rfl, by simp⟩
    · refine kc1 ?_
      refine ko [2, 6, 25] 3 (by simp; rfl) ?_
      refine tops_split 25 x3.Live (by simp) (fun c6 => ?_) (fun c6 => ?_)
      · rw [c6] at hvv4
        refine ko [2, 25, 28] 3 (by simp; rfl) ?_
        refine tops_split 28 x3.Dual (by simp) (fun c7 => ?_) (fun c7 => ?_)
        · rw [c7] at hvv4
          refine kskip 3 [] (by kernel_rfl) ?_
          refine ko [4] 3 (by simp; rfl) ?_
          refine tops_nil ?_
          cases hvv4
          exact ⟨_, rfl, wk (by simp [weak_iff])⟩
        · rw [c7] at hvv4
          refine ko [4] 6 (by simp; rfl) ?_
          refine tops_nil ?_
          cases hvv4
          exact ⟨_, rfl, wk (by simp [weak_iff])⟩
      · rw [c6] at hvv4
        refine kskip 7 [] (by kernel_rfl) ?_
        refine ko [4] 2 (by simp; rfl) ?_
        refine tops_nil ?_
        cases hvv4
        exact ⟨_, rfl, wk (by simp [weak_iff])⟩
set_option maxHeartbeats 1000000 in
theorem ref35_Why_ok {a0 : api_Fleet} {r : api_Hindrance × Bool} (h0 : ref35_Why a0 = some r) : FnOK Try.prog 49 [] [.agg (api_Fleet_av a0)] (.tup [.agg (api_Hindrance_av r.1), .d (.bool r.2)]) [] := by
  unfold ref35_Why at h0
  refine fn_ok (nt := 21) (rs := [.cell 2 74, .tmp 3]) Try.func49 rfl Try.ntmps49 rfl (by simp) (by decide) rfl fun K => ?_
  refine kr [1, 2] (by simp; rfl) ?_
  refine tr_seq ?_
  refine kc ?_
  refine ko [1, 2, 6] 1 (by simp; rfl) ?_
  replace h0 := bnd h0; obtain ⟨y1, hy1, h0⟩ := h0
  refine kcall [1, 2, 7] [] (ref32_Pools_ok hy1) rfl rfl rfl Try.call56 (by simp) (by simp; rfl) ?_
  refine ko [1, 2, 7, 8, 9] 2 (by simp; rfl) ?_
  refine tops_nil ?_
  replace h0 := bnd h0; obtain ⟨e1, hI1, h0⟩ := h0
  refine tjv (fun v2 : Unit => ({ nt := 21, env := [(2, .ptr 2 0)], box := [(2, [.d (.int .i64 0)])], vec := [] } : St)) (fun v2 => .inl v2 = e1) (fun v2 hI1e _ W1 => ?_) ?_
  · subst hI1e
    dsimp only at h0
    refine tr_wk W1 ?_
    refine kr [2, 3] (by simp; rfl) ?_
    cases h0
    exact tr_ret ⟨[], by simp, rfl, by simp⟩
  · refine tr_block (tr_iter (fun s3 : Int => ({ nt := 21, env := [(1, .ptr 1 0), (2, .ptr 2 0), (7, .d (.slice (rowsF (iRow .i64) y1))), (8, .d (.int .i64 ((y1).length : Int))), (9, .d (.int .i64 s3))], box := [(1, [.d (.int .i64 a0.Slots), .d (.slice (rowsF api_Consumer_row a0.Consumers))]), (2, [.d (.int .i64 0)])], vec := [] } : St)) hI1 (wk (by simp [weak_iff])) fun G1 s3 o1 h1 hg1 he1 => ?_)
    unfold ref35_Why_l0 at h1
    refine kr [1, 2, 7, 8, 9, 10] (by simp; rfl) ?_
    refine tr_seq ?_
    refine tr_cond (b := (decide (s3 < ((y1).length : Int)))) (by simp) (fun c5 => ?_) (fun c5 => ?_)
    · rw [if_pos c5] at h1
      refine tr_skip ?_
      refine tr_seq ?_
      refine tr_block ?_
      replace h1 := bnd h1; obtain ⟨x4, p3, h1⟩ := h1
      replace p3 := idx_some p3
      have p3' := p3; try simp at p3'
      refine kr [1, 2, 5, 7, 8, 9] (by simp [p3, p3']; rfl) ?_
      refine kc ?_
      refine ko [1, 2, 5, 7, 8, 9, 13, 14] 2 (by simp; rfl) ?_
      replace h1 := bnd h1; obtain ⟨y5, hy5, h1⟩ := h1
      refine kcall [1, 2, 5, 7, 8, 9, 15] [] (ref35_Fit_ok hy5) rfl rfl rfl Try.call51 (by simp) (by simp; rfl) ?_
      refine ko [1, 2, 5, 7, 8, 9, 16] 1 (by simp; rfl) ?_
      refine tops_nil ?_
      refine tr_cond (b := (!y5)) (by simp) (fun c6 => ?_) (fun c6 => ?_)
      · rw [if_pos c6] at h1
        refine kr [2, 3] (by simp; rfl) ?_
        have k1 := he1 _ (Option.some.inj h1)
        subst k1
        dsimp only at h0
        cases h0
        exact tr_ret ⟨[], by simp, rfl, by simp⟩
      · rw [if_neg (by rw [c6]; decide)] at h1
        refine tr_skip ?_
        refine lr (by simp; rfl) ?_
        exact ⟨_, hg1 _ (Option.some.inj h1), wk (by simp [weak_iff])⟩
    · rw [if_neg (by rw [c5]; decide)] at h1
      refine tr_exit ?_
      exact ⟨_, he1 _ (Option.some.inj h1), wk (by simp [weak_iff])⟩
set_option maxHeartbeats 1000000 in
theorem ref35_Bound_ok {a0 : api_Fleet} {r : Int} (h0 : ref35_Bound a0 = some r) : FnOK Try.prog 38 [] [.agg (api_Fleet_av a0)] (.d (.int .i64 r)) [] := by
  unfold ref35_Bound at h0
  refine fn_ok (nt := 11) (rs := [.tmp 2]) Try.func38 rfl Try.ntmps38 rfl (by simp) (by decide) rfl fun K => ?_
  refine kr [1] (by simp; rfl) ?_
  refine tr_seq ?_
  refine kc ?_
  refine ko [1, 3] 1 (by simp; rfl) ?_
  replace h0 := bnd h0; obtain ⟨y1, hy1, h0⟩ := h0
  refine kcall [1, 4] [] (ref32_Valid_ok hy1) rfl rfl rfl Try.call68 (by simp) (by simp; rfl) ?_
  refine ko [1, 5] 1 (by simp; rfl) ?_
  refine tops_nil ?_
  refine tr_cond (b := (!y1)) (by simp) (fun c1 => ?_) (fun c1 => ?_)
  · rw [if_pos c1] at h0
    refine kr [2] (by simp; rfl) ?_
    cases h0
    exact tr_ret ⟨[], by simp, rfl, by simp⟩
  · rw [if_neg (by rw [c1]; decide)] at h0
    refine tr_skip ?_
    refine kr [2] (by simp; rfl) ?_
    cases h0
    exact tr_ret ⟨[], by simp, rfl, by simp⟩
set_option maxHeartbeats 1000000 in
theorem plan_Bound_ok {a0 : api_Fleet} {r : Int} (h0 : plan_Bound a0 = some r) : FnOK Try.prog 50 [] [.agg (api_Fleet_av a0)] (.d (.int .i64 r)) [] := by
  unfold plan_Bound at h0
  refine fn_ok (nt := 11) (rs := [.tmp 2]) Try.func50 rfl Try.ntmps50 rfl (by simp) (by decide) rfl fun K => ?_
  refine kr [1] (by simp; rfl) ?_
  refine tr_seq ?_
  refine kc ?_
  refine ko [1, 3] 1 (by simp; rfl) ?_
  replace h0 := bnd h0; obtain ⟨y1, hy1, h0⟩ := h0
  refine kcall [1, 4] [] (fleet_Check_ok hy1) rfl rfl rfl Try.call78 (by simp) (by simp; rfl) ?_
  refine ko [1, 5] 1 (by simp; rfl) ?_
  refine tops_nil ?_
  refine tr_cond (b := (y1 != 0)) (by simp) (fun c1 => ?_) (fun c1 => ?_)
  · rw [if_pos c1] at h0
    refine kr [2] (by simp; rfl) ?_
    cases h0
    exact tr_ret ⟨[], by simp, rfl, by simp⟩
  · rw [if_neg (by rw [c1]; decide)] at h0
    refine tr_skip ?_
    refine kr [2] (by simp; rfl) ?_
    cases h0
    exact tr_ret ⟨[], by simp, rfl, by simp⟩
set_option maxHeartbeats 1000000 in
theorem steps_check_ok {a0 : api_Fleet} {a1 : api_Rotation} {a2 : List api_Step} {r : Int} (h0 : steps_check a0 a1 a2 = some r) : FnOK Try.prog 100 [] [.agg (api_Fleet_av a0), .agg (api_Rotation_av a1), .d (.slice (rowsF api_Step_row a2))] (.d (.int .i64 r)) [] := by
  unfold steps_check at h0
  refine fn_ok (nt := 16) (rs := [.tmp 6]) Try.func100 rfl Try.ntmps100 rfl (by simp) (by decide) rfl fun K => ?_
  refine kr [2, 3, 4] (by simp; rfl) ?_
  refine tr_seq ?_
  refine tr_block ?_
  refine kc ?_
  refine ko [2, 8, 9] 2 (by simp; rfl) ?_
  replace h0 := bnd h0; obtain ⟨y1, hy1, h0⟩ := h0
  refine kcall [2, 10] [] (fleet_Right_ok hy1) rfl rfl rfl Try.call72 (by simp) (by simp; rfl) ?_
  refine ko [2, 7] 2 (by simp; rfl) ?_
  refine tops_nil ?_
  refine tr_cond (b := (!y1)) (by simp) (fun c1 => ?_) (fun c1 => ?_)
  · rw [if_pos c1] at h0
    refine kr [6] (by simp; rfl) ?_
    cases h0
    exact tr_ret ⟨[], by simp, rfl, by simp⟩
  · rw [if_neg (by rw [c1]; decide)] at h0
    refine kr [12] (by simp; rfl) ?_
    refine tr_cond (b := (decide (120 < ((a2).length : Int)))) (by simp) (fun c2 => ?_) (fun c2 => ?_)
    · rw [if_pos c2] at h0
      refine kr [6] (by simp; rfl) ?_
      cases h0
      exact tr_ret ⟨[], by simp, rfl, by simp⟩
    · rw [if_neg (by rw [c2]; decide)] at h0
      refine tr_skip ?_
      refine kr [6] (by simp; rfl) ?_
      cases h0
      exact tr_ret ⟨[], by simp, rfl, by simp⟩
set_option maxHeartbeats 1000000 in
theorem steps_Fault_ok {a0 : api_Fleet} {a1 : api_Rotation} {a2 : List api_Step} {r : Int × Int} (h0 : steps_Fault a0 a1 a2 = some r) : FnOK Try.prog 79 [] [.agg (api_Fleet_av a0), .agg (api_Rotation_av a1), .d (.slice (rowsF api_Step_row a2))] (.tup [.d (.int .i64 r.1), .d (.int .i64 r.2)]) [] := by
  unfold steps_Fault at h0
  refine fn_ok (nt := 50) (rs := [.tmp 6, .tmp 7]) Try.func79 rfl Try.ntmps79 rfl (by simp) (by decide) rfl fun K => ?_
  refine kr [2, 3, 4] (by simp; rfl) ?_
  refine tr_seq ?_
  refine kc ?_
  refine ko [2, 3, 4, 13, 14, 15] 3 (by simp; rfl) ?_
  replace h0 := bnd h0; obtain ⟨y1, hy1, h0⟩ := h0
  refine kcall [2, 3, 4, 16] [] (steps_check_ok hy1) rfl rfl rfl Try.call100 (by simp) (by simp; rfl) ?_
  refine ko [2, 3, 4, 8] 1 (by simp; rfl) ?_
  refine tops_nil ?_
  refine kr [2, 3, 4, 8, 18] (by simp; rfl) ?_
  refine tr_cond (b := (y1 != 0)) (by simp) (fun c1 => ?_) (fun c1 => ?_)
  · rw [if_pos c1] at h0
    refine kr [6, 7] (by simp; rfl) ?_
    cases h0
    exact tr_ret ⟨[], by simp, rfl, by simp⟩
  · rw [if_neg (by rw [c1]; decide)] at h0
    refine tr_skip ?_
    refine tr_seq ?_
    refine kr [2, 3, 4, 20, 21, 22] (by simp; rfl) ?_
    replace h0 := bnd h0; obtain ⟨e1, hI1, h0⟩ := h0
    refine tjv (fun v2 : Unit => ({ nt := 50, env := [(2, .d (.slice (rowsF api_Step_row a2)))], box := [], vec := [] } : St)) (fun v2 => .inl v2 = e1) (fun v2 hI1e _ W1 => ?_) ?_
    · subst hI1e
      dsimp only at h0
      refine tr_wk W1 ?_
      refine kr [6, 7] (by simp; rfl) ?_
      cases h0
      exact tr_ret ⟨[], by simp, rfl, by simp⟩
    · refine tr_block (tr_iter (fun s3 : Int × Int × Int × (List api_Unit) => ({ nt := 50, env := [(2, .d (.slice (rowsF api_Step_row a2))), (3, .ptr 3 0), (4, .ptr 4 0), (20, .d (.slice (rowsF api_Step_row a2))), (21, .d (.int .i64 ((a2).length : Int))), (22, .d (.int .i64 s3.1))], box := [(3, [.d (.int .i64 a0.Slots), .d (.slice (rowsF api_Consumer_row a0.Consumers))]), (4, [.d (.int .i64 s3.2.1), .d (.int .i64 s3.2.2.1), .d (.slice (rowsF api_Unit_row s3.2.2.2))])], vec := [] } : St)) hI1 (wk (by simp [weak_iff])) fun G1 s3 o1 h1 hg1 he1 => ?_)
      unfold steps_Fault_l0 at h1
      refine kr [2, 3, 4, 20, 21, 22, 23] (by simp; rfl) ?_
      refine tr_seq ?_
      refine tr_cond (b := (decide (s3.1 < ((a2).length : Int)))) (by simp) (fun c8 => ?_) (fun c8 => ?_)
      · rw [if_pos c8] at h1
        refine tr_skip ?_
        refine tr_seq ?_
        refine tr_block ?_
        replace h1 := bnd h1; obtain ⟨x4, p3, h1⟩ := h1
        replace p3 := idx_some p3
        have p3' := p3; try simp at p3'
        refine kr [2, 3, 4, 9, 10, 20, 21, 22] (by simp [p3, p3']; rfl) ?_
        refine kc ?_
        refine ko [2, 3, 4, 9, 20, 21, 22, 28, 29, 30] 3 (by simp; rfl) ?_
        replace h1 := bnd h1; obtain ⟨y5, hy5, h1⟩ := h1
        refine kcall [2, 3, 4, 9, 20, 21, 22, 31] [] (steps_Apply_ok hy5) rfl rfl rfl Try.call85 (by simp) (by simp; rfl) ?_
        refine ko [2, 3, 4, 9, 11, 12, 20, 21, 22] 6 (by simp; rfl) ?_
        refine tops_nil ?_
        refine tr_seq ?_
        refine tr_block ?_
        refine kr [2, 3, 4, 9, 11, 12, 20, 21, 22, 34] (by simp; rfl) ?_
        refine tr_cond (b := (y5.2 != 0)) (by simp) (fun c9 => ?_) (fun c9 => ?_)
        · rw [if_pos c9] at h1
          refine kr [6, 7] (by simp; rfl) ?_
          have k1 := he1 _ (Option.some.inj h1)
          subst k1
          dsimp only at h0
          cases h0
          exact tr_ret ⟨[], by simp, rfl, by simp⟩
        · rw [if_neg (by rw [c9]; decide)] at h1
          refine kc ?_
          refine ko [2, 3, 4, 9, 11, 20, 21, 22, 40, 41, 42] 3 (by simp; rfl) ?_
          replace h1 := bnd h1; obtain ⟨y6, hy6, h1⟩ := h1
          refine kcall [2, 3, 4, 9, 11, 20, 21, 22, 43] [] (steps_holds_ok hy6) rfl rfl rfl Try.call101 (by simp) (by simp; rfl) ?_
          refine ko [2, 3, 4, 9, 11, 20, 21, 22, 39] 2 (by simp; rfl) ?_
          refine tops_nil ?_
          refine tr_cond (b := (!y6)) (by simp) (fun c10 => ?_) (fun c10 => ?_)
          · rw [if_pos c10] at h1
            refine kr [6, 7] (by simp; rfl) ?_
            have k1 := he1 _ (Option.some.inj h1)
            subst k1
            dsimp only at h0
            cases h0
            exact tr_ret ⟨[], by simp, rfl, by simp⟩
          · rw [if_neg (by rw [c10]; decide)] at h1
            refine tr_skip ?_
            refine lr (by simp; rfl) ?_
            refine lr (by simp; rfl) ?_
            exact ⟨_, hg1 _ (Option.some.inj h1), wk (by simp [weak_iff])⟩
      · rw [if_neg (by rw [c8]; decide)] at h1
        refine tr_exit ?_
        exact ⟨_, he1 _ (Option.some.inj h1), wk (by simp [weak_iff])⟩
set_option maxHeartbeats 1000000 in
theorem steps_Run_ok {a0 : api_Fleet} {a1 : api_Rotation} {a2 : List api_Step} {r : (List api_Rotation) × Int} (h0 : steps_Run a0 a1 a2 = some r) : FnOK Try.prog 80 [] [.agg (api_Fleet_av a0), .agg (api_Rotation_av a1), .d (.slice (rowsF api_Step_row a2))] (.tup [.d (.slice (rowsF api_Rotation_row r.1)), .d (.int .i64 r.2)]) [] := by
  unfold steps_Run at h0
  refine fn_ok (nt := 44) (rs := [.tmp 6, .tmp 7]) Try.func80 rfl Try.ntmps80 rfl (by simp) (by decide) rfl fun K => ?_
  refine kr [2, 3, 4] (by simp; rfl) ?_
  refine tr_seq ?_
  refine kc ?_
  refine ko [2, 3, 4, 14, 15, 16] 3 (by simp; rfl) ?_
  replace h0 := bnd h0; obtain ⟨y1, hy1, h0⟩ := h0
  refine kcall [2, 3, 4, 17] [] (steps_check_ok hy1) rfl rfl rfl Try.call100 (by simp) (by simp; rfl) ?_
  refine ko [2, 3, 4, 8] 1 (by simp; rfl) ?_
  refine tops_nil ?_
  refine kr [2, 3, 4, 8, 19] (by simp; rfl) ?_
  refine tr_cond (b := (y1 != 0)) (by simp) (fun c1 => ?_) (fun c1 => ?_)
  · rw [if_pos c1] at h0
    refine kr [6, 7] (by simp; rfl) ?_
    cases h0
    exact tr_ret ⟨[], by simp, rfl, by simp⟩
  · rw [if_neg (by rw [c1]; decide)] at h0
    refine tr_skip ?_
    refine kr [2, 3, 4, 9] (by simp; rfl) ?_
    refine tr_seq ?_
    refine kr [3, 4, 9, 21, 22, 23] (by simp; rfl) ?_
    refine tr_wk (wk_own 9 40 33 3 (by simp) (by simp)) ?_
    replace h0 := bnd h0; obtain ⟨e1, hI1, h0⟩ := h0
    refine tjv (fun v2 : (List api_Rotation) => ({ nt := 44, env := [(9, .vec 40)], box := [], vec := [(40, ⟨33, 3, rowsF api_Rotation_row v2⟩)] } : St)) (fun v2 => .inl v2 = e1) (fun v2 hI1e _ W1 => ?_) ?_
    · subst hI1e
      dsimp only at h0
      refine tr_wk W1 ?_
      refine kr [6, 7] (by simp; rfl) ?_
      cases h0
      exact tr_ret ⟨[40], by simp, rfl, by simp⟩
    · refine tr_block (tr_iter (fun s3 : Int × Int × Int × (List api_Unit) × (List api_Rotation) => ({ nt := 44, env := [(3, .ptr 3 0), (4, .ptr 4 0), (9, .vec 40), (21, .d (.slice (rowsF api_Step_row a2))), (22, .d (.int .i64 ((a2).length : Int))), (23, .d (.int .i64 s3.1))], box := [(3, [.d (.int .i64 a0.Slots), .d (.slice (rowsF api_Consumer_row a0.Consumers))]), (4, [.d (.int .i64 s3.2.1), .d (.int .i64 s3.2.2.1), .d (.slice (rowsF api_Unit_row s3.2.2.2.1))])], vec := [(40, ⟨33, 3, rowsF api_Rotation_row s3.2.2.2.2⟩)] } : St)) hI1 (wk (by simp [weak_iff])) fun G1 s3 o1 h1 hg1 he1 => ?_)
      unfold steps_Run_l0 at h1
      refine kr [3, 4, 9, 21, 22, 23, 24] (by simp; rfl) ?_
      refine tr_seq ?_
      refine tr_cond (b := (decide (s3.1 < ((a2).length : Int)))) (by simp) (fun c8 => ?_) (fun c8 => ?_)
      · rw [if_pos c8] at h1
        refine tr_skip ?_
        refine tr_seq ?_
        refine tr_block ?_
        replace h1 := bnd h1; obtain ⟨x4, p12, h1⟩ := h1
        replace p12 := idx_some p12
        have p12' := p12; try simp at p12'
        refine kr [3, 4, 9, 11, 21, 22, 23] (by simp [p12, p12']; rfl) ?_
        refine kc ?_
        refine ko [3, 4, 9, 21, 22, 23, 28, 29, 30] 3 (by simp; rfl) ?_
        replace h1 := bnd h1; obtain ⟨y5, hy5, h1⟩ := h1
        refine kcall [3, 4, 9, 21, 22, 23, 31] [] (steps_Apply_ok hy5) rfl rfl rfl Try.call85 (by simp) (by simp; rfl) ?_
        refine ko [3, 4, 9, 12, 13, 21, 22, 23] 6 (by simp; rfl) ?_
        refine tops_nil ?_
        refine tr_seq ?_
        refine kr [3, 4, 9, 12, 13, 21, 22, 23, 35] (by simp; rfl) ?_
        refine tr_cond (b := (y5.2 != 0)) (by simp) (fun c9 => ?_) (fun c9 => ?_)
        · rw [if_pos c9] at h1
          refine kr [6, 7] (by simp; rfl) ?_
          have k1 := he1 _ (Option.some.inj h1)
          subst k1
          dsimp only at h0
          cases h0
          exact tr_ret ⟨[], by simp, rfl, by simp⟩
        · rw [if_neg (by rw [c9]; decide)] at h1
          refine tr_skip ?_
          refine tr_wk (wk_ren 40 700040) ?_
          refine kd1 [[], [], [1], [0, 2], [], [0, 3], [3, 4]] [3, 6] [(4, [3, 6])] (some (3, 700040)) [9, 37] 7 fol (by decide +kernel) (by simp) ?_
          replace h1 := bnd h1; obtain ⟨_, p16, h1⟩ := h1
          replace p16 := ck_some p16
          have p16' := p16; try simp at p16'
          refine dr_go 0 2 rfl (by simp (maxSteps := 1000000) [p16, p16']; rfl) ?_
          refine dr_go 2 2 rfl (by simp (maxSteps := 1000000) [p16, p16']; rfl) ?_
          refine dr_go 4 2 rfl (by simp (maxSteps := 1000000) [p16, p16']; rfl) ?_
          refine dr_go 6 1 rfl (by simp (maxSteps := 1000000) [p16, p16']; rfl) ?_
          refine dr_end rfl (tops_nil ?_)
          refine lr (by simp; rfl) ?_
          exact ⟨_, hg1 _ (Option.some.inj h1), wk (by simp [weak_iff])⟩
      · rw [if_neg (by rw [c8]; decide)] at h1
        refine tr_exit ?_
        exact ⟨_, he1 _ (Option.some.inj h1), wk (by simp [weak_iff])⟩
set_option maxHeartbeats 1000000 in
theorem fleet_Ended_1_cb_ok {a0 : api_Unit} {a1 : api_Unit} {r : Bool × api_Unit} (h0 : fleet_Ended_1_cb a0 a1 = some r) : FnOK Try.prog 103 [api_Unit_av a1] [.agg (api_Unit_av a0), .ptr (InO 0) 0] (.d (.bool r.1)) [api_Unit_av r.2] := by
  unfold fleet_Ended_1_cb at h0
  refine fn_ok (nt := 7) (rs := [.tmp 3]) Try.func103 rfl Try.ntmps103 rfl (by simp) (by decide) rfl fun K => ?_
  refine kr [1, 2] (by simp; rfl) ?_
  refine kr [3] (by simp; rfl) ?_
  cases h0
  exact tr_ret ⟨[], by simp, rfl, by simp⟩
set_option maxHeartbeats 1000000 in
theorem slices_IndexFunc_api_Unit_at_fleet_Ended_1_b_ok {a0 : List api_Unit} {b10 : api_Unit} {r : Int × api_Unit} (h0 : slices_IndexFunc_api_Unit_at_fleet_Ended_1_b a0 b10 = some r) : FnOK Try.prog 118 [api_Unit_av b10] [.d (.slice (rowsF api_Unit_row a0)), .fn 103 [.ptr (InO 0) 0]] (.d (.int .i64 r.1)) [api_Unit_av r.2] := by
  unfold slices_IndexFunc_api_Unit_at_fleet_Ended_1_b at h0
  refine fn_ok (nt := 19) (rs := [.tmp 4]) Try.func118 rfl Try.ntmps118 rfl (by simp) (by decide) rfl fun K => ?_
  refine kr [0, 1] (by simp; rfl) ?_
  refine tr_seq ?_
  refine kr [0, 1, 7, 8] (by simp; rfl) ?_
  replace h0 := bnd h0; obtain ⟨e1, hI1, h0⟩ := h0
  refine tjv (fun v1 : Bool × Int × Int => ({ nt := 19, env := [], box := [(1000000, [.d (.bool v1.1), .d (.int .i64 v1.2.1), .d (.int .i64 v1.2.2)])], vec := [] } : St)) (fun v1 => .inl v1 = e1) (fun v1 hI1e _ W1 => ?_) ?_
  · subst hI1e
    dsimp only at h0
    refine tr_wk W1 ?_
    refine kr [4] (by simp; rfl) ?_
    cases h0
    exact tr_ret ⟨[], by simp, rfl, by simp⟩
  · refine tr_block (tr_iter (fun s2 : Int × Bool × Int × Int => ({ nt := 19, env := [(0, .d (.slice (rowsF api_Unit_row a0))), (1, .fn 103 [.ptr 1000000 0]), (7, .d (.int .i64 ((a0).length : Int))), (8, .d (.int .i64 s2.1))], box := [(1000000, [.d (.bool s2.2.1), .d (.int .i64 s2.2.2.1), .d (.int .i64 s2.2.2.2)])], vec := [] } : St)) hI1 (wk (by simp [weak_iff])) fun G1 s2 o1 h1 hg1 he1 => ?_)
    unfold slices_IndexFunc_api_Unit_at_fleet_Ended_1_b_l0 at h1
    refine kr [0, 1, 7, 8, 9] (by simp; rfl) ?_
    refine tr_seq ?_
    refine tr_cond (b := (decide (s2.1 < ((a0).length : Int)))) (by simp) (fun c5 => ?_) (fun c5 => ?_)
    · rw [if_pos c5] at h1
      refine tr_skip ?_
      refine tr_seq ?_
      refine tr_block ?_
      refine kr [0, 1, 5, 7, 8] (by simp; rfl) ?_
      refine kc ?_
      replace h1 := bnd h1; obtain ⟨x3, p3, h1⟩ := h1
      replace p3 := idx_some p3
      have p3' := p3; try simp at p3'
      refine ko [0, 1, 5, 7, 8, 11, 15] 5 (by simp [p3, p3']; rfl) ?_
      replace h1 := bnd h1; obtain ⟨y4, hy4, h1⟩ := h1
      refine kcallV [0, 1, 5, 7, 8, 16] [1000000] [] [] (fleet_Ended_1_cb_ok hy4) rfl rfl rfl Try.call103 (by simp) (by simp; rfl) ?_
      refine tops_nil ?_
      refine tr_cond (b := y4.1) (by simp) (fun c6 => ?_) (fun c6 => ?_)
      · rw [if_pos c6] at h1
        refine kr [4] (by simp; rfl) ?_
        have k1 := he1 _ (Option.some.inj h1)
        subst k1
        dsimp only at h0
        cases h0
        exact tr_ret ⟨[], by simp, rfl, by simp⟩
      · rw [if_neg (by rw [c6]; decide)] at h1
        refine tr_skip ?_
        refine lr (by simp; rfl) ?_
        exact ⟨_, hg1 _ (Option.some.inj h1), wk (by simp [weak_iff])⟩
    · rw [if_neg (by rw [c5]; decide)] at h1
      refine tr_exit ?_
      exact ⟨_, he1 _ (Option.some.inj h1), wk (by simp [weak_iff])⟩
set_option maxHeartbeats 1000000 in
theorem slices_ContainsFunc_api_Unit_at_fleet_Ended_1_b_ok {a0 : List api_Unit} {b10 : api_Unit} {r : Bool × api_Unit} (h0 : slices_ContainsFunc_api_Unit_at_fleet_Ended_1_b a0 b10 = some r) : FnOK Try.prog 102 [api_Unit_av b10] [.d (.slice (rowsF api_Unit_row a0)), .fn 103 [.ptr (InO 0) 0]] (.d (.bool r.1)) [api_Unit_av r.2] := by
  unfold slices_ContainsFunc_api_Unit_at_fleet_Ended_1_b at h0
  refine fn_ok (nt := 9) (rs := [.tmp 4]) Try.func102 rfl Try.ntmps102 rfl (by simp) (by decide) rfl fun K => ?_
  refine kr [0, 1] (by simp; rfl) ?_
  refine kc ?_
  refine ko [5, 6] 2 (by simp; rfl) ?_
  replace h0 := bnd h0; obtain ⟨y1, hy1, h0⟩ := h0
  refine kcall [7] [1000000] (slices_IndexFunc_api_Unit_at_fleet_Ended_1_b_ok hy1) rfl rfl rfl Try.call118 (by simp) (by simp; rfl) ?_
  refine ko [4] 2 (by simp; rfl) ?_
  refine tops_nil ?_
  cases h0
  exact tr_ret ⟨[], by simp, rfl, by simp⟩
set_option maxHeartbeats 1000000 in
theorem fleet_Ended_ok {a0 : api_Fleet} {a1 : api_Rotation} {r : Bool} (h0 : fleet_Ended a0 a1 = some r) : FnOK Try.prog 81 [] [.agg (api_Fleet_av a0), .agg (api_Rotation_av a1)] (.d (.bool r)) [] := by
  unfold fleet_Ended at h0
  refine fn_ok (nt := 22) (rs := [.tmp 4]) Try.func81 rfl Try.ntmps81 rfl (by simp) (by decide) rfl fun K => ?_
  refine kr [2, 3] (by simp; rfl) ?_
  refine kr [2, 3, 5] (by simp; rfl) ?_
  replace h0 := bnd h0; obtain ⟨v1, hvv1, h0⟩ := h0
  refine sjv (fun v1_ : Bool => ({ nt := 22, env := [(4, .d (.bool v1_))], box := [], vec := [] } : St)) (fun v1_ => v1 = v1_) (fun v1_ e => ?_) ?_
  · subst e
    cases h0
    exact tr_ret ⟨[], by simp, rfl, by simp⟩
  · refine kc1 ?_
    refine ko [3, 5, 7, 8] 2 (by simp; rfl) ?_
    replace hvv1 := bnd hvv1; obtain ⟨y2, hy2, hvv1⟩ := hvv1
    refine kcall [3, 5, 9] [] (fleet_Right_ok hy2) rfl rfl rfl Try.call72 (by simp) (by simp; rfl) ?_
    refine ko [3, 5, 10] 1 (by simp; rfl) ?_
    refine tops_split 10 y2 (by simp) (fun c5 => ?_) (fun c5 => ?_)
    · rw [if_pos c5] at hvv1
      refine ko [3, 5, 15] 5 (by simp; rfl) ?_
      refine tops_split 15 (a1.Valid == 2) (by simp) (fun c6 => ?_) (fun c6 => ?_)
      · rw [if_pos c6] at hvv1
        refine ko [15, 17, 18] 3 (by simp; rfl) ?_
        replace hvv1 := bnd hvv1; obtain ⟨y3, hy3, hvv1⟩ := hvv1
        refine kcall [15, 19] [5] (slices_ContainsFunc_api_Unit_at_fleet_Ended_1_b_ok hy3) rfl rfl rfl Try.call102 (by simp) (by simp; rfl) ?_
        refine ko [4] 3 (by simp; rfl) ?_
        refine tops_nil ?_
        cases hvv1
        exact ⟨_, rfl, wk (by simp [weak_iff])⟩
      · rw [if_neg (by rw [c6]; decide)] at hvv1
        refine kskip 5 [] (by kernel_rfl) ?_
        refine ko [4] 2 (by simp; rfl) ?_
        refine tops_nil ?_
        cases hvv1
        exact ⟨_, rfl, wk (by simp [weak_iff])⟩
    · rw [if_neg (by rw [c5]; decide)] at hvv1
      refine kskip 3 [] (by kernel_rfl) ?_
      refine ko [3, 5, 15] 2 (by simp; rfl) ?_
      refine kskip 5 [] (by kernel_rfl) ?_
      refine ko [4] 2 (by simp; rfl) ?_
      refine tops_nil ?_
      cases hvv1
      exact ⟨_, rfl, wk (by simp [weak_iff])⟩
set_option maxHeartbeats 1000000 in
theorem plan_Check_ok {a0 : api_Fleet} {a1 : api_Rotation} {a2 : List api_Step} {r : Bool} (h0 : plan_Check a0 a1 a2 = some r) : FnOK Try.prog 54 [] [.agg (api_Fleet_av a0), .agg (api_Rotation_av a1), .d (.slice (rowsF api_Step_row a2))] (.d (.bool r)) [] := by
  unfold plan_Check at h0
  refine fn_ok (nt := 46) (rs := [.tmp 6]) Try.func54 rfl Try.ntmps54 rfl (by simp) (by decide) rfl fun K => ?_
  refine kr [2, 3, 4] (by simp; rfl) ?_
  refine kc ?_
  refine ko [2, 3, 4, 11, 12, 13] 3 (by simp; rfl) ?_
  replace h0 := bnd h0; obtain ⟨y1, hy1, h0⟩ := h0
  refine kcall [2, 3, 4, 14] [] (steps_Fault_ok hy1) rfl rfl rfl Try.call79 (by simp) (by simp; rfl) ?_
  refine ko [2, 3, 4, 7, 8] 5 (by simp; rfl) ?_
  refine tops_nil ?_
  refine tr_seq ?_
  replace h0 := bnd h0; obtain ⟨v2, hvv2, h0⟩ := h0
  refine sjv (fun v2_ : Bool => ({ nt := 46, env := [(2, .d (.slice (rowsF api_Step_row a2))), (3, .ptr 3 0), (4, .ptr 4 0), (24, .d (.bool v2_))], box := [(3, [.d (.int .i64 a0.Slots), .d (.slice (rowsF api_Consumer_row a0.Consumers))]), (4, [.d (.int .i64 a1.Known), .d (.int .i64 a1.Valid), .d (.slice (rowsF api_Unit_row a1.Units))])], vec := [] } : St)) (fun v2_ => v2 = v2_) (fun v2_ e => ?_) ?_
  · subst e
    refine tr_cond (b := v2) (by simp) (fun c3 => ?_) (fun c3 => ?_)
    · rw [if_pos c3] at h0
      refine kr [6] (by simp; rfl) ?_
      cases h0
      exact tr_ret ⟨[], by simp, rfl, by simp⟩
    · rw [if_neg (by rw [c3]; decide)] at h0
      refine tr_skip ?_
      refine kc ?_
      refine ko [3, 4, 26, 27, 28] 3 (by simp; rfl) ?_
      replace h0 := bnd h0; obtain ⟨y3, hy3, h0⟩ := h0
      refine kcall [3, 4, 29] [] (steps_Run_ok hy3) rfl rfl rfl Try.call80 (by simp) (by simp; rfl) ?_
      refine ko [3, 4, 8, 9] 5 (by simp; rfl) ?_
      refine tops_nil ?_
      refine tr_seq ?_
      refine kr [3, 4, 9, 33] (by simp; rfl) ?_
      refine tr_cond (b := (y3.2 != 0)) (by simp) (fun c4 => ?_) (fun c4 => ?_)
      · rw [if_pos c4] at h0
        refine kr [6] (by simp; rfl) ?_
        cases h0
        exact tr_ret ⟨[], by simp, rfl, by simp⟩
      · rw [if_neg (by rw [c4]; decide)] at h0
        refine tr_skip ?_
        refine sjv (fun v4 : Int × Int × (List api_Unit) => ({ nt := 46, env := [(3, .ptr 3 0), (4, .ptr 4 0)], box := [(3, [.d (.int .i64 a0.Slots), .d (.slice (rowsF api_Consumer_row a0.Consumers))]), (4, [.d (.int .i64 v4.1), .d (.int .i64 v4.2.1), .d (.slice (rowsF api_Unit_row v4.2.2))])], vec := [] } : St)) (fun v4 => plan_Check_j0 a0 v4 = some r) (fun v4 h0 => ?_) ?_
        · unfold plan_Check_j0 at h0
          refine kc ?_
          refine ko [43, 44] 2 (by simp; rfl) ?_
          replace h0 := bnd h0; obtain ⟨y5, hy5, h0⟩ := h0
          refine kcall [45] [] (fleet_Ended_ok hy5) rfl rfl rfl Try.call81 (by simp) (by simp; rfl) ?_
          refine ko [6] 1 (by simp; rfl) ?_
          refine tops_nil ?_
          cases h0
          exact tr_ret ⟨[], by simp, rfl, by simp⟩
        · refine kr [3, 4, 9, 36] (by simp; rfl) ?_
          refine tr_cond (b := (decide (0 < ((y3.1).length : Int)))) (by simp) (fun c6 => ?_) (fun c6 => ?_)
          · rw [if_pos c6] at h0
            replace h0 := bnd h0; obtain ⟨x6, p2, h0⟩ := h0
            replace p2 := idx_some p2
            have p2' := p2; try simp at p2'
            refine lr (by simp [p2, p2']; rfl) ?_
            exact ⟨_, h0, wk (by simp [weak_iff])⟩
          · rw [if_neg (by rw [c6]; decide)] at h0
            refine tr_skip ?_
            exact ⟨_, h0, wk (by simp [weak_iff])⟩
  · refine kc1 ?_
    refine ko [2, 3, 4, 7, 19] 3 (by simp; rfl) ?_
    refine tops_split 19 (y1.2 != 0) (by simp) (fun c7 => ?_) (fun c7 => ?_)
    · rw [c7] at hvv2
      refine kskip 4 [] (by kernel_rfl) ?_
      refine ko [2, 3, 4, 24] 1 (by simp; rfl) ?_
      refine tops_nil ?_
      cases hvv2
      exact ⟨_, rfl, wk (by simp [weak_iff])⟩
    · rw [c7] at hvv2
      refine ko [2, 3, 4, 24] 5 (by simp; rfl) ?_
      refine tops_nil ?_
      cases hvv2
      exact ⟨_, rfl, wk (by simp [weak_iff])⟩
end Go.Vl
