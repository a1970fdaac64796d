/- Walks: each function of the given program computes what its mirror says. Conditions: none. -/
import Derived.Test.YtclmnpkhopioiaaRw2
set_option linter.unusedSimpArgs false
set_option linter.unusedVariables false
namespace Go.Vl
open Go Go.Proofs
set_option maxHeartbeats 1000000 in
theorem slices_Clone_api_Step_ok {a0 : List api_Step} {r : List api_Step} (h0 : slices_Clone_api_Step a0 = some r) : FnOK Try.prog 93 [] [.d (.slice (rowsF api_Step_row a0))] (.d (.slice (rowsF api_Step_row r))) [] := by
  unfold slices_Clone_api_Step at h0
  replace h0 := bnd h0; obtain ⟨_, p1, h0⟩ := h0; replace p1 := ck_some p1; cases h0
  refine fn_ok (nt := 8) (rs := [.tmp 2]) Try.func93 rfl Try.ntmps93 rfl (by simp) (by decide) rfl fun K => ?_
  refine kr [0, 2] (by simp; rfl) ?_
  cases a0 with
  | nil =>
    refine tr_seq ?_
    refine kc ?_
    refine ko [0, 3] 1 (by simp; rfl) ?_
    refine tops_isnil (by simp) rfl rfl (by simp) Try.underlying67 (by simp) (by simp) fun b => ?_
    refine tops_nil ?_
    refine tr_cond (b := b) (by simp) (fun cb => ?_) (fun cb => ?_)
    · refine kr [2] (by simp; rfl) ?_
      exact tr_ret ⟨[], by simp, rfl, by simp⟩
    · refine tr_skip ?_
      refine kr [2] (by simp; rfl) ?_
      exact tr_ret ⟨[7], by simp, rfl, by simp⟩
  | cons x l =>
    refine tr_seq ?_
    refine kr [0, 4] (by simp; rfl) ?_
    refine tr_cond (b := false) (by simp) (fun h => by cases h) (fun _ => ?_)
    refine tr_skip ?_
    have p2 := p1; simp at p2
    refine kr [2] (by simp [p1, p2]; rfl) ?_
    exact tr_ret ⟨[7], by simp, rfl, by simp⟩
set_option maxHeartbeats 1000000 in
theorem runner_Left_ok {a0 : List api_Step} {a1 : List api_Attempt} {r : (List api_Step) × Int} (h0 : runner_Left a0 a1 = some r) : FnOK Try.prog 66 [] [.d (.slice (rowsF api_Step_row a0)), .d (.slice (rowsF api_Attempt_row a1))] (.tup [.d (.slice (rowsF api_Step_row r.1)), .d (.int .i64 r.2)]) [] := by
  unfold runner_Left at h0
  refine fn_ok (nt := 58) (rs := [.tmp 4, .tmp 5]) Try.func66 rfl Try.ntmps66 rfl (by simp) (by decide) rfl fun K => ?_
  refine kr [0, 1] (by simp; rfl) ?_
  refine tr_seq ?_
  refine kr [0, 1, 11, 12, 13] (by simp; rfl) ?_
  replace h0 := bnd h0; obtain ⟨e1, hI1, h0⟩ := h0
  refine tjv (fun v1 : Unit => ({ nt := 58, env := [(0, .d (.slice (rowsF api_Step_row a0))), (1, .d (.slice (rowsF api_Attempt_row a1)))], box := [], vec := [] } : St)) (fun v1 => .inl v1 = e1) (fun v1 hI1e _ W1 => ?_) ?_
  · subst hI1e
    dsimp only at h0
    refine tr_wk W1 ?_
    refine kr [0, 1, 8] (by simp; rfl) ?_
    refine tr_seq ?_
    refine kr [0, 8, 30, 31, 32] (by simp; rfl) ?_
    replace h0 := bnd h0; obtain ⟨e2, hI2, h0⟩ := h0
    refine tjv (fun v2 : Int => ({ nt := 58, env := [(0, .d (.slice (rowsF api_Step_row a0))), (8, .d (.int .i64 v2))], box := [], vec := [] } : St)) (fun v2 => .inl v2 = e2) (fun v2 hI2e _ W2 => ?_) ?_
    · subst hI2e
      dsimp only at h0
      refine tr_wk W2 ?_
      refine kc ?_
      replace h0 := bnd h0; obtain ⟨_, p9, h0⟩ := h0
      replace p9 := ck_some p9
      have p9' := p9; try simp at p9'
      refine ko [56] 3 (by simp [p9, p9']; rfl) ?_
      replace h0 := bnd h0; obtain ⟨y3, hy3, h0⟩ := h0
      refine kcall [57] [] (slices_Clone_api_Step_ok hy3) rfl rfl rfl Try.call93 (by simp) (by simp; rfl) ?_
      refine ko [4, 5] 2 (by simp; rfl) ?_
      refine tops_nil ?_
      cases h0
      exact tr_ret ⟨[], by simp, rfl, by simp⟩
    · refine tr_block (tr_iter (fun s4 : Int × Int => ({ nt := 58, env := [(0, .d (.slice (rowsF api_Step_row a0))), (8, .d (.int .i64 s4.1)), (30, .d (.slice (rowsF api_Attempt_row a1))), (31, .d (.int .i64 ((a1).length : Int))), (32, .d (.int .i64 s4.2))], box := [], vec := [] } : St)) hI2 (wk (by simp [weak_iff])) fun G2 s4 o2 h2 hg2 he2 => ?_)
      unfold runner_Left_l1 at h2
      refine kr [0, 8, 30, 31, 32, 33] (by simp; rfl) ?_
      refine tr_seq ?_
      refine tr_cond (b := (decide (s4.2 < ((a1).length : Int)))) (by simp) (fun c19 => ?_) (fun c19 => ?_)
      · rw [if_pos c19] at h2
        refine tr_skip ?_
        refine tr_seq ?_
        refine tr_block ?_
        replace h2 := bnd h2; obtain ⟨x5, p10, h2⟩ := h2
        replace p10 := idx_some p10
        have p10' := p10; try simp at p10'
        refine kr [0, 8, 10, 30, 31, 32] (by simp [p10, p10']; rfl) ?_
        refine tr_seq ?_
        replace h2 := bnd h2; obtain ⟨v6, hvv6, h2⟩ := h2
        refine sjv (fun v6_ : Bool => ({ nt := 58, env := [(0, .d (.slice (rowsF api_Step_row a0))), (8, .d (.int .i64 s4.1)), (10, .ptr 10 0), (30, .d (.slice (rowsF api_Attempt_row a1))), (31, .d (.int .i64 ((a1).length : Int))), (32, .d (.int .i64 s4.2)), (48, .d (.bool v6_))], box := [(10, [.d (.int .i64 x5.Step.Kind), .d (.int .i64 x5.Step.Unit), .d (.int .i64 x5.Outcome), .d (.bool x5.There)])], vec := [] } : St)) (fun v6_ => v6 = v6_) (fun v6_ e => ?_) ?_
        · subst e
          refine tr_cond (b := v6) (by simp) (fun c24 => ?_) (fun c24 => ?_)
          · rw [if_pos c24] at h2
            refine kr [4, 5] (by simp; rfl) ?_
            have k1 := he2 _ (Option.some.inj h2)
            subst k1
            dsimp only at h0
            cases h0
            exact tr_ret ⟨[], by simp, rfl, by simp⟩
          · rw [if_neg (by rw [c24]; decide)] at h2
            refine tr_skip ?_
            refine kr [0, 8, 30, 31, 32, 50] (by simp; rfl) ?_
            refine tr_cond (b := x5.There) (by simp) (fun c25 => ?_) (fun c25 => ?_)
            · rw [if_pos c25] at h2
              refine lr (by simp; rfl) ?_
              refine lr (by simp; rfl) ?_
              exact ⟨_, hg2 _ (Option.some.inj h2), wk (by simp [weak_iff])⟩
            · rw [if_neg (by rw [c25]; decide)] at h2
              refine tr_skip ?_
              refine lr (by simp; rfl) ?_
              exact ⟨_, hg2 _ (Option.some.inj h2), wk (by simp [weak_iff])⟩
        · refine kd1 [[], [], [1], [0, 2], [2, 3], [2, 4], [2, 4, 5], [2, 4], [2, 4], [2, 4, 7, 8], [2, 4, 9], [2, 4, 6, 10], [2, 4, 11]] [] [] none [] 13 fol (by decide +kernel) (by simp) ?_
          refine dr_go 0 2 rfl (by simp (maxSteps := 1000000); rfl) ?_
          refine dr_go 2 2 rfl (by simp (maxSteps := 1000000); rfl) ?_
          refine dr_go 4 1 rfl (by simp (maxSteps := 1000000); rfl) ?_
          refine dr_split 4 40 (decide (((a0).length : Int) ≤ s4.1)) (by simp) (fun c27 => ?_) (fun c27 => ?_)
          · rw [if_pos c27] at hvv6
            refine dr_skip 5 58 [some 41, some 42, some 43, some 44, some 45, some 46, some 47] rfl rfl (by decide) (by kernel_rfl) (by simp only [skEf, List.map_cons, List.map_nil, List.cons_append, List.nil_append]; rfl) ?_
            refine dr_go 12 1 rfl (by simp (maxSteps := 1000000); rfl) ?_
            refine dr_end rfl (tops_nil ?_)
            cases hvv6
            exact ⟨_, rfl, wk (by simp [weak_iff])⟩
          · rw [if_neg (by rw [c27]; decide)] at hvv6
            replace hvv6 := bnd hvv6; obtain ⟨x7, p16, hvv6⟩ := hvv6
            replace p16 := idx_some p16
            have p16' := p16; try simp at p16'
            refine dr_go 5 2 rfl (by simp (maxSteps := 1000000) [p16, p16']; rfl) ?_
            refine dr_go 7 2 rfl (by simp (maxSteps := 1000000) [p16, p16']; rfl) ?_
            refine dr_go 9 2 rfl (by simp (maxSteps := 1000000) [p16, p16']; rfl) ?_
            refine dr_go 11 2 rfl (by simp (maxSteps := 1000000) [p16, p16']; rfl) ?_
            refine dr_end rfl (tops_nil ?_)
            cases hvv6
            exact ⟨_, rfl, wk (by simp [weak_iff])⟩
      · rw [if_neg (by rw [c19]; decide)] at h2
        refine tr_exit ?_
        exact ⟨_, he2 _ (Option.some.inj h2), wk (by simp [weak_iff])⟩
  · refine tr_block (tr_iter (fun s10 : Int => ({ nt := 58, env := [(0, .d (.slice (rowsF api_Step_row a0))), (1, .d (.slice (rowsF api_Attempt_row a1))), (11, .d (.slice (rowsF api_Attempt_row a1))), (12, .d (.int .i64 ((a1).length : Int))), (13, .d (.int .i64 s10))], box := [], vec := [] } : St)) hI1 (wk (by simp [weak_iff])) fun G2 s10 o2 h2 hg2 he2 => ?_)
    unfold runner_Left_l0 at h2
    refine kr [0, 1, 11, 12, 13, 14] (by simp; rfl) ?_
    refine tr_seq ?_
    refine tr_cond (b := (decide (s10 < ((a1).length : Int)))) (by simp) (fun c28 => ?_) (fun c28 => ?_)
    · rw [if_pos c28] at h2
      refine tr_skip ?_
      refine tr_seq ?_
      refine tr_block ?_
      replace h2 := bnd h2; obtain ⟨x11, p17, h2⟩ := h2
      replace p17 := idx_some p17
      have p17' := p17; try simp at p17'
      refine kr [0, 1, 7, 11, 12, 13] (by simp [p17, p17']; rfl) ?_
      replace h2 := bnd h2; obtain ⟨v12, hvv12, h2⟩ := h2
      refine sjv (fun v12_ : Bool => ({ nt := 58, env := [(0, .d (.slice (rowsF api_Step_row a0))), (1, .d (.slice (rowsF api_Attempt_row a1))), (11, .d (.slice (rowsF api_Attempt_row a1))), (12, .d (.int .i64 ((a1).length : Int))), (13, .d (.int .i64 s10)), (28, .d (.bool v12_))], box := [], vec := [] } : St)) (fun v12_ => v12 = v12_) (fun v12_ e => ?_) ?_
      · subst e
        refine tr_cond (b := v12) (by simp) (fun c33 => ?_) (fun c33 => ?_)
        · rw [if_pos c33] at h2
          refine kr [4, 5] (by simp; rfl) ?_
          have k1 := he2 _ (Option.some.inj h2)
          subst k1
          dsimp only at h0
          cases h0
          exact tr_ret ⟨[], by simp, rfl, by simp⟩
        · rw [if_neg (by rw [c33]; decide)] at h2
          refine tr_skip ?_
          refine lr (by simp; rfl) ?_
          exact ⟨_, hg2 _ (Option.some.inj h2), wk (by simp [weak_iff])⟩
      · refine kd1 [[], [0], [1], [2], [3], [4], [4, 5], [4], [4, 7], [4, 8], [4, 6, 9], [4, 10]] [] [] none [] 12 fol (by decide +kernel) (by simp) ?_
        refine dr_go 0 2 rfl (by simp (maxSteps := 1000000); rfl) ?_
        replace hvv12 := bnd hvv12; obtain ⟨y13, hy13, hvv12⟩ := hvv12
        refine dr_call 2 [] (runner_outcome_ok hy13) rfl rfl rfl rfl rfl Try.call91 (by simp) ?_
        refine dr_go 3 2 rfl (by simp (maxSteps := 1000000); rfl) ?_
        refine dr_split 4 21 (!y13) (by simp) (fun c35 => ?_) (fun c35 => ?_)
        · rw [if_pos c35] at hvv12
          refine dr_skip 5 58 [some 22, some 23, some 24, some 25, some 26, some 27] rfl rfl (by decide) (by kernel_rfl) (by simp only [skEf, List.map_cons, List.map_nil, List.cons_append, List.nil_append]; rfl) ?_
          refine dr_go 11 1 rfl (by simp (maxSteps := 1000000); rfl) ?_
          refine dr_end rfl (tops_nil ?_)
          cases hvv12
          exact ⟨_, rfl, wk (by simp [weak_iff])⟩
        · rw [if_neg (by rw [c35]; decide)] at hvv12
          refine dr_go 5 2 rfl (by simp (maxSteps := 1000000); rfl) ?_
          refine dr_go 7 2 rfl (by simp (maxSteps := 1000000); rfl) ?_
          replace hvv12 := bnd hvv12; obtain ⟨y14, hy14, hvv12⟩ := hvv12
          refine dr_call 9 [] (runner_there_ok hy14) rfl rfl rfl rfl rfl Try.call92 (by simp) ?_
          refine dr_go 10 2 rfl (by simp (maxSteps := 1000000); rfl) ?_
          refine dr_end rfl (tops_nil ?_)
          cases hvv12
          exact ⟨_, rfl, wk (by simp [weak_iff])⟩
    · rw [if_neg (by rw [c28]; decide)] at h2
      refine tr_exit ?_
      exact ⟨_, he2 _ (Option.some.inj h2), wk (by simp [weak_iff])⟩
set_option maxHeartbeats 1000000 in
theorem law37_RunnerLeft_ok {a0 : List Int} {r : Bool} (h0 : law37_RunnerLeft a0 = some r) : FnOK Try.prog 15 [] [.d (.slice (rowsF (iRow .i64) a0))] (.d (.bool r)) [] := by
  unfold law37_RunnerLeft at h0
  refine fn_ok (nt := 132) (rs := [.tmp 2]) Try.func15 rfl Try.ntmps15 rfl (by simp) (by decide) rfl fun K => ?_
  refine kr [0] (by simp; rfl) ?_
  refine tr_seq ?_
  refine kr [0, 23] (by simp; rfl) ?_
  refine tr_cond (b := (decide (300 < ((a0).length : Int)))) (by simp) (fun c1 => ?_) (fun c1 => ?_)
  · rw [if_pos c1] at h0
    refine kc ?_
    replace h0 := bnd h0; obtain ⟨y1, hy1, h0⟩ := h0
    refine kcall [24] [] (law37_awake_ok hy1) rfl rfl rfl Try.call61 (by simp) (by simp; rfl) ?_
    refine ko [2] 1 (by simp; rfl) ?_
    refine tops_nil ?_
    cases h0
    exact tr_ret ⟨[], by simp, rfl, by simp⟩
  · rw [if_neg (by rw [c1]; decide)] at h0
    refine tr_skip ?_
    refine kr [3] (by simp; rfl) ?_
    refine kc ?_
    refine ko [3, 28] 1 (by simp; rfl) ?_
    replace h0 := bnd h0; obtain ⟨y2, hy2, h0⟩ := h0
    refine kcall [3, 29] [27] (make_Fleet_ok hy2) rfl rfl rfl Try.call18 (by simp) (by simp; rfl) ?_
    refine ko [3, 4] 2 (by simp; rfl) ?_
    refine tops_nil ?_
    refine kc ?_
    refine ko [3, 4, 30, 31] 2 (by simp; rfl) ?_
    replace h0 := bnd h0; obtain ⟨y3, hy3, h0⟩ := h0
    refine kcall [3, 4, 32] [27] (make_State_ok hy3) rfl rfl rfl Try.call19 (by simp) (by simp; rfl) ?_
    refine ko [3, 4, 5] 2 (by simp; rfl) ?_
    refine tops_nil ?_
    refine kc ?_
    refine ko [3, 4, 5, 33, 34, 35] 3 (by simp; rfl) ?_
    replace h0 := bnd h0; obtain ⟨y4, hy4, h0⟩ := h0
    refine kcall [3, 4, 5, 36] [27] (make_SafeSteps_ok hy4) rfl rfl rfl Try.call52 (by simp) (by simp; rfl) ?_
    refine ko [3, 4, 5, 6] 1 (by simp; rfl) ?_
    refine tops_nil ?_
    refine kr [3, 4, 5, 6, 7] (by simp; rfl) ?_
    refine tr_seq ?_
    refine kc ?_
    refine ko [3, 4, 5, 6, 7, 37, 40] 4 (by simp; rfl) ?_
    replace h0 := bnd h0; obtain ⟨y5, hy5, h0⟩ := h0
    refine kcall [3, 4, 5, 6, 7, 41] [27] (make_Tape_Next_ok hy5) rfl rfl rfl Try.call38 (by simp) (by simp; rfl) ?_
    refine ko [3, 4, 5, 6, 7, 8] 1 (by simp; rfl) ?_
    refine tops_nil ?_
    refine tr_wk (wk_own 7 51 3 1 (by simp) (by simp)) ?_
    replace h0 := bnd h0; obtain ⟨e1, hI1, h0⟩ := h0
    refine tjv (fun v6 : (List Int) × Int × (List Int) => ({ nt := 132, env := [(3, .ptr 27 0), (4, .ptr 4 0), (5, .ptr 5 0), (6, .d (.slice (rowsF api_Step_row y4.1))), (7, .vec 51)], box := [(4, [.d (.int .i64 y2.1.Slots), .d (.slice (rowsF api_Consumer_row y2.1.Consumers))]), (5, [.d (.int .i64 y3.1.Known), .d (.int .i64 y3.1.Valid), .d (.slice (rowsF api_Unit_row y3.1.Units))]), (27, [.d (.slice (rowsF (iRow .i64) v6.1)), .d (.int .i64 v6.2.1)])], vec := [(51, ⟨3, 1, rowsF (iRow .i64) v6.2.2⟩)] } : St)) (fun v6 => v6 = e1) (fun v6 hI1e _ W1 => ?_) ?_
    · subst hI1e
      refine tr_wk W1 ?_
      refine tr_seq ?_
      refine kr [3, 4, 5, 6, 7, 9] (by simp; rfl) ?_
      replace h0 := bnd h0; obtain ⟨e2, hI2, h0⟩ := h0
      refine tjv (fun v7 : (List Int) => ({ nt := 132, env := [(4, .ptr 4 0), (5, .ptr 5 0), (6, .d (.slice (rowsF api_Step_row y4.1))), (7, .vec 51)], box := [(4, [.d (.int .i64 y2.1.Slots), .d (.slice (rowsF api_Consumer_row y2.1.Consumers))]), (5, [.d (.int .i64 y3.1.Known), .d (.int .i64 y3.1.Valid), .d (.slice (rowsF api_Unit_row y3.1.Units))])], vec := [(51, ⟨3, 1, rowsF (iRow .i64) v7⟩)] } : St)) (fun v7 => v7 = e2) (fun v7 hI2e _ W2 => ?_) ?_
      · subst hI2e
        refine tr_wk W2 ?_
        refine kc ?_
        refine ko [4, 5, 6, 63, 64, 65, 66] 4 (by simp; rfl) ?_
        refine tops_wk (wk_frz 51) ?_
        replace h0 := bnd h0; obtain ⟨y8, hy8, h0⟩ := h0
        refine kcall [4, 5, 6, 67] [] (runner_Run_ok hy8) rfl rfl rfl Try.call62 (by simp) (by simp; rfl) ?_
        refine ko [4, 5, 6, 10, 11, 12] 8 (by simp; rfl) ?_
        refine tops_nil ?_
        refine kc ?_
        refine ko [4, 5, 6, 10, 12, 72, 73] 2 (by simp; rfl) ?_
        replace h0 := bnd h0; obtain ⟨y9, hy9, h0⟩ := h0
        refine kcall [4, 5, 6, 10, 12, 74] [] (runner_Left_ok hy9) rfl rfl rfl Try.call66 (by simp) (by simp; rfl) ?_
        refine ko [4, 5, 6, 10, 12, 13, 14] 5 (by simp; rfl) ?_
        refine tops_nil ?_
        refine tr_seq ?_
        replace h0 := bnd h0; obtain ⟨v10, hvv10, h0⟩ := h0
        refine sjv (fun v10_ : Bool => ({ nt := 132, env := [(4, .ptr 4 0), (5, .ptr 5 0), (6, .d (.slice (rowsF api_Step_row y4.1))), (10, .ptr 10 0), (13, .d (.slice (rowsF api_Step_row y9.1))), (94, .d (.bool v10_))], box := [(4, [.d (.int .i64 y2.1.Slots), .d (.slice (rowsF api_Consumer_row y2.1.Consumers))]), (5, [.d (.int .i64 y3.1.Known), .d (.int .i64 y3.1.Valid), .d (.slice (rowsF api_Unit_row y3.1.Units))]), (10, [.d (.int .i64 y8.1.Known), .d (.int .i64 y8.1.Valid), .d (.slice (rowsF api_Unit_row y8.1.Units))])], vec := [] } : St)) (fun v10_ => v10 = v10_) (fun v10_ e => ?_) ?_
        · subst e
          refine tr_cond (b := v10) (by simp) (fun c13 => ?_) (fun c13 => ?_)
          · rw [if_pos c13] at h0
            refine kr [2] (by simp; rfl) ?_
            cases h0
            exact tr_ret ⟨[], by simp, rfl, by simp⟩
          · rw [if_neg (by rw [c13]; decide)] at h0
            refine tr_skip ?_
            refine kc ?_
            refine ko [4, 5, 6, 96, 97, 98] 3 (by simp; rfl) ?_
            replace h0 := bnd h0; obtain ⟨y11, hy11, h0⟩ := h0
            refine kcall [4, 5, 6, 99] [] (runner_Run_ok hy11) rfl rfl rfl Try.call62 (by simp) (by simp; rfl) ?_
            refine ko [4, 5, 6, 15, 17] 8 (by simp; rfl) ?_
            refine tops_nil ?_
            refine kc ?_
            refine ko [5, 15, 17, 104, 105, 106] 3 (by simp; rfl) ?_
            replace h0 := bnd h0; obtain ⟨y12, hy12, h0⟩ := h0
            refine kcall [5, 15, 17, 107] [] (ref33_Run_ok hy12) rfl rfl rfl Try.call59 (by simp) (by simp; rfl) ?_
            refine ko [5, 15, 17, 18, 19] 5 (by simp; rfl) ?_
            refine tops_nil ?_
            refine tr_seq ?_
            replace h0 := bnd h0; obtain ⟨v13, hvv13, h0⟩ := h0
            refine sjv (fun v13_ : Bool => ({ nt := 132, env := [(5, .ptr 5 0), (15, .ptr 15 0), (18, .d (.slice (rowsF api_Rotation_row y12.1))), (115, .d (.bool v13_))], box := [(5, [.d (.int .i64 y3.1.Known), .d (.int .i64 y3.1.Valid), .d (.slice (rowsF api_Unit_row y3.1.Units))]), (15, [.d (.int .i64 y11.1.Known), .d (.int .i64 y11.1.Valid), .d (.slice (rowsF api_Unit_row y11.1.Units))])], vec := [] } : St)) (fun v13_ => v13 = v13_) (fun v13_ e => ?_) ?_
            · subst e
              refine tr_cond (b := v13) (by simp) (fun c16 => ?_) (fun c16 => ?_)
              · rw [if_pos c16] at h0
                refine kr [2] (by simp; rfl) ?_
                cases h0
                exact tr_ret ⟨[], by simp, rfl, by simp⟩
              · rw [if_neg (by rw [c16]; decide)] at h0
                refine tr_skip ?_
                refine kr [15, 18, 20] (by simp; rfl) ?_
                refine sjv (fun v14 : Int × Int × (List api_Unit) => ({ nt := 132, env := [(15, .ptr 15 0), (20, .ptr 20 0)], box := [(15, [.d (.int .i64 y11.1.Known), .d (.int .i64 y11.1.Valid), .d (.slice (rowsF api_Unit_row y11.1.Units))]), (20, [.d (.int .i64 v14.1), .d (.int .i64 v14.2.1), .d (.slice (rowsF api_Unit_row v14.2.2))])], vec := [] } : St)) (fun v14 => law37_RunnerLeft_j2 y11 v14 = some r) (fun v14 h0 => ?_) ?_
                · unfold law37_RunnerLeft_j2 at h0
                  replace h0 := bnd h0; obtain ⟨v15, hvv15, h0⟩ := h0
                  refine sjv (fun v15_ : Bool => ({ nt := 132, env := [(2, .d (.bool v15_))], box := [], vec := [] } : St)) (fun v15_ => v15 = v15_) (fun v15_ e => ?_) ?_
                  · subst e
                    cases h0
                    exact tr_ret ⟨[], by simp, rfl, by simp⟩
                  · refine kc1 ?_
                    refine ko [126, 127] 2 (by simp; rfl) ?_
                    replace hvv15 := bnd hvv15; obtain ⟨y16, hy16, hvv15⟩ := hvv15
                    refine kcall [128] [] (ref32_Same_ok hy16) rfl rfl rfl Try.call30 (by simp) (by simp; rfl) ?_
                    refine ko [129] 1 (by simp; rfl) ?_
                    refine tops_split 129 y16 (by simp) (fun c20 => ?_) (fun c20 => ?_)
                    · rw [if_pos c20] at hvv15
                      replace hvv15 := bnd hvv15; obtain ⟨y17, hy17, hvv15⟩ := hvv15
                      refine kcall [129, 130] [] (law37_awake_ok hy17) rfl rfl rfl Try.call61 (by simp) (by simp; rfl) ?_
                      refine ko [2] 2 (by simp; rfl) ?_
                      refine tops_nil ?_
                      cases hvv15
                      exact ⟨_, rfl, wk (by simp [weak_iff])⟩
                    · rw [if_neg (by rw [c20]; decide)] at hvv15
                      refine ko [2] 3 (by simp; rfl) ?_
                      refine tops_nil ?_
                      cases hvv15
                      exact ⟨_, rfl, wk (by simp [weak_iff])⟩
                · refine kr [15, 18, 20, 119] (by simp; rfl) ?_
                  refine tr_cond (b := (decide (0 < ((y12.1).length : Int)))) (by simp) (fun c21 => ?_) (fun c21 => ?_)
                  · rw [if_pos c21] at h0
                    replace h0 := bnd h0; obtain ⟨x18, p6, h0⟩ := h0
                    replace p6 := idx_some p6
                    have p6' := p6; try simp at p6'
                    refine lr (by simp [p6, p6']; rfl) ?_
                    exact ⟨_, h0, wk (by simp [weak_iff])⟩
                  · rw [if_neg (by rw [c21]; decide)] at h0
                    refine tr_skip ?_
                    exact ⟨_, h0, wk (by simp [weak_iff])⟩
            · refine kc1 ?_
              refine ko [5, 15, 18, 19, 112] 3 (by simp; rfl) ?_
              refine tops_split 112 (y11.2.2 != 0) (by simp) (fun c22 => ?_) (fun c22 => ?_)
              · rw [c22] at hvv13
                refine ko [5, 15, 18, 115] 3 (by simp; rfl) ?_
                refine tops_nil ?_
                cases hvv13
                exact ⟨_, rfl, wk (by simp [weak_iff])⟩
              · rw [c22] at hvv13
                refine ko [5, 15, 18, 115] 3 (by simp; rfl) ?_
                refine tops_nil ?_
                cases hvv13
                exact ⟨_, rfl, wk (by simp [weak_iff])⟩
        · refine kc1 ?_
          refine ko [4, 5, 6, 10, 12, 13, 79] 3 (by simp; rfl) ?_
          refine tops_split 79 (y9.2 != 0) (by simp) (fun c23 => ?_) (fun c23 => ?_)
          · rw [c23] at hvv10
            refine kskip 6 [] (by kernel_rfl) ?_
            refine ko [4, 5, 6, 10, 12, 13, 87] 2 (by simp; rfl) ?_
            refine kskip 6 [] (by kernel_rfl) ?_
            refine ko [4, 5, 6, 10, 13, 94] 1 (by simp; rfl) ?_
            refine tops_nil ?_
            cases hvv10
            exact ⟨_, rfl, wk (by simp [weak_iff])⟩
          · rw [c23] at hvv10
            refine ko [4, 5, 6, 10, 12, 13, 79, 82] 3 (by simp; rfl) ?_
            refine tops_split 82 (y8.2.2 != 0) (by simp) (fun c24 => ?_) (fun c24 => ?_)
            · rw [c24] at hvv10
              refine ko [4, 5, 6, 10, 12, 13, 87] 5 (by simp; rfl) ?_
              refine tops_split 87 (y8.2.2 != 40) (by simp) (fun c25 => ?_) (fun c25 => ?_)
              · rw [c25] at hvv10
                refine kskip 6 [] (by kernel_rfl) ?_
                refine ko [4, 5, 6, 10, 13, 94] 1 (by simp; rfl) ?_
                refine tops_nil ?_
                cases hvv10
                exact ⟨_, rfl, wk (by simp [weak_iff])⟩
              · rw [c25] at hvv10
                refine ko [4, 5, 6, 10, 13, 94] 7 (by simp; rfl) ?_
                refine tops_nil ?_
                cases hvv10
                exact ⟨_, rfl, wk (by simp [weak_iff])⟩
            · rw [c24] at hvv10
              refine ko [4, 5, 6, 10, 13, 94] 12 (by simp; rfl) ?_
              refine tops_nil ?_
              cases hvv10
              exact ⟨_, rfl, wk (by simp [weak_iff])⟩
      · refine tr_block (tr_iter (fun s19 : Int × (List Int) × Int × (List Int) => ({ nt := 132, env := [(3, .ptr 27 0), (4, .ptr 4 0), (5, .ptr 5 0), (6, .d (.slice (rowsF api_Step_row y4.1))), (7, .vec 51), (9, .d (.int .i64 s19.1))], box := [(4, [.d (.int .i64 y2.1.Slots), .d (.slice (rowsF api_Consumer_row y2.1.Consumers))]), (5, [.d (.int .i64 y3.1.Known), .d (.int .i64 y3.1.Valid), .d (.slice (rowsF api_Unit_row y3.1.Units))]), (27, [.d (.slice (rowsF (iRow .i64) s19.2.1)), .d (.int .i64 s19.2.2.1)])], vec := [(51, ⟨3, 1, rowsF (iRow .i64) s19.2.2.2⟩)] } : St)) hI2 (wk (by simp [weak_iff])) fun G2 s19 o2 h2 hg2 he2 => ?_)
        unfold law37_RunnerLeft_l1 at h2
        refine tr_seq ?_
        refine kr [3, 4, 5, 6, 7, 9, 53] (by simp; rfl) ?_
        refine tr_cond (b := (decide (s19.1 < 6))) (by simp) (fun c26 => ?_) (fun c26 => ?_)
        · rw [if_pos c26] at h2
          refine tr_skip ?_
          refine tr_seq ?_
          refine tr_block ?_
          refine kc1 ?_
          refine ko [3, 4, 5, 6, 9, 56, 57, 58] 3 (by simp; rfl) ?_
          refine tops_wk (wk_frz 58) ?_
          replace h2 := bnd h2; obtain ⟨y20, hy20, h2⟩ := h2
          refine kcall [3, 4, 5, 6, 9, 56, 59] [27] (make_Pick_ok hy20) rfl rfl rfl Try.call65 (by simp) (by simp; rfl) ?_
          replace h2 := bnd h2; obtain ⟨_, p7, h2⟩ := h2
          replace p7 := ck_some p7
          have p7' := p7; try simp at p7'
          refine ko [3, 4, 5, 6, 7, 9] 3 (by simp [p7, p7']; rfl) ?_
          refine tops_nil ?_
          refine lr (by simp; rfl) ?_
          exact ⟨_, hg2 _ (Option.some.inj h2), (wk_ren 61 51).trans (wk (by simp [weak_iff]))⟩
        · rw [if_neg (by rw [c26]; decide)] at h2
          refine tr_exit ?_
          exact ⟨_, he2 _ (Option.some.inj h2), wk (by simp [weak_iff])⟩
    · refine tr_block (tr_iter (fun s21 : Int × (List Int) × Int × (List Int) => ({ nt := 132, env := [(3, .ptr 27 0), (4, .ptr 4 0), (5, .ptr 5 0), (6, .d (.slice (rowsF api_Step_row y4.1))), (7, .vec 51), (8, .d (.int .i64 s21.1))], box := [(4, [.d (.int .i64 y2.1.Slots), .d (.slice (rowsF api_Consumer_row y2.1.Consumers))]), (5, [.d (.int .i64 y3.1.Known), .d (.int .i64 y3.1.Valid), .d (.slice (rowsF api_Unit_row y3.1.Units))]), (27, [.d (.slice (rowsF (iRow .i64) s21.2.1)), .d (.int .i64 s21.2.2.1)])], vec := [(51, ⟨3, 1, rowsF (iRow .i64) s21.2.2.2⟩)] } : St)) hI1 (wk (by simp [weak_iff])) fun G2 s21 o2 h2 hg2 he2 => ?_)
      unfold law37_RunnerLeft_l0 at h2
      refine tr_seq ?_
      refine kr [3, 4, 5, 6, 7, 8, 43] (by simp; rfl) ?_
      refine tr_cond (b := (decide (0 < s21.1))) (by simp) (fun c27 => ?_) (fun c27 => ?_)
      · rw [if_pos c27] at h2
        refine tr_skip ?_
        refine tr_seq ?_
        refine tr_block ?_
        refine kc1 ?_
        refine ko [3, 4, 5, 6, 8, 46, 47, 48] 3 (by simp; rfl) ?_
        refine tops_wk (wk_frz 48) ?_
        replace h2 := bnd h2; obtain ⟨y22, hy22, h2⟩ := h2
        refine kcall [3, 4, 5, 6, 8, 46, 49] [27] (make_Pick_ok hy22) rfl rfl rfl Try.call65 (by simp) (by simp; rfl) ?_
        replace h2 := bnd h2; obtain ⟨_, p8, h2⟩ := h2
        replace p8 := ck_some p8
        have p8' := p8; try simp at p8'
        refine ko [3, 4, 5, 6, 7, 8] 3 (by simp [p8, p8']; rfl) ?_
        refine tops_nil ?_
        refine lr (by simp; rfl) ?_
        exact ⟨_, hg2 _ (Option.some.inj h2), wk (by simp [weak_iff])⟩
      · rw [if_neg (by rw [c27]; decide)] at h2
        refine tr_exit ?_
        exact ⟨_, he2 _ (Option.some.inj h2), wk (by simp [weak_iff])⟩
end Go.Vl
