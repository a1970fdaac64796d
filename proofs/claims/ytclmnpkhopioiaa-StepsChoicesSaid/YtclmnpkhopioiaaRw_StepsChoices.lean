/- Walks: each function of the given program computes what its mirror says. Conditions: none. -/
import Derived.Test.YtclmnpkhopioiaaRw2
set_option linter.unusedSimpArgs false
set_option linter.unusedVariables false
namespace Go.Vl
open Go Go.Proofs
set_option maxHeartbeats 1000000 in
theorem law33_StepsChoices_ok {a0 : List Int} {r : Bool} (h0 : law33_StepsChoices a0 = some r) : FnOK Try.prog 9 [] [.d (.slice (rowsF (iRow .i64) a0))] (.d (.bool r)) [] := by
  unfold law33_StepsChoices at h0
  refine fn_ok (nt := 153) (rs := [.tmp 2]) Try.func9 rfl Try.ntmps9 rfl (by simp) (by decide) rfl fun K => ?_
  refine kr [0] (by simp; rfl) ?_
  refine tr_seq ?_
  refine kr [0, 22] (by simp; rfl) ?_
  refine tr_cond (b := (decide (300 < ((a0).length : Int)))) (by simp) (fun c1 => ?_) (fun c1 => ?_)
  · rw [if_pos c1] at h0
    refine kc ?_
    replace h0 := bnd h0; obtain ⟨y1, hy1, h0⟩ := h0
    refine kcall [23] [] (law33_awake_ok hy1) rfl rfl rfl Try.call43 (by simp) (by simp; rfl) ?_
    refine ko [2] 1 (by simp; rfl) ?_
    refine tops_nil ?_
    cases h0
    exact tr_ret ⟨[], by simp, rfl, by simp⟩
  · rw [if_neg (by rw [c1]; decide)] at h0
    refine tr_skip ?_
    refine kr [3] (by simp; rfl) ?_
    refine kc ?_
    refine ko [3, 27] 1 (by simp; rfl) ?_
    replace h0 := bnd h0; obtain ⟨y2, hy2, h0⟩ := h0
    refine kcall [3, 28] [26] (make_Fleet_ok hy2) rfl rfl rfl Try.call18 (by simp) (by simp; rfl) ?_
    refine ko [3, 4] 2 (by simp; rfl) ?_
    refine tops_nil ?_
    refine kc ?_
    refine ko [3, 4, 29, 30] 2 (by simp; rfl) ?_
    replace h0 := bnd h0; obtain ⟨y3, hy3, h0⟩ := h0
    refine kcall [3, 4, 31] [26] (make_State_ok hy3) rfl rfl rfl Try.call19 (by simp) (by simp; rfl) ?_
    refine ko [3, 4, 5] 2 (by simp; rfl) ?_
    refine tops_nil ?_
    refine tr_seq ?_
    refine kc ?_
    refine ko [3, 4, 5, 32, 33] 2 (by simp; rfl) ?_
    replace h0 := bnd h0; obtain ⟨y4, hy4, h0⟩ := h0
    refine kcall [3, 4, 5, 34] [] (steps_Choices_ok hy4) rfl rfl rfl Try.call47 (by simp) (by simp; rfl) ?_
    refine ko [3, 4, 5, 34, 35, 36] 2 (by simp; rfl) ?_
    refine tops_nil ?_
    replace h0 := bnd h0; obtain ⟨e1, hI1, h0⟩ := h0
    refine tjv (fun v5 : Unit => ({ nt := 153, env := [(3, .ptr 26 0), (4, .ptr 4 0), (5, .ptr 5 0)], box := [(4, [.d (.int .i64 y2.1.Slots), .d (.slice (rowsF api_Consumer_row y2.1.Consumers))]), (5, [.d (.int .i64 y3.1.Known), .d (.int .i64 y3.1.Valid), .d (.slice (rowsF api_Unit_row y3.1.Units))]), (26, [.d (.slice (rowsF (iRow .i64) y3.2.L)), .d (.int .i64 y3.2.at_)])], vec := [] } : St)) (fun v5 => .inl v5 = e1) (fun v5 hI1e _ W1 => ?_) ?_
    · subst hI1e
      dsimp only at h0
      refine tr_wk W1 ?_
      refine kc ?_
      refine ko [3, 4, 5, 53, 54] 2 (by simp; rfl) ?_
      replace h0 := bnd h0; obtain ⟨y6, hy6, h0⟩ := h0
      refine kcall [3, 4, 5, 55] [26] (make_Step_ok hy6) rfl rfl rfl Try.call44 (by simp) (by simp; rfl) ?_
      refine ko [3, 4, 5, 8] 2 (by simp; rfl) ?_
      refine tops_nil ?_
      refine kr [3, 4, 5, 8, 9] (by simp; rfl) ?_
      refine tr_seq ?_
      refine kc ?_
      refine ko [3, 4, 5, 8, 9, 56, 57] 2 (by simp; rfl) ?_
      replace h0 := bnd h0; obtain ⟨y7, hy7, h0⟩ := h0
      refine kcall [3, 4, 5, 8, 9, 58] [] (steps_Choices_ok hy7) rfl rfl rfl Try.call47 (by simp) (by simp; rfl) ?_
      refine ko [3, 4, 5, 8, 9, 58, 59, 60] 2 (by simp; rfl) ?_
      refine tops_nil ?_
      replace h0 := bnd h0; obtain ⟨e2, hI2, h0⟩ := h0
      refine tjv (fun v8 : Bool => ({ nt := 153, env := [(3, .ptr 26 0), (4, .ptr 4 0), (5, .ptr 5 0), (8, .ptr 8 0), (9, .d (.bool v8))], box := [(4, [.d (.int .i64 y2.1.Slots), .d (.slice (rowsF api_Consumer_row y2.1.Consumers))]), (5, [.d (.int .i64 y3.1.Known), .d (.int .i64 y3.1.Valid), .d (.slice (rowsF api_Unit_row y3.1.Units))]), (8, [.d (.int .i64 y6.1.Kind), .d (.int .i64 y6.1.Unit)]), (26, [.d (.slice (rowsF (iRow .i64) y6.2.L)), .d (.int .i64 y6.2.at_)])], vec := [] } : St)) (fun v8 => v8 = e2) (fun v8 hI2e _ W2 => ?_) ?_
      · subst hI2e
        refine tr_wk W2 ?_
        refine tr_seq ?_
        refine kc ?_
        refine ko [3, 4, 5, 71, 72, 73, 74] 4 (by simp; rfl) ?_
        replace h0 := bnd h0; obtain ⟨y9, hy9, h0⟩ := h0
        refine kcall [3, 4, 5, 71, 75] [] (steps_Safe_ok hy9) rfl rfl rfl Try.call48 (by simp) (by simp; rfl) ?_
        refine ko [3, 4, 5, 76] 1 (by simp; rfl) ?_
        refine tops_nil ?_
        refine tr_cond (b := (v8 != y9)) (by simp) (fun c11 => ?_) (fun c11 => ?_)
        · rw [if_pos c11] at h0
          refine kr [2] (by simp; rfl) ?_
          cases h0
          exact tr_ret ⟨[], by simp, rfl, by simp⟩
        · rw [if_neg (by rw [c11]; decide)] at h0
          refine tr_skip ?_
          refine kc ?_
          refine ko [3, 4, 5, 77, 78, 79] 3 (by simp; rfl) ?_
          replace h0 := bnd h0; obtain ⟨y10, hy10, h0⟩ := h0
          refine kcall [3, 4, 5, 80] [26] (make_Steps_ok hy10) rfl rfl rfl Try.call49 (by simp) (by simp; rfl) ?_
          refine ko [3, 4, 5, 12] 1 (by simp; rfl) ?_
          refine tops_nil ?_
          refine kc ?_
          refine ko [3, 4, 5, 12, 82, 83, 84] 3 (by simp; rfl) ?_
          replace h0 := bnd h0; obtain ⟨y11, hy11, h0⟩ := h0
          refine kcall [3, 4, 5, 12, 85] [] (steps_Run_ok hy11) rfl rfl rfl Try.call50 (by simp) (by simp; rfl) ?_
          refine ko [3, 4, 5, 12, 13, 14] 5 (by simp; rfl) ?_
          refine tops_nil ?_
          refine tr_seq ?_
          refine kr [3, 4, 5, 12, 13, 14, 89] (by simp; rfl) ?_
          refine tr_cond (b := (y11.2 != 0)) (by simp) (fun c12 => ?_) (fun c12 => ?_)
          · rw [if_pos c12] at h0
            replace h0 := bnd h0; obtain ⟨v12, hvv12, h0⟩ := h0
            refine sjv (fun v12_ : Bool => ({ nt := 153, env := [(2, .d (.bool v12_))], box := [], vec := [] } : St)) (fun v12_ => v12 = v12_) (fun v12_ e => ?_) ?_
            · subst e
              cases h0
              exact tr_ret ⟨[], by simp, rfl, by simp⟩
            · refine kc1 ?_
              refine ko [92] 3 (by simp; rfl) ?_
              refine tops_split 92 (y11.2 == 37) (by simp) (fun c15 => ?_) (fun c15 => ?_)
              · rw [if_pos c15] at hvv12
                replace hvv12 := bnd hvv12; obtain ⟨y13, hy13, hvv12⟩ := hvv12
                refine kcall [92, 93] [] (law33_awake_ok hy13) rfl rfl rfl Try.call43 (by simp) (by simp; rfl) ?_
                refine ko [2] 2 (by simp; rfl) ?_
                refine tops_nil ?_
                cases hvv12
                exact ⟨_, rfl, wk (by simp [weak_iff])⟩
              · rw [if_neg (by rw [c15]; decide)] at hvv12
                refine ko [2] 3 (by simp; rfl) ?_
                refine tops_nil ?_
                cases hvv12
                exact ⟨_, rfl, wk (by simp [weak_iff])⟩
          · rw [if_neg (by rw [c12]; decide)] at h0
            refine tr_skip ?_
            refine kc ?_
            refine ko [4, 5, 12, 13, 95, 98] 4 (by simp; rfl) ?_
            replace h0 := bnd h0; obtain ⟨y14, hy14, h0⟩ := h0
            refine kcall [4, 5, 12, 13, 99] [26] (make_Tape_Next_ok hy14) rfl rfl rfl Try.call38 (by simp) (by simp; rfl) ?_
            refine ko [4, 5, 12, 13, 15] 1 (by simp; rfl) ?_
            refine tops_nil ?_
            refine kd [[], [], [], [], [2, 3], [0, 1, 4], [5], [6], [6], [7], [8]] [] [] none [] 11 fol (by decide +kernel) (by simp) ?_
            replace h0 := bnd h0; obtain ⟨_, p6, h0⟩ := h0
            replace p6 := ck_some p6
            have p6' := p6; try simp at p6'
            refine dr_go 0 2 rfl (by simp (maxSteps := 1000000) [p6, p6']; rfl) ?_
            refine dr_go 2 2 rfl (by simp (maxSteps := 1000000) [p6, p6']; rfl) ?_
            refine dr_go 4 1 rfl (by simp (maxSteps := 1000000) [p6, p6']; rfl) ?_
            replace h0 := bnd h0; obtain ⟨y15, hy15, h0⟩ := h0
            refine dr_call 5 [] (steps_Run_ok hy15) rfl rfl rfl rfl rfl Try.call50 (by simp) ?_
            refine dr_go 6 2 rfl (by simp (maxSteps := 1000000); rfl) ?_
            refine dr_go 8 2 rfl (by simp (maxSteps := 1000000); rfl) ?_
            refine dr_go 10 1 rfl (by simp (maxSteps := 1000000); rfl) ?_
            refine dr_end rfl (tops_nil ?_)
            refine tr_seq ?_
            replace h0 := bnd h0; obtain ⟨v16, hvv16, h0⟩ := h0
            refine sjv (fun v16_ : Bool => ({ nt := 153, env := [(4, .ptr 4 0), (5, .ptr 5 0), (12, .d (.slice (rowsF api_Step_row y10.1))), (13, .d (.slice (rowsF api_Rotation_row y11.1))), (15, .d (.int .i64 y14.1)), (16, .d (.slice (rowsF api_Rotation_row y15.1))), (123, .d (.bool v16_))], box := [(4, [.d (.int .i64 y2.1.Slots), .d (.slice (rowsF api_Consumer_row y2.1.Consumers))]), (5, [.d (.int .i64 y3.1.Known), .d (.int .i64 y3.1.Valid), .d (.slice (rowsF api_Unit_row y3.1.Units))])], vec := [] } : St)) (fun v16_ => v16 = v16_) (fun v16_ e => ?_) ?_
            · subst e
              refine tr_cond (b := v16) (by simp) (fun c20 => ?_) (fun c20 => ?_)
              · rw [if_pos c20] at h0
                refine kr [2] (by simp; rfl) ?_
                cases h0
                exact tr_ret ⟨[], by simp, rfl, by simp⟩
              · rw [if_neg (by rw [c20]; decide)] at h0
                refine tr_skip ?_
                refine sjv (fun v17 : Int × Int × (List api_Unit) => ({ nt := 153, env := [(4, .ptr 4 0), (5, .ptr 5 0), (12, .d (.slice (rowsF api_Step_row y10.1))), (13, .d (.slice (rowsF api_Rotation_row y11.1))), (15, .d (.int .i64 y14.1)), (16, .d (.slice (rowsF api_Rotation_row y15.1)))], box := [(4, [.d (.int .i64 y2.1.Slots), .d (.slice (rowsF api_Consumer_row y2.1.Consumers))]), (5, [.d (.int .i64 v17.1), .d (.int .i64 v17.2.1), .d (.slice (rowsF api_Unit_row v17.2.2))])], vec := [] } : St)) (fun v17 => law33_StepsChoices_j2 y14 y10 y2 y15 y11 v17 = some r) (fun v17 h0 => ?_) ?_
                · unfold law33_StepsChoices_j2 at h0
                  refine kd [[], [], [], [], [2, 3], [0, 1, 4], [5], [6], [6], [7], [8]] [] [] none [] 11 fol (by decide +kernel) (by simp) ?_
                  replace h0 := bnd h0; obtain ⟨_, p9, h0⟩ := h0
                  replace p9 := ck_some p9
                  have p9' := p9; try simp at p9'
                  refine dr_go 0 2 rfl (by simp (maxSteps := 1000000) [p9, p9']; rfl) ?_
                  refine dr_go 2 2 rfl (by simp (maxSteps := 1000000) [p9, p9']; rfl) ?_
                  refine dr_go 4 1 rfl (by simp (maxSteps := 1000000) [p9, p9']; rfl) ?_
                  replace h0 := bnd h0; obtain ⟨y18, hy18, h0⟩ := h0
                  refine dr_call 5 [] (steps_Run_ok hy18) rfl rfl rfl rfl rfl Try.call50 (by simp) ?_
                  refine dr_go 6 2 rfl (by simp (maxSteps := 1000000); rfl) ?_
                  refine dr_go 8 2 rfl (by simp (maxSteps := 1000000); rfl) ?_
                  refine dr_go 10 1 rfl (by simp (maxSteps := 1000000); rfl) ?_
                  refine dr_end rfl (tops_nil ?_)
                  replace h0 := bnd h0; obtain ⟨v19, hvv19, h0⟩ := h0
                  refine sjv (fun v19_ : Bool => ({ nt := 153, env := [(2, .d (.bool v19_))], box := [], vec := [] } : St)) (fun v19_ => v19 = v19_) (fun v19_ e => ?_) ?_
                  · subst e
                    cases h0
                    exact tr_ret ⟨[], by simp, rfl, by simp⟩
                  · refine kc1 ?_
                    refine ko [13, 16, 18, 142] 3 (by simp; rfl) ?_
                    refine tops_split 142 (y18.2 == 0) (by simp) (fun c26 => ?_) (fun c26 => ?_)
                    · rw [if_pos c26] at hvv19
                      replace hvv19 := bnd hvv19; obtain ⟨_, p14, hvv19⟩ := hvv19
                      replace p14 := ck_some p14
                      have p14' := p14; try simp at p14'
                      replace hvv19 := bnd hvv19; obtain ⟨_, p15, hvv19⟩ := hvv19
                      replace p15 := ck_some p15
                      have p15' := p15; try simp at p15'
                      refine ko [142, 146, 147] 5 (by simp [p14, p15, p14', p15']; rfl) ?_
                      refine tops_wk (wk_frz 146) ?_
                      replace hvv19 := bnd hvv19; obtain ⟨y20, hy20, hvv19⟩ := hvv19
                      refine kcall [142, 148] [] (ref32_All_ok hy20) rfl rfl rfl Try.call51 (by simp) (by simp; rfl) ?_
                      refine ko [150] 2 (by simp; rfl) ?_
                      refine tops_split 150 y20 (by simp) (fun c27 => ?_) (fun c27 => ?_)
                      · rw [if_pos c27] at hvv19
                        replace hvv19 := bnd hvv19; obtain ⟨y21, hy21, hvv19⟩ := hvv19
                        refine kcall [150, 151] [] (law33_awake_ok hy21) rfl rfl rfl Try.call43 (by simp) (by simp; rfl) ?_
                        refine ko [2] 2 (by simp; rfl) ?_
                        refine tops_nil ?_
                        cases hvv19
                        exact ⟨_, rfl, wk (by simp [weak_iff])⟩
                      · rw [if_neg (by rw [c27]; decide)] at hvv19
                        refine ko [2] 3 (by simp; rfl) ?_
                        refine tops_nil ?_
                        cases hvv19
                        exact ⟨_, rfl, wk (by simp [weak_iff])⟩
                    · rw [if_neg (by rw [c26]; decide)] at hvv19
                      refine kskip 6 [] (by kernel_rfl) ?_
                      refine ko [2] 5 (by simp; rfl) ?_
                      refine tops_nil ?_
                      cases hvv19
                      exact ⟨_, rfl, wk (by simp [weak_iff])⟩
                · refine kr [4, 5, 12, 13, 15, 16, 125] (by simp; rfl) ?_
                  refine tr_cond (b := (decide (0 < y14.1))) (by simp) (fun c28 => ?_) (fun c28 => ?_)
                  · rw [if_pos c28] at h0
                    replace h0 := bnd h0; obtain ⟨x22, p16, h0⟩ := h0
                    replace p16 := idx_some p16
                    have p16' := p16; try simp at p16'
                    refine lr (by simp [p16, p16']; rfl) ?_
                    exact ⟨_, h0, wk (by simp [weak_iff])⟩
                  · rw [if_neg (by rw [c28]; decide)] at h0
                    refine tr_skip ?_
                    exact ⟨_, h0, wk (by simp [weak_iff])⟩
            · refine kc1 ?_
              refine ko [4, 5, 12, 13, 15, 16, 111] 3 (by simp; rfl) ?_
              refine tops_split 111 (y15.2 != 0) (by simp) (fun c29 => ?_) (fun c29 => ?_)
              · rw [c29] at hvv16
                refine kskip 4 [] (by kernel_rfl) ?_
                refine ko [4, 5, 12, 13, 15, 16, 117] 2 (by simp; rfl) ?_
                refine kskip 5 [] (by kernel_rfl) ?_
                refine ko [4, 5, 12, 13, 15, 16, 123] 1 (by simp; rfl) ?_
                refine tops_nil ?_
                cases hvv16
                exact ⟨_, rfl, wk (by simp [weak_iff])⟩
              · rw [c29] at hvv16
                refine ko [4, 5, 12, 13, 15, 16, 117] 6 (by simp; rfl) ?_
                refine tops_split 117 (((y15.1).length : Int) != y14.1) (by simp) (fun c30 => ?_) (fun c30 => ?_)
                · rw [c30] at hvv16
                  refine kskip 5 [] (by kernel_rfl) ?_
                  refine ko [4, 5, 12, 13, 15, 16, 123] 1 (by simp; rfl) ?_
                  refine tops_nil ?_
                  cases hvv16
                  exact ⟨_, rfl, wk (by simp [weak_iff])⟩
                · rw [c30] at hvv16
                  refine ko [4, 5, 12, 13, 15, 16, 123] 6 (by simp; rfl) ?_
                  refine tops_nil ?_
                  cases hvv16
                  exact ⟨_, rfl, wk (by simp [weak_iff])⟩
      · refine tr_block (tr_iter (fun s23 : Bool × Int => ({ nt := 153, env := [(3, .ptr 26 0), (4, .ptr 4 0), (5, .ptr 5 0), (8, .ptr 8 0), (9, .d (.bool s23.1)), (58, .d (.slice (rowsF api_Step_row y7))), (59, .d (.int .i64 ((y7).length : Int))), (60, .d (.int .i64 s23.2))], box := [(4, [.d (.int .i64 y2.1.Slots), .d (.slice (rowsF api_Consumer_row y2.1.Consumers))]), (5, [.d (.int .i64 y3.1.Known), .d (.int .i64 y3.1.Valid), .d (.slice (rowsF api_Unit_row y3.1.Units))]), (8, [.d (.int .i64 y6.1.Kind), .d (.int .i64 y6.1.Unit)]), (26, [.d (.slice (rowsF (iRow .i64) y6.2.L)), .d (.int .i64 y6.2.at_)])], vec := [] } : St)) hI2 (wk (by simp [weak_iff])) fun G2 s23 o2 h2 hg2 he2 => ?_)
        unfold law33_StepsChoices_l1 at h2
        refine kr [3, 4, 5, 8, 9, 58, 59, 60, 61] (by simp; rfl) ?_
        refine tr_seq ?_
        refine tr_cond (b := (decide (s23.2 < ((y7).length : Int)))) (by simp) (fun c31 => ?_) (fun c31 => ?_)
        · rw [if_pos c31] at h2
          refine tr_skip ?_
          refine tr_seq ?_
          refine tr_block ?_
          replace h2 := bnd h2; obtain ⟨x24, p17, h2⟩ := h2
          replace p17 := idx_some p17
          have p17' := p17; try simp at p17'
          refine kr [3, 4, 5, 8, 9, 11, 58, 59, 60] (by simp [p17, p17']; rfl) ?_
          replace h2 := bnd h2; obtain ⟨v25, hvv25, h2⟩ := h2
          refine tjv (fun v25_ : Bool => ({ nt := 153, env := [(3, .ptr 26 0), (4, .ptr 4 0), (5, .ptr 5 0), (8, .ptr 8 0), (9, .d (.bool v25_)), (58, .d (.slice (rowsF api_Step_row y7))), (59, .d (.int .i64 ((y7).length : Int))), (60, .d (.int .i64 s23.2))], box := [(4, [.d (.int .i64 y2.1.Slots), .d (.slice (rowsF api_Consumer_row y2.1.Consumers))]), (5, [.d (.int .i64 y3.1.Known), .d (.int .i64 y3.1.Valid), .d (.slice (rowsF api_Unit_row y3.1.Units))]), (8, [.d (.int .i64 y6.1.Kind), .d (.int .i64 y6.1.Unit)]), (26, [.d (.slice (rowsF (iRow .i64) y6.2.L)), .d (.int .i64 y6.2.at_)])], vec := [] } : St)) (fun v25_ => v25 = v25_) (fun v25_ e _ Wv25 => ?_) ?_
          · subst e
            refine tr_wk Wv25 ?_
            refine lr (by simp; rfl) ?_
            exact ⟨_, hg2 _ (Option.some.inj h2), wk (by simp [weak_iff])⟩
          · refine kc1 ?_
            refine ko [3, 4, 5, 8, 11, 58, 59, 60, 65] 2 (by simp; rfl) ?_
            refine tops_split 65 s23.1 (by simp) (fun c34 => ?_) (fun c34 => ?_)
            · rw [c34] at hvv25
              refine kskip 3 [] (by kernel_rfl) ?_
              refine ko [3, 4, 5, 8, 9, 58, 59, 60] 2 (by simp; rfl) ?_
              refine tops_nil ?_
              cases hvv25
              exact ⟨_, rfl, wk (by simp [weak_iff])⟩
            · rw [c34] at hvv25
              refine ko [3, 4, 5, 8, 9, 58, 59, 60, 66, 67, 68] 5 (by simp; rfl) ?_
              refine tops_nil ?_
              cases hvv25
              exact ⟨_, rfl, wk (by simp [weak_iff])⟩
        · rw [if_neg (by rw [c31]; decide)] at h2
          refine tr_exit ?_
          exact ⟨_, he2 _ (Option.some.inj h2), wk (by simp [weak_iff])⟩
    · refine tr_block (tr_iter (fun s26 : Int => ({ nt := 153, env := [(3, .ptr 26 0), (4, .ptr 4 0), (5, .ptr 5 0), (34, .d (.slice (rowsF api_Step_row y4))), (35, .d (.int .i64 ((y4).length : Int))), (36, .d (.int .i64 s26))], box := [(4, [.d (.int .i64 y2.1.Slots), .d (.slice (rowsF api_Consumer_row y2.1.Consumers))]), (5, [.d (.int .i64 y3.1.Known), .d (.int .i64 y3.1.Valid), .d (.slice (rowsF api_Unit_row y3.1.Units))]), (26, [.d (.slice (rowsF (iRow .i64) y3.2.L)), .d (.int .i64 y3.2.at_)])], vec := [] } : St)) hI1 (wk (by simp [weak_iff])) fun G2 s26 o2 h2 hg2 he2 => ?_)
      unfold law33_StepsChoices_l0 at h2
      refine kr [3, 4, 5, 34, 35, 36, 37] (by simp; rfl) ?_
      refine tr_seq ?_
      refine tr_cond (b := (decide (s26 < ((y4).length : Int)))) (by simp) (fun c35 => ?_) (fun c35 => ?_)
      · rw [if_pos c35] at h2
        refine tr_skip ?_
        refine tr_seq ?_
        refine tr_block ?_
        replace h2 := bnd h2; obtain ⟨x27, p18, h2⟩ := h2
        replace p18 := idx_some p18
        have p18' := p18; try simp at p18'
        refine kr [3, 4, 5, 7, 34, 35, 36] (by simp [p18, p18']; rfl) ?_
        replace h2 := bnd h2; obtain ⟨v28, hvv28, h2⟩ := h2
        refine sjv (fun v28_ : Bool => ({ nt := 153, env := [(3, .ptr 26 0), (4, .ptr 4 0), (5, .ptr 5 0), (34, .d (.slice (rowsF api_Step_row y4))), (35, .d (.int .i64 ((y4).length : Int))), (36, .d (.int .i64 s26)), (51, .d (.bool v28_))], box := [(4, [.d (.int .i64 y2.1.Slots), .d (.slice (rowsF api_Consumer_row y2.1.Consumers))]), (5, [.d (.int .i64 y3.1.Known), .d (.int .i64 y3.1.Valid), .d (.slice (rowsF api_Unit_row y3.1.Units))]), (26, [.d (.slice (rowsF (iRow .i64) y3.2.L)), .d (.int .i64 y3.2.at_)])], vec := [] } : St)) (fun v28_ => v28 = v28_) (fun v28_ e => ?_) ?_
        · subst e
          refine tr_cond (b := v28) (by simp) (fun c38 => ?_) (fun c38 => ?_)
          · rw [if_pos c38] at h2
            refine kr [2] (by simp; rfl) ?_
            have k1 := he2 _ (Option.some.inj h2)
            subst k1
            dsimp only at h0
            cases h0
            exact tr_ret ⟨[], by simp, rfl, by simp⟩
          · rw [if_neg (by rw [c38]; decide)] at h2
            refine tr_skip ?_
            refine lr (by simp; rfl) ?_
            exact ⟨_, hg2 _ (Option.some.inj h2), wk (by simp [weak_iff])⟩
        · refine kc1 ?_
          refine ko [3, 4, 5, 7, 34, 35, 36, 40, 41, 42] 3 (by simp; rfl) ?_
          replace hvv28 := bnd hvv28; obtain ⟨y29, hy29, hvv28⟩ := hvv28
          refine kcall [3, 4, 5, 7, 34, 35, 36, 43] [] (steps_Safe_ok hy29) rfl rfl rfl Try.call48 (by simp) (by simp; rfl) ?_
          refine ko [3, 4, 5, 7, 34, 35, 36, 45] 2 (by simp; rfl) ?_
          refine tops_split 45 (!y29) (by simp) (fun c39 => ?_) (fun c39 => ?_)
          · rw [if_pos c39] at hvv28
            refine kskip 5 [] (by kernel_rfl) ?_
            refine ko [3, 4, 5, 34, 35, 36, 51] 1 (by simp; rfl) ?_
            refine tops_nil ?_
            cases hvv28
            exact ⟨_, rfl, wk (by simp [weak_iff])⟩
          · rw [if_neg (by rw [c39]; decide)] at hvv28
            refine ko [3, 4, 5, 34, 35, 36, 45, 46, 47, 48] 3 (by simp; rfl) ?_
            replace hvv28 := bnd hvv28; obtain ⟨y30, hy30, hvv28⟩ := hvv28
            refine kcall [3, 4, 5, 34, 35, 36, 45, 46, 47, 48, 49] [] (steps_Possible_ok hy30) rfl rfl rfl Try.call46 (by simp) (by simp; rfl) ?_
            refine ko [3, 4, 5, 34, 35, 36, 46, 47, 48, 49, 50, 51] 2 (by simp; rfl) ?_
            refine tops_nil ?_
            cases hvv28
            exact ⟨_, rfl, wk (by simp [weak_iff])⟩
      · rw [if_neg (by rw [c35]; decide)] at h2
        refine tr_exit ?_
        exact ⟨_, he2 _ (Option.some.inj h2), wk (by simp [weak_iff])⟩
end Go.Vl
