/- Walks: each function of the given program computes what its mirror says. Conditions: none. -/
import Derived.Test.YtclmnpkhopioiaaRw2
set_option linter.unusedSimpArgs false
set_option linter.unusedVariables false
namespace Go.Vl
open Go Go.Proofs
set_option maxHeartbeats 1000000 in
theorem law37_RunnerTries_ok {a0 : List Int} {r : Bool} (h0 : law37_RunnerTries a0 = some r) : FnOK Try.prog 12 [] [.d (.slice (rowsF (iRow .i64) a0))] (.d (.bool r)) [] := by
  unfold law37_RunnerTries at h0
  refine fn_ok (nt := 119) (rs := [.tmp 2]) Try.func12 rfl Try.ntmps12 rfl (by simp) (by decide) rfl fun K => ?_
  refine kr [0] (by simp; rfl) ?_
  refine tr_seq ?_
  refine kr [0, 19] (by simp; rfl) ?_
  refine tr_cond (b := (decide (300 < ((a0).length : Int)))) (by simp) (fun c1 => ?_) (fun c1 => ?_)
  · rw [if_pos c1] at h0
    refine kc ?_
    replace h0 := bnd h0; obtain ⟨y1, hy1, h0⟩ := h0
    refine kcall [20] [] (law37_awake_ok hy1) rfl rfl rfl Try.call61 (by simp) (by simp; rfl) ?_
    refine ko [2] 1 (by simp; rfl) ?_
    refine tops_nil ?_
    cases h0
    exact tr_ret ⟨[], by simp, rfl, by simp⟩
  · rw [if_neg (by rw [c1]; decide)] at h0
    refine tr_skip ?_
    refine kr [3] (by simp; rfl) ?_
    refine kc ?_
    refine ko [3, 24] 1 (by simp; rfl) ?_
    replace h0 := bnd h0; obtain ⟨y2, hy2, h0⟩ := h0
    refine kcall [3, 25] [23] (make_Fleet_ok hy2) rfl rfl rfl Try.call18 (by simp) (by simp; rfl) ?_
    refine ko [3, 4] 2 (by simp; rfl) ?_
    refine tops_nil ?_
    refine kc ?_
    refine ko [3, 4, 26, 27] 2 (by simp; rfl) ?_
    replace h0 := bnd h0; obtain ⟨y3, hy3, h0⟩ := h0
    refine kcall [3, 4, 28] [23] (make_State_ok hy3) rfl rfl rfl Try.call19 (by simp) (by simp; rfl) ?_
    refine ko [3, 4, 5] 2 (by simp; rfl) ?_
    refine tops_nil ?_
    refine kc ?_
    refine ko [3, 4, 5, 29, 30, 31] 3 (by simp; rfl) ?_
    replace h0 := bnd h0; obtain ⟨y4, hy4, h0⟩ := h0
    refine kcall [3, 4, 5, 32] [23] (make_SafeSteps_ok hy4) rfl rfl rfl Try.call52 (by simp) (by simp; rfl) ?_
    refine ko [3, 4, 5, 6] 1 (by simp; rfl) ?_
    refine tops_nil ?_
    refine kd [[], [], [], [], [3], [0, 1, 2, 4], [5], [6], [6], [6], [], [7, 10], [8, 10], [9, 10]] [4, 10, 11] [(7, [10, 11]), (23, [4])] none [] 14 fol (by decide +kernel) (by simp) ?_
    refine dr_go 0 2 rfl (by simp (maxSteps := 1000000); rfl) ?_
    refine dr_go 2 2 rfl (by simp (maxSteps := 1000000); rfl) ?_
    replace h0 := bnd h0; obtain ⟨y5, hy5, h0⟩ := h0
    refine dr_call 4 [23] (make_Outcomes_ok hy5) rfl rfl rfl rfl rfl Try.call63 (by simp) ?_
    replace h0 := bnd h0; obtain ⟨y6, hy6, h0⟩ := h0
    refine dr_call 5 [] (runner_Run_ok hy6) rfl rfl rfl rfl rfl Try.call62 (by simp) ?_
    refine dr_go 6 2 rfl (by simp (maxSteps := 1000000); rfl) ?_
    refine dr_go 8 2 rfl (by simp (maxSteps := 1000000); rfl) ?_
    refine dr_go 10 2 rfl (by simp (maxSteps := 1000000); rfl) ?_
    refine dr_go 12 2 rfl (by simp (maxSteps := 1000000); rfl) ?_
    refine dr_end rfl (tops_nil ?_)
    refine kr [4, 5, 6, 8, 9, 10, 11] (by simp; rfl) ?_
    refine tr_seq ?_
    refine kr [4, 5, 6, 9, 10, 11, 43, 44, 45] (by simp; rfl) ?_
    replace h0 := bnd h0; obtain ⟨e1, hI1, h0⟩ := h0
    refine tjv (fun v7 : Int × Int => ({ nt := 119, env := [(4, .ptr 4 0), (5, .ptr 5 0), (6, .d (.slice (rowsF api_Step_row y4.1))), (9, .d (.int .i64 y6.2.2)), (10, .d (.int .i64 v7.1)), (11, .d (.int .i64 v7.2))], box := [(4, [.d (.int .i64 y2.1.Slots), .d (.slice (rowsF api_Consumer_row y2.1.Consumers))]), (5, [.d (.int .i64 y3.1.Known), .d (.int .i64 y3.1.Valid), .d (.slice (rowsF api_Unit_row y3.1.Units))])], vec := [] } : St)) (fun v7 => .inl v7 = e1) (fun v7 hI1e _ W1 => ?_) ?_
    · subst hI1e
      dsimp only at h0
      refine tr_wk W1 ?_
      refine tr_seq ?_
      replace h0 := bnd h0; obtain ⟨v8, hvv8, h0⟩ := h0
      refine sjv (fun v8_ : Bool => ({ nt := 119, env := [(4, .ptr 4 0), (5, .ptr 5 0), (6, .d (.slice (rowsF api_Step_row y4.1))), (98, .d (.bool v8_))], box := [(4, [.d (.int .i64 y2.1.Slots), .d (.slice (rowsF api_Consumer_row y2.1.Consumers))]), (5, [.d (.int .i64 y3.1.Known), .d (.int .i64 y3.1.Valid), .d (.slice (rowsF api_Unit_row y3.1.Units))])], vec := [] } : St)) (fun v8_ => v8 = v8_) (fun v8_ e => ?_) ?_
      · subst e
        refine tr_cond (b := v8) (by simp) (fun c36 => ?_) (fun c36 => ?_)
        · rw [if_pos c36] at h0
          refine kr [2] (by simp; rfl) ?_
          cases h0
          exact tr_ret ⟨[], by simp, rfl, by simp⟩
        · rw [if_neg (by rw [c36]; decide)] at h0
          refine tr_skip ?_
          refine kc ?_
          refine ko [6, 100, 101, 102] 3 (by simp; rfl) ?_
          replace h0 := bnd h0; obtain ⟨y9, hy9, h0⟩ := h0
          refine kcall [6, 103] [] (runner_Run_ok hy9) rfl rfl rfl Try.call62 (by simp) (by simp; rfl) ?_
          refine ko [6, 15, 16] 8 (by simp; rfl) ?_
          refine tops_nil ?_
          replace h0 := bnd h0; obtain ⟨v10, hvv10, h0⟩ := h0
          refine sjv (fun v10_ : Bool => ({ nt := 119, env := [(2, .d (.bool v10_))], box := [], vec := [] } : St)) (fun v10_ => v10 = v10_) (fun v10_ e => ?_) ?_
          · subst e
            cases h0
            exact tr_ret ⟨[], by simp, rfl, by simp⟩
          · refine kc1 ?_
            refine ko [6, 15, 109] 3 (by simp; rfl) ?_
            refine tops_split 109 (y9.2.2 == 0) (by simp) (fun c41 => ?_) (fun c41 => ?_)
            · rw [if_pos c41] at hvv10
              refine ko [116] 7 (by simp; rfl) ?_
              refine tops_split 116 (((y9.2.1).length : Int) == ((y4.1).length : Int)) (by simp) (fun c42 => ?_) (fun c42 => ?_)
              · rw [if_pos c42] at hvv10
                replace hvv10 := bnd hvv10; obtain ⟨y11, hy11, hvv10⟩ := hvv10
                refine kcall [116, 117] [] (law37_awake_ok hy11) rfl rfl rfl Try.call61 (by simp) (by simp; rfl) ?_
                refine ko [2] 2 (by simp; rfl) ?_
                refine tops_nil ?_
                cases hvv10
                exact ⟨_, rfl, wk (by simp [weak_iff])⟩
              · rw [if_neg (by rw [c42]; decide)] at hvv10
                refine ko [2] 3 (by simp; rfl) ?_
                refine tops_nil ?_
                cases hvv10
                exact ⟨_, rfl, wk (by simp [weak_iff])⟩
            · rw [if_neg (by rw [c41]; decide)] at hvv10
              refine kskip 5 [] (by kernel_rfl) ?_
              refine ko [2] 5 (by simp; rfl) ?_
              refine tops_nil ?_
              cases hvv10
              exact ⟨_, rfl, wk (by simp [weak_iff])⟩
      · refine kc1 ?_
        refine ko [4, 5, 6, 9, 10, 11, 73] 3 (by simp; rfl) ?_
        refine tops_split 73 (y6.2.2 == 0) (by simp) (fun c43 => ?_) (fun c43 => ?_)
        · rw [c43] at hvv8
          refine ko [4, 5, 6, 9, 11, 73, 78] 5 (by simp; rfl) ?_
          refine tops_split 78 (v7.1 != ((y4.1).length : Int)) (by simp) (fun c44 => ?_) (fun c44 => ?_)
          · rw [c44] at hvv8
            refine ko [4, 5, 6, 9, 11, 83] 5 (by simp; rfl) ?_
            refine kskip 6 [] (by kernel_rfl) ?_
            refine ko [4, 5, 6, 9, 91] 2 (by simp; rfl) ?_
            refine kskip 6 [] (by kernel_rfl) ?_
            refine ko [4, 5, 6, 98] 1 (by simp; rfl) ?_
            refine tops_nil ?_
            cases hvv8
            exact ⟨_, rfl, wk (by simp [weak_iff])⟩
          · rw [c44] at hvv8
            refine ko [4, 5, 6, 9, 11, 83] 5 (by simp; rfl) ?_
            refine tops_split 83 (v7.2 != 0) (by simp) (fun c45 => ?_) (fun c45 => ?_)
            · rw [c45] at hvv8
              refine kskip 6 [] (by kernel_rfl) ?_
              refine ko [4, 5, 6, 9, 91] 2 (by simp; rfl) ?_
              refine kskip 6 [] (by kernel_rfl) ?_
              refine ko [4, 5, 6, 98] 1 (by simp; rfl) ?_
              refine tops_nil ?_
              cases hvv8
              exact ⟨_, rfl, wk (by simp [weak_iff])⟩
            · rw [c45] at hvv8
              refine ko [4, 5, 6, 9, 11, 83, 86] 3 (by simp; rfl) ?_
              refine tops_split 86 (y6.2.2 == 40) (by simp) (fun c46 => ?_) (fun c46 => ?_)
              · rw [c46] at hvv8
                refine ko [4, 5, 6, 9, 91] 5 (by simp; rfl) ?_
                refine tops_split 91 (v7.2 != 6) (by simp) (fun c47 => ?_) (fun c47 => ?_)
                · rw [c47] at hvv8
                  refine kskip 6 [] (by kernel_rfl) ?_
                  refine ko [4, 5, 6, 98] 1 (by simp; rfl) ?_
                  refine tops_nil ?_
                  cases hvv8
                  exact ⟨_, rfl, wk (by simp [weak_iff])⟩
                · rw [c47] at hvv8
                  refine ko [4, 5, 6, 9, 91, 94] 3 (by simp; rfl) ?_
                  refine tops_split 94 (y6.2.2 != 0) (by simp) (fun c48 => ?_) (fun c48 => ?_)
                  · rw [c48] at hvv8
                    refine ko [4, 5, 6, 98] 4 (by simp; rfl) ?_
                    refine tops_nil ?_
                    cases hvv8
                    exact ⟨_, rfl, wk (by simp [weak_iff])⟩
                  · rw [c48] at hvv8
                    refine ko [4, 5, 6, 98] 4 (by simp; rfl) ?_
                    refine tops_nil ?_
                    cases hvv8
                    exact ⟨_, rfl, wk (by simp [weak_iff])⟩
              · rw [c46] at hvv8
                refine ko [4, 5, 6, 9, 91, 94] 8 (by simp; rfl) ?_
                refine tops_split 94 (y6.2.2 != 0) (by simp) (fun c49 => ?_) (fun c49 => ?_)
                · rw [c49] at hvv8
                  refine ko [4, 5, 6, 98] 4 (by simp; rfl) ?_
                  refine tops_nil ?_
                  cases hvv8
                  exact ⟨_, rfl, wk (by simp [weak_iff])⟩
                · rw [c49] at hvv8
                  refine ko [4, 5, 6, 98] 4 (by simp; rfl) ?_
                  refine tops_nil ?_
                  cases hvv8
                  exact ⟨_, rfl, wk (by simp [weak_iff])⟩
        · rw [c43] at hvv8
          refine kskip 8 [] (by kernel_rfl) ?_
          refine ko [4, 5, 6, 9, 11, 83, 86] 5 (by simp; rfl) ?_
          refine tops_split 86 (y6.2.2 == 40) (by simp) (fun c50 => ?_) (fun c50 => ?_)
          · rw [c50] at hvv8
            refine ko [4, 5, 6, 9, 91] 5 (by simp; rfl) ?_
            refine tops_split 91 (v7.2 != 6) (by simp) (fun c51 => ?_) (fun c51 => ?_)
            · rw [c51] at hvv8
              refine kskip 6 [] (by kernel_rfl) ?_
              refine ko [4, 5, 6, 98] 1 (by simp; rfl) ?_
              refine tops_nil ?_
              cases hvv8
              exact ⟨_, rfl, wk (by simp [weak_iff])⟩
            · rw [c51] at hvv8
              refine ko [4, 5, 6, 9, 91, 94] 3 (by simp; rfl) ?_
              refine tops_split 94 (y6.2.2 != 0) (by simp) (fun c52 => ?_) (fun c52 => ?_)
              · rw [c52] at hvv8
                refine ko [4, 5, 6, 98] 4 (by simp; rfl) ?_
                refine tops_nil ?_
                cases hvv8
                exact ⟨_, rfl, wk (by simp [weak_iff])⟩
              · rw [c52] at hvv8
                refine ko [4, 5, 6, 98] 4 (by simp; rfl) ?_
                refine tops_nil ?_
                cases hvv8
                exact ⟨_, rfl, wk (by simp [weak_iff])⟩
          · rw [c50] at hvv8
            refine ko [4, 5, 6, 9, 91, 94] 8 (by simp; rfl) ?_
            refine tops_split 94 (y6.2.2 != 0) (by simp) (fun c53 => ?_) (fun c53 => ?_)
            · rw [c53] at hvv8
              refine ko [4, 5, 6, 98] 4 (by simp; rfl) ?_
              refine tops_nil ?_
              cases hvv8
              exact ⟨_, rfl, wk (by simp [weak_iff])⟩
            · rw [c53] at hvv8
              refine ko [4, 5, 6, 98] 4 (by simp; rfl) ?_
              refine tops_nil ?_
              cases hvv8
              exact ⟨_, rfl, wk (by simp [weak_iff])⟩
    · refine tr_block (tr_iter (fun s12 : Int × Int × Int => ({ nt := 119, env := [(4, .ptr 4 0), (5, .ptr 5 0), (6, .d (.slice (rowsF api_Step_row y4.1))), (9, .d (.int .i64 y6.2.2)), (10, .d (.int .i64 s12.1)), (11, .d (.int .i64 s12.2.1)), (43, .d (.slice (rowsF api_Attempt_row y6.2.1))), (44, .d (.int .i64 ((y6.2.1).length : Int))), (45, .d (.int .i64 s12.2.2))], box := [(4, [.d (.int .i64 y2.1.Slots), .d (.slice (rowsF api_Consumer_row y2.1.Consumers))]), (5, [.d (.int .i64 y3.1.Known), .d (.int .i64 y3.1.Valid), .d (.slice (rowsF api_Unit_row y3.1.Units))])], vec := [] } : St)) hI1 (wk (by simp [weak_iff])) fun G1 s12 o1 h1 hg1 he1 => ?_)
      unfold law37_RunnerTries_l0 at h1
      refine kr [4, 5, 6, 9, 10, 11, 43, 44, 45, 46] (by simp; rfl) ?_
      refine tr_seq ?_
      refine tr_cond (b := (decide (s12.2.2 < ((y6.2.1).length : Int)))) (by simp) (fun c54 => ?_) (fun c54 => ?_)
      · rw [if_pos c54] at h1
        refine tr_skip ?_
        refine tr_seq ?_
        refine tr_block ?_
        replace h1 := bnd h1; obtain ⟨x13, p7, h1⟩ := h1
        replace p7 := idx_some p7
        have p7' := p7; try simp at p7'
        refine kr [4, 5, 6, 9, 10, 11, 13, 43, 44, 45] (by simp [p7, p7']; rfl) ?_
        refine tr_seq ?_
        replace h1 := bnd h1; obtain ⟨v14, hvv14, h1⟩ := h1
        refine sjv (fun v14_ : Bool => ({ nt := 119, env := [(4, .ptr 4 0), (5, .ptr 5 0), (6, .d (.slice (rowsF api_Step_row y4.1))), (9, .d (.int .i64 y6.2.2)), (10, .d (.int .i64 s12.1)), (11, .d (.int .i64 s12.2.1)), (13, .ptr 13 0), (43, .d (.slice (rowsF api_Attempt_row y6.2.1))), (44, .d (.int .i64 ((y6.2.1).length : Int))), (45, .d (.int .i64 s12.2.2)), (61, .d (.bool v14_))], box := [(4, [.d (.int .i64 y2.1.Slots), .d (.slice (rowsF api_Consumer_row y2.1.Consumers))]), (5, [.d (.int .i64 y3.1.Known), .d (.int .i64 y3.1.Valid), .d (.slice (rowsF api_Unit_row y3.1.Units))]), (13, [.d (.int .i64 x13.Step.Kind), .d (.int .i64 x13.Step.Unit), .d (.int .i64 x13.Outcome), .d (.bool x13.There)])], vec := [] } : St)) (fun v14_ => v14 = v14_) (fun v14_ e => ?_) ?_
        · subst e
          refine tr_cond (b := v14) (by simp) (fun c59 => ?_) (fun c59 => ?_)
          · rw [if_pos c59] at h1
            refine kr [2] (by simp; rfl) ?_
            have k1 := he1 _ (Option.some.inj h1)
            subst k1
            dsimp only at h0
            cases h0
            exact tr_ret ⟨[], by simp, rfl, by simp⟩
          · rw [if_neg (by rw [c59]; decide)] at h1
            refine tr_skip ?_
            refine kr [4, 5, 6, 9, 10, 11, 13, 43, 44, 45] (by simp; rfl) ?_
            refine tr_seq ?_
            refine kr [4, 5, 6, 9, 10, 11, 13, 43, 44, 45, 65] (by simp; rfl) ?_
            refine tr_cond (b := (decide (6 < (IntKind.i64.wrap (s12.2.1 + 1))))) (by simp) (fun c60 => ?_) (fun c60 => ?_)
            · rw [if_pos c60] at h1
              refine kr [2] (by simp; rfl) ?_
              have k1 := he1 _ (Option.some.inj h1)
              subst k1
              dsimp only at h0
              cases h0
              exact tr_ret ⟨[], by simp, rfl, by simp⟩
            · rw [if_neg (by rw [c60]; decide)] at h1
              refine tr_skip ?_
              refine kr [4, 5, 6, 9, 10, 11, 43, 44, 45, 67] (by simp; rfl) ?_
              refine tr_cond (b := x13.There) (by simp) (fun c61 => ?_) (fun c61 => ?_)
              · rw [if_pos c61] at h1
                refine lr (by simp; rfl) ?_
                refine lr (by simp; rfl) ?_
                exact ⟨_, hg1 _ (Option.some.inj h1), wk (by simp [weak_iff])⟩
              · rw [if_neg (by rw [c61]; decide)] at h1
                refine tr_skip ?_
                refine lr (by simp; rfl) ?_
                exact ⟨_, hg1 _ (Option.some.inj h1), wk (by simp [weak_iff])⟩
        · refine kd1 [[], [], [1], [0, 2], [2, 3], [2, 4], [2, 4, 5], [2, 4], [2, 4], [2, 4, 7, 8], [2, 4, 9], [2, 4, 6, 10], [2, 4, 11]] [] [] none [] 13 fol (by decide +kernel) (by simp) ?_
          refine dr_go 0 2 rfl (by simp (maxSteps := 1000000); rfl) ?_
          refine dr_go 2 2 rfl (by simp (maxSteps := 1000000); rfl) ?_
          refine dr_go 4 1 rfl (by simp (maxSteps := 1000000); rfl) ?_
          refine dr_split 4 53 (decide (((y4.1).length : Int) ≤ s12.1)) (by simp) (fun c63 => ?_) (fun c63 => ?_)
          · rw [if_pos c63] at hvv14
            refine dr_skip 5 119 [some 54, some 55, some 56, some 57, some 58, some 59, some 60] rfl rfl (by decide) (by kernel_rfl) (by simp only [skEf, List.map_cons, List.map_nil, List.cons_append, List.nil_append]; rfl) ?_
            refine dr_go 12 1 rfl (by simp (maxSteps := 1000000); rfl) ?_
            refine dr_end rfl (tops_nil ?_)
            cases hvv14
            exact ⟨_, rfl, wk (by simp [weak_iff])⟩
          · rw [if_neg (by rw [c63]; decide)] at hvv14
            replace hvv14 := bnd hvv14; obtain ⟨x15, p13, hvv14⟩ := hvv14
            replace p13 := idx_some p13
            have p13' := p13; try simp at p13'
            refine dr_go 5 2 rfl (by simp (maxSteps := 1000000) [p13, p13']; rfl) ?_
            refine dr_go 7 2 rfl (by simp (maxSteps := 1000000) [p13, p13']; rfl) ?_
            refine dr_go 9 2 rfl (by simp (maxSteps := 1000000) [p13, p13']; rfl) ?_
            refine dr_go 11 2 rfl (by simp (maxSteps := 1000000) [p13, p13']; rfl) ?_
            refine dr_end rfl (tops_nil ?_)
            cases hvv14
            exact ⟨_, rfl, wk (by simp [weak_iff])⟩
      · rw [if_neg (by rw [c54]; decide)] at h1
        refine tr_exit ?_
        exact ⟨_, he1 _ (Option.some.inj h1), wk (by simp [weak_iff])⟩
end Go.Vl
