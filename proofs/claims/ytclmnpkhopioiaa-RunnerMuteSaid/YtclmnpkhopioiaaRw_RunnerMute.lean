/- Walks: each function of the given program computes what its mirror says. Conditions: none. -/
import Derived.Test.YtclmnpkhopioiaaRw2
set_option linter.unusedSimpArgs false
set_option linter.unusedVariables false
namespace Go.Vl
open Go Go.Proofs
set_option maxHeartbeats 1000000 in
theorem law37_RunnerMute_ok {a0 : List Int} {r : Bool} (h0 : law37_RunnerMute a0 = some r) : FnOK Try.prog 14 [] [.d (.slice (rowsF (iRow .i64) a0))] (.d (.bool r)) [] := by
  unfold law37_RunnerMute at h0
  refine fn_ok (nt := 89) (rs := [.tmp 2]) Try.func14 rfl Try.ntmps14 rfl (by simp) (by decide) rfl fun K => ?_
  refine kr [0] (by simp; rfl) ?_
  refine tr_seq ?_
  refine kr [0, 16] (by simp; rfl) ?_
  refine tr_cond (b := (decide (300 < ((a0).length : Int)))) (by simp) (fun c1 => ?_) (fun c1 => ?_)
  · rw [if_pos c1] at h0
    refine kc ?_
    replace h0 := bnd h0; obtain ⟨y1, hy1, h0⟩ := h0
    refine kcall [17] [] (law37_awake_ok hy1) rfl rfl rfl Try.call61 (by simp) (by simp; rfl) ?_
    refine ko [2] 1 (by simp; rfl) ?_
    refine tops_nil ?_
    cases h0
    exact tr_ret ⟨[], by simp, rfl, by simp⟩
  · rw [if_neg (by rw [c1]; decide)] at h0
    refine tr_skip ?_
    refine kr [3] (by simp; rfl) ?_
    refine kc ?_
    refine ko [3, 21] 1 (by simp; rfl) ?_
    replace h0 := bnd h0; obtain ⟨y2, hy2, h0⟩ := h0
    refine kcall [3, 22] [20] (make_Fleet_ok hy2) rfl rfl rfl Try.call18 (by simp) (by simp; rfl) ?_
    refine ko [3, 4] 2 (by simp; rfl) ?_
    refine tops_nil ?_
    refine kc ?_
    refine ko [3, 4, 23, 24] 2 (by simp; rfl) ?_
    replace h0 := bnd h0; obtain ⟨y3, hy3, h0⟩ := h0
    refine kcall [3, 4, 25] [20] (make_State_ok hy3) rfl rfl rfl Try.call19 (by simp) (by simp; rfl) ?_
    refine ko [3, 4, 5] 2 (by simp; rfl) ?_
    refine tops_nil ?_
    refine kc ?_
    refine ko [3, 4, 5, 26, 27, 28] 3 (by simp; rfl) ?_
    replace h0 := bnd h0; obtain ⟨y4, hy4, h0⟩ := h0
    refine kcall [3, 4, 5, 29] [20] (make_SafeSteps_ok hy4) rfl rfl rfl Try.call52 (by simp) (by simp; rfl) ?_
    refine ko [3, 4, 5, 6] 1 (by simp; rfl) ?_
    refine tops_nil ?_
    refine kr [3, 4, 5, 6, 7] (by simp; rfl) ?_
    refine tr_seq ?_
    refine kr [3, 4, 5, 6, 7, 31, 32] (by simp; rfl) ?_
    refine tr_wk (wk_own 7 39 3 1 (by simp) (by simp)) ?_
    replace h0 := bnd h0; obtain ⟨e1, hI1, h0⟩ := h0
    refine tjv (fun v5 : (List Int) => ({ nt := 89, env := [(4, .ptr 4 0), (5, .ptr 5 0), (6, .d (.slice (rowsF api_Step_row y4.1))), (7, .vec 39)], box := [(4, [.d (.int .i64 y2.1.Slots), .d (.slice (rowsF api_Consumer_row y2.1.Consumers))]), (5, [.d (.int .i64 y3.1.Known), .d (.int .i64 y3.1.Valid), .d (.slice (rowsF api_Unit_row y3.1.Units))])], vec := [(39, ⟨3, 1, rowsF (iRow .i64) v5⟩)] } : St)) (fun v5 => v5 = e1) (fun v5 hI1e _ W1 => ?_) ?_
    · subst hI1e
      refine tr_wk W1 ?_
      refine kc ?_
      refine ko [4, 5, 6, 7, 42, 43, 44] 3 (by simp; rfl) ?_
      replace h0 := bnd h0; obtain ⟨y6, hy6, h0⟩ := h0
      refine kcall [4, 5, 6, 7, 45] [] (runner_States_ok hy6) rfl rfl rfl Try.call64 (by simp) (by simp; rfl) ?_
      refine ko [4, 5, 6, 7, 8, 9] 5 (by simp; rfl) ?_
      refine tops_nil ?_
      refine kc ?_
      refine ko [4, 5, 6, 8, 9, 49, 50, 51, 52] 4 (by simp; rfl) ?_
      refine tops_wk (wk_frz 39) ?_
      replace h0 := bnd h0; obtain ⟨y7, hy7, h0⟩ := h0
      refine kcall [4, 5, 6, 8, 9, 53] [] (runner_States_ok hy7) rfl rfl rfl Try.call64 (by simp) (by simp; rfl) ?_
      refine ko [4, 5, 6, 8, 9, 10, 11] 5 (by simp; rfl) ?_
      refine tops_nil ?_
      refine kc ?_
      refine ko [5, 8, 9, 10, 11, 57, 58, 59] 3 (by simp; rfl) ?_
      replace h0 := bnd h0; obtain ⟨y8, hy8, h0⟩ := h0
      refine kcall [5, 8, 9, 10, 11, 60] [] (ref33_Run_ok hy8) rfl rfl rfl Try.call59 (by simp) (by simp; rfl) ?_
      refine ko [5, 8, 9, 10, 11, 12, 13] 5 (by simp; rfl) ?_
      refine tops_nil ?_
      refine tr_seq ?_
      replace h0 := bnd h0; obtain ⟨v9, hvv9, h0⟩ := h0
      refine sjv (fun v9_ : Bool => ({ nt := 89, env := [(87, .d (.bool v9_))], box := [], vec := [] } : St)) (fun v9_ => v9 = v9_) (fun v9_ e => ?_) ?_
      · subst e
        refine tr_cond (b := v9) (by simp) (fun c13 => ?_) (fun c13 => ?_)
        · rw [if_pos c13] at h0
          refine kr [2] (by simp; rfl) ?_
          cases h0
          exact tr_ret ⟨[], by simp, rfl, by simp⟩
        · rw [if_neg (by rw [c13]; decide)] at h0
          refine tr_skip ?_
          refine kc ?_
          replace h0 := bnd h0; obtain ⟨y10, hy10, h0⟩ := h0
          refine kcall [88] [] (law37_awake_ok hy10) rfl rfl rfl Try.call61 (by simp) (by simp; rfl) ?_
          refine ko [2] 1 (by simp; rfl) ?_
          refine tops_nil ?_
          cases h0
          exact tr_ret ⟨[], by simp, rfl, by simp⟩
      · refine kc1 ?_
        refine ko [5, 8, 10, 11, 12, 13, 65] 3 (by simp; rfl) ?_
        refine tops_split 65 (y6.2 != 0) (by simp) (fun c14 => ?_) (fun c14 => ?_)
        · rw [if_pos c14] at hvv9
          refine ko [5, 8, 10, 12, 73] 8 (by simp; rfl) ?_
          refine kskip 4 [] (by kernel_rfl) ?_
          refine ko [5, 8, 12, 79] 2 (by simp; rfl) ?_
          refine kskip 7 [] (by kernel_rfl) ?_
          refine ko [87] 1 (by simp; rfl) ?_
          refine tops_nil ?_
          cases hvv9
          exact ⟨_, rfl, wk (by simp [weak_iff])⟩
        · rw [if_neg (by rw [c14]; decide)] at hvv9
          refine ko [5, 8, 10, 12, 13, 69] 4 (by simp; rfl) ?_
          refine tops_split 69 (y7.2 != 0) (by simp) (fun c15 => ?_) (fun c15 => ?_)
          · rw [if_pos c15] at hvv9
            refine ko [5, 8, 10, 12, 73] 4 (by simp; rfl) ?_
            refine kskip 4 [] (by kernel_rfl) ?_
            refine ko [5, 8, 12, 79] 2 (by simp; rfl) ?_
            refine kskip 7 [] (by kernel_rfl) ?_
            refine ko [87] 1 (by simp; rfl) ?_
            refine tops_nil ?_
            cases hvv9
            exact ⟨_, rfl, wk (by simp [weak_iff])⟩
          · rw [if_neg (by rw [c15]; decide)] at hvv9
            refine ko [5, 8, 10, 12, 73] 4 (by simp; rfl) ?_
            refine tops_split 73 (y8.2 != 0) (by simp) (fun c16 => ?_) (fun c16 => ?_)
            · rw [if_pos c16] at hvv9
              refine kskip 4 [] (by kernel_rfl) ?_
              refine ko [5, 8, 12, 79] 2 (by simp; rfl) ?_
              refine kskip 7 [] (by kernel_rfl) ?_
              refine ko [87] 1 (by simp; rfl) ?_
              refine tops_nil ?_
              cases hvv9
              exact ⟨_, rfl, wk (by simp [weak_iff])⟩
            · rw [if_neg (by rw [c16]; decide)] at hvv9
              refine ko [5, 8, 12, 73, 74, 75] 2 (by simp; rfl) ?_
              replace hvv9 := bnd hvv9; obtain ⟨y11, hy11, hvv9⟩ := hvv9
              refine kcall [5, 8, 12, 73, 76] [] (ref32_All_ok hy11) rfl rfl rfl Try.call51 (by simp) (by simp; rfl) ?_
              refine ko [5, 8, 12, 79] 3 (by simp; rfl) ?_
              refine tops_split 79 (!y11) (by simp) (fun c17 => ?_) (fun c17 => ?_)
              · rw [if_pos c17] at hvv9
                refine kskip 7 [] (by kernel_rfl) ?_
                refine ko [87] 1 (by simp; rfl) ?_
                refine tops_nil ?_
                cases hvv9
                exact ⟨_, rfl, wk (by simp [weak_iff])⟩
              · rw [if_neg (by rw [c17]; decide)] at hvv9
                replace hvv9 := bnd hvv9; obtain ⟨_, p5, hvv9⟩ := hvv9
                replace p5 := ck_some p5
                have p5' := p5; try simp at p5'
                refine ko [79, 80, 84] 5 (by simp [p5, p5']; rfl) ?_
                refine tops_wk (wk_frz 84) ?_
                replace hvv9 := bnd hvv9; obtain ⟨y12, hy12, hvv9⟩ := hvv9
                refine kcall [79, 85] [] (ref32_All_ok hy12) rfl rfl rfl Try.call51 (by simp) (by simp; rfl) ?_
                refine ko [87] 2 (by simp; rfl) ?_
                refine tops_nil ?_
                cases hvv9
                exact ⟨_, rfl, wk (by simp [weak_iff])⟩
    · refine tr_block (tr_iter (fun s13 : Int × (List Int) × Int × (List Int) => ({ nt := 89, env := [(3, .ptr 20 0), (4, .ptr 4 0), (5, .ptr 5 0), (6, .d (.slice (rowsF api_Step_row y4.1))), (7, .vec 39), (31, .d (.int .i64 ((y4.1).length : Int))), (32, .d (.int .i64 s13.1))], box := [(4, [.d (.int .i64 y2.1.Slots), .d (.slice (rowsF api_Consumer_row y2.1.Consumers))]), (5, [.d (.int .i64 y3.1.Known), .d (.int .i64 y3.1.Valid), .d (.slice (rowsF api_Unit_row y3.1.Units))]), (20, [.d (.slice (rowsF (iRow .i64) s13.2.1)), .d (.int .i64 s13.2.2.1)])], vec := [(39, ⟨3, 1, rowsF (iRow .i64) s13.2.2.2⟩)] } : St)) hI1 (wk (by simp [weak_iff])) fun G1 s13 o1 h1 hg1 he1 => ?_)
      unfold law37_RunnerMute_l0 at h1
      refine kr [3, 4, 5, 6, 7, 31, 32, 33] (by simp; rfl) ?_
      refine tr_seq ?_
      refine tr_cond (b := (decide (s13.1 < ((y4.1).length : Int)))) (by simp) (fun c18 => ?_) (fun c18 => ?_)
      · rw [if_pos c18] at h1
        refine tr_skip ?_
        refine tr_seq ?_
        refine tr_block ?_
        refine kc1 ?_
        refine ko [3, 4, 5, 6, 31, 32, 34, 35, 36] 3 (by simp; rfl) ?_
        refine tops_wk (wk_frz 36) ?_
        replace h1 := bnd h1; obtain ⟨y14, hy14, h1⟩ := h1
        refine kcall [3, 4, 5, 6, 31, 32, 34, 37] [20] (make_Pick_ok hy14) rfl rfl rfl Try.call65 (by simp) (by simp; rfl) ?_
        replace h1 := bnd h1; obtain ⟨_, p6, h1⟩ := h1
        replace p6 := ck_some p6
        have p6' := p6; try simp at p6'
        refine ko [3, 4, 5, 6, 7, 31, 32] 3 (by simp [p6, p6']; rfl) ?_
        refine tops_nil ?_
        refine lr (by simp; rfl) ?_
        exact ⟨_, hg1 _ (Option.some.inj h1), wk (by simp [weak_iff])⟩
      · rw [if_neg (by rw [c18]; decide)] at h1
        refine tr_exit ?_
        exact ⟨_, he1 _ (Option.some.inj h1), wk (by simp [weak_iff])⟩
end Go.Vl
