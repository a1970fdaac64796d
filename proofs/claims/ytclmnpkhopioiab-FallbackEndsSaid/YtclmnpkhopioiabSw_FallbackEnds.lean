/- Walks: each function of the given program computes what its mirror says. Conditions: none. -/
import Derived.Test.YtclmnpkhopioiabSw2
set_option linter.unusedSimpArgs false
set_option linter.unusedVariables false
namespace Go.Vl
open Go Go.Proofs
set_option maxHeartbeats 1000000 in
theorem law39_FallbackEnds_ok {a0 : List Int} {r : Bool} (h0 : law39_FallbackEnds a0 = some r) : FnOK Try.prog 10 [] [.d (.slice (rowsF (iRow .i64) a0))] (.d (.bool r)) [] := by
  unfold law39_FallbackEnds at h0
  refine fn_ok (nt := 94) (rs := [.tmp 2]) Try.func10 rfl Try.ntmps10 rfl (by simp) (by decide) rfl fun K => ?_
  refine kr [0] (by simp; rfl) ?_
  refine tr_seq ?_
  refine kr [0, 16] (by simp; rfl) ?_
  refine tr_cond (b := (decide (300 < ((a0).length : Int)))) (by simp) (fun c1 => ?_) (fun c1 => ?_)
  · rw [if_pos c1] at h0
    refine kc ?_
    replace h0 := bnd h0; obtain ⟨y1, hy1, h0⟩ := h0
    refine kcall [17] [] (law39_awake_ok hy1) rfl rfl rfl Try.call34 (by simp) (by simp; rfl) ?_
    refine ko [2] 1 (by simp; rfl) ?_
    refine tops_nil ?_
    cases h0
    exact tr_ret ⟨[], by simp, rfl, by simp⟩
  · rw [if_neg (by rw [c1]; decide)] at h0
    refine tr_skip ?_
    refine kr [3] (by simp; rfl) ?_
    refine kc ?_
    refine ko [21] 1 (by simp; rfl) ?_
    replace h0 := bnd h0; obtain ⟨y2, hy2, h0⟩ := h0
    refine kcall [22] [20] (make_FitFleet_ok hy2) rfl rfl rfl Try.call23 (by simp) (by simp; rfl) ?_
    refine ko [4] 2 (by simp; rfl) ?_
    refine tops_nil ?_
    refine kc ?_
    refine ko [4, 24] 1 (by simp; rfl) ?_
    replace h0 := bnd h0; obtain ⟨y3, hy3, h0⟩ := h0
    refine kcall [4, 25] [] (ref32_Start_ok hy3) rfl rfl rfl Try.call30 (by simp) (by simp; rfl) ?_
    refine ko [4, 5] 6 (by simp; rfl) ?_
    refine tops_nil ?_
    refine kc ?_
    refine ko [4, 5, 29, 30] 2 (by simp; rfl) ?_
    replace h0 := bnd h0; obtain ⟨y4, hy4, h0⟩ := h0
    refine kcall [4, 5, 31] [] (fallback_Make_ok hy4) rfl rfl rfl Try.call35 (by simp) (by simp; rfl) ?_
    refine ko [4, 5, 7, 8] 5 (by simp; rfl) ?_
    refine tops_nil ?_
    refine tr_seq ?_
    replace h0 := bnd h0; obtain ⟨v5, hvv5, h0⟩ := h0
    refine sjv (fun v5_ : Bool => ({ nt := 94, env := [(4, .ptr 4 0), (5, .ptr 5 0), (7, .d (.slice (rowsF api_Step_row y4.1))), (42, .d (.bool v5_))], box := [(4, [.d (.int .i64 y2.1.Slots), .d (.slice (rowsF api_Consumer_row y2.1.Consumers))]), (5, [.d (.int .i64 y3.1.Known), .d (.int .i64 y3.1.Valid), .d (.slice (rowsF api_Unit_row y3.1.Units))])], vec := [] } : St)) (fun v5_ => v5 = v5_) (fun v5_ e => ?_) ?_
    · subst e
      refine tr_cond (b := v5) (by simp) (fun c4 => ?_) (fun c4 => ?_)
      · rw [if_pos c4] at h0
        refine kr [2] (by simp; rfl) ?_
        cases h0
        exact tr_ret ⟨[], by simp, rfl, by simp⟩
      · rw [if_neg (by rw [c4]; decide)] at h0
        refine tr_skip ?_
        refine kc ?_
        refine ko [4, 5, 44, 45, 46] 3 (by simp; rfl) ?_
        replace h0 := bnd h0; obtain ⟨y6, hy6, h0⟩ := h0
        refine kcall [4, 5, 47] [] (ref33_Run_ok hy6) rfl rfl rfl Try.call43 (by simp) (by simp; rfl) ?_
        refine ko [4, 5, 9] 5 (by simp; rfl) ?_
        refine tops_nil ?_
        refine tr_seq ?_
        refine kr [4, 5, 9, 52] (by simp; rfl) ?_
        refine tr_cond (b := (((y6.1).length : Int) == 0)) (by simp) (fun c5 => ?_) (fun c5 => ?_)
        · rw [if_pos c5] at h0
          refine kr [2] (by simp; rfl) ?_
          cases h0
          exact tr_ret ⟨[], by simp, rfl, by simp⟩
        · rw [if_neg (by rw [c5]; decide)] at h0
          refine tr_skip ?_
          replace h0 := bnd h0; obtain ⟨x7, p1, h0⟩ := h0
          replace p1 := idx_some p1
          have p1' := p1; try simp at p1'
          refine kr [4, 5, 11] (by simp [p1, p1']; rfl) ?_
          refine kc ?_
          refine ko [4, 5, 11, 60, 61] 2 (by simp; rfl) ?_
          replace h0 := bnd h0; obtain ⟨y8, hy8, h0⟩ := h0
          refine kcall [4, 5, 11, 62] [] (fallback_Make_ok hy8) rfl rfl rfl Try.call35 (by simp) (by simp; rfl) ?_
          refine ko [4, 5, 11, 12, 13] 5 (by simp; rfl) ?_
          refine tops_nil ?_
          replace h0 := bnd h0; obtain ⟨v9, hvv9, h0⟩ := h0
          refine sjv (fun v9_ : Bool => ({ nt := 94, env := [(2, .d (.bool v9_))], box := [], vec := [] } : St)) (fun v9_ => v9 = v9_) (fun v9_ e => ?_) ?_
          · subst e
            cases h0
            exact tr_ret ⟨[], by simp, rfl, by simp⟩
          · refine kc1 ?_
            refine ko [4, 5, 11, 12, 67] 3 (by simp; rfl) ?_
            refine tops_split 67 (y8.2 == 0) (by simp) (fun c16 => ?_) (fun c16 => ?_)
            · rw [if_pos c16] at hvv9
              refine ko [4, 5, 11, 67, 68, 69, 70] 3 (by simp; rfl) ?_
              replace hvv9 := bnd hvv9; obtain ⟨y10, hy10, hvv9⟩ := hvv9
              refine kcall [4, 5, 11, 67, 71] [] (ref35_Check_ok hy10) rfl rfl rfl Try.call37 (by simp) (by simp; rfl) ?_
              refine ko [4, 5, 11, 73] 2 (by simp; rfl) ?_
              refine tops_split 73 y10 (by simp) (fun c17 => ?_) (fun c17 => ?_)
              · rw [if_pos c17] at hvv9
                refine ko [4, 5, 11, 73, 74, 75] 2 (by simp; rfl) ?_
                replace hvv9 := bnd hvv9; obtain ⟨y11, hy11, hvv9⟩ := hvv9
                refine kcall [4, 5, 11, 73, 76] [] (ref35_Check_ok hy11) rfl rfl rfl Try.call37 (by simp) (by simp; rfl) ?_
                refine ko [4, 5, 11, 78] 2 (by simp; rfl) ?_
                refine tops_split 78 y11 (by simp) (fun c18 => ?_) (fun c18 => ?_)
                · rw [if_pos c18] at hvv9
                  refine ko [4, 5, 11, 78, 79, 80, 81] 3 (by simp; rfl) ?_
                  replace hvv9 := bnd hvv9; obtain ⟨y12, hy12, hvv9⟩ := hvv9
                  refine kcall [4, 5, 11, 78, 82] [] (fallback_Forward_ok hy12) rfl rfl rfl Try.call41 (by simp) (by simp; rfl) ?_
                  refine ko [4, 5, 11, 84] 2 (by simp; rfl) ?_
                  refine tops_split 84 y12 (by simp) (fun c19 => ?_) (fun c19 => ?_)
                  · rw [if_pos c19] at hvv9
                    refine ko [84, 85, 86, 87] 3 (by simp; rfl) ?_
                    replace hvv9 := bnd hvv9; obtain ⟨y13, hy13, hvv9⟩ := hvv9
                    refine kcall [84, 88] [] (fallback_Forward_ok hy13) rfl rfl rfl Try.call41 (by simp) (by simp; rfl) ?_
                    refine ko [91] 3 (by simp; rfl) ?_
                    refine tops_split 91 (!y13) (by simp) (fun c20 => ?_) (fun c20 => ?_)
                    · rw [if_pos c20] at hvv9
                      replace hvv9 := bnd hvv9; obtain ⟨y14, hy14, hvv9⟩ := hvv9
                      refine kcall [91, 92] [] (law39_awake_ok hy14) rfl rfl rfl Try.call34 (by simp) (by simp; rfl) ?_
                      refine ko [2] 2 (by simp; rfl) ?_
                      refine tops_nil ?_
                      cases hvv9
                      exact ⟨_, rfl, wk (by simp [weak_iff])⟩
                    · rw [if_neg (by rw [c20]; decide)] at hvv9
                      refine ko [2] 3 (by simp; rfl) ?_
                      refine tops_nil ?_
                      cases hvv9
                      exact ⟨_, rfl, wk (by simp [weak_iff])⟩
                  · rw [if_neg (by rw [c19]; decide)] at hvv9
                    refine kskip 5 [] (by kernel_rfl) ?_
                    refine ko [2] 5 (by simp; rfl) ?_
                    refine tops_nil ?_
                    cases hvv9
                    exact ⟨_, rfl, wk (by simp [weak_iff])⟩
                · rw [if_neg (by rw [c18]; decide)] at hvv9
                  refine kskip 4 [] (by kernel_rfl) ?_
                  refine ko [4, 5, 11, 84] 2 (by simp; rfl) ?_
                  refine kskip 5 [] (by kernel_rfl) ?_
                  refine ko [2] 5 (by simp; rfl) ?_
                  refine tops_nil ?_
                  cases hvv9
                  exact ⟨_, rfl, wk (by simp [weak_iff])⟩
              · rw [if_neg (by rw [c17]; decide)] at hvv9
                refine kskip 3 [] (by kernel_rfl) ?_
                refine ko [4, 5, 11, 78] 2 (by simp; rfl) ?_
                refine kskip 4 [] (by kernel_rfl) ?_
                refine ko [4, 5, 11, 84] 2 (by simp; rfl) ?_
                refine kskip 5 [] (by kernel_rfl) ?_
                refine ko [2] 5 (by simp; rfl) ?_
                refine tops_nil ?_
                cases hvv9
                exact ⟨_, rfl, wk (by simp [weak_iff])⟩
            · rw [if_neg (by rw [c16]; decide)] at hvv9
              refine kskip 4 [] (by kernel_rfl) ?_
              refine ko [4, 5, 11, 73] 2 (by simp; rfl) ?_
              refine kskip 3 [] (by kernel_rfl) ?_
              refine ko [4, 5, 11, 78] 2 (by simp; rfl) ?_
              refine kskip 4 [] (by kernel_rfl) ?_
              refine ko [4, 5, 11, 84] 2 (by simp; rfl) ?_
              refine kskip 5 [] (by kernel_rfl) ?_
              refine ko [2] 5 (by simp; rfl) ?_
              refine tops_nil ?_
              cases hvv9
              exact ⟨_, rfl, wk (by simp [weak_iff])⟩
    · refine kc1 ?_
      refine ko [4, 5, 7, 36] 3 (by simp; rfl) ?_
      refine tops_split 36 (y4.2 != 0) (by simp) (fun c21 => ?_) (fun c21 => ?_)
      · rw [if_pos c21] at hvv5
        refine kskip 5 [] (by kernel_rfl) ?_
        refine ko [4, 5, 7, 42] 1 (by simp; rfl) ?_
        refine tops_nil ?_
        cases hvv5
        exact ⟨_, rfl, wk (by simp [weak_iff])⟩
      · rw [if_neg (by rw [c21]; decide)] at hvv5
        refine ko [4, 5, 7, 36, 37, 38, 39] 3 (by simp; rfl) ?_
        replace hvv5 := bnd hvv5; obtain ⟨y15, hy15, hvv5⟩ := hvv5
        refine kcall [4, 5, 7, 36, 40] [] (ref35_Check_ok hy15) rfl rfl rfl Try.call37 (by simp) (by simp; rfl) ?_
        refine ko [4, 5, 7, 42] 2 (by simp; rfl) ?_
        refine tops_nil ?_
        cases hvv5
        exact ⟨_, rfl, wk (by simp [weak_iff])⟩
end Go.Vl
