/- Walks: each function of the given program computes what its mirror says. Conditions: none. -/
import Derived.Test.YtclmnpkhopioiaaRw2
set_option linter.unusedSimpArgs false
set_option linter.unusedVariables false
namespace Go.Vl
open Go Go.Proofs
set_option maxHeartbeats 1000000 in
theorem law33_StepsRight_ok {a0 : List Int} {r : Bool} (h0 : law33_StepsRight a0 = some r) : FnOK Try.prog 7 [] [.d (.slice (rowsF (iRow .i64) a0))] (.d (.bool r)) [] := by
  unfold law33_StepsRight at h0
  refine fn_ok (nt := 89) (rs := [.tmp 2]) Try.func7 rfl Try.ntmps7 rfl (by simp) (by decide) rfl fun K => ?_
  refine kr [0] (by simp; rfl) ?_
  refine tr_seq ?_
  refine kr [0, 12] (by simp; rfl) ?_
  refine tr_cond (b := (decide (300 < ((a0).length : Int)))) (by simp) (fun c1 => ?_) (fun c1 => ?_)
  · rw [if_pos c1] at h0
    refine kc ?_
    replace h0 := bnd h0; obtain ⟨y1, hy1, h0⟩ := h0
    refine kcall [13] [] (law33_awake_ok hy1) rfl rfl rfl Try.call43 (by simp) (by simp; rfl) ?_
    refine ko [2] 1 (by simp; rfl) ?_
    refine tops_nil ?_
    cases h0
    exact tr_ret ⟨[], by simp, rfl, by simp⟩
  · rw [if_neg (by rw [c1]; decide)] at h0
    refine tr_skip ?_
    refine kr [3] (by simp; rfl) ?_
    refine kc ?_
    refine ko [3, 17] 1 (by simp; rfl) ?_
    replace h0 := bnd h0; obtain ⟨y2, hy2, h0⟩ := h0
    refine kcall [3, 18] [16] (make_Fleet_ok hy2) rfl rfl rfl Try.call18 (by simp) (by simp; rfl) ?_
    refine ko [3, 4] 2 (by simp; rfl) ?_
    refine tops_nil ?_
    refine kc ?_
    refine ko [3, 4, 19, 20] 2 (by simp; rfl) ?_
    replace h0 := bnd h0; obtain ⟨y3, hy3, h0⟩ := h0
    refine kcall [3, 4, 21] [16] (make_State_ok hy3) rfl rfl rfl Try.call19 (by simp) (by simp; rfl) ?_
    refine ko [3, 4, 5] 2 (by simp; rfl) ?_
    refine tops_nil ?_
    refine tr_seq ?_
    refine kr [3, 4, 5, 6] (by simp; rfl) ?_
    replace h0 := bnd h0; obtain ⟨e1, hI1, h0⟩ := h0
    refine tjv (fun v4 : Unit => ({ nt := 89, env := [], box := [], vec := [] } : St)) (fun v4 => .inl v4 = e1) (fun v4 hI1e _ W1 => ?_) ?_
    · subst hI1e
      dsimp only at h0
      refine tr_wk W1 ?_
      refine kc ?_
      replace h0 := bnd h0; obtain ⟨y5, hy5, h0⟩ := h0
      refine kcall [88] [] (law33_awake_ok hy5) rfl rfl rfl Try.call43 (by simp) (by simp; rfl) ?_
      refine ko [2] 1 (by simp; rfl) ?_
      refine tops_nil ?_
      cases h0
      exact tr_ret ⟨[], by simp, rfl, by simp⟩
    · refine tr_block (tr_iter (fun s6 : Int × (List Int) × Int × Int × Int × (List api_Unit) => ({ nt := 89, env := [(3, .ptr 16 0), (4, .ptr 4 0), (5, .ptr 5 0), (6, .d (.int .i64 s6.1))], box := [(4, [.d (.int .i64 y2.1.Slots), .d (.slice (rowsF api_Consumer_row y2.1.Consumers))]), (5, [.d (.int .i64 s6.2.2.2.1), .d (.int .i64 s6.2.2.2.2.1), .d (.slice (rowsF api_Unit_row s6.2.2.2.2.2))]), (16, [.d (.slice (rowsF (iRow .i64) s6.2.1)), .d (.int .i64 s6.2.2.1)])], vec := [] } : St)) hI1 (wk (by simp [weak_iff])) fun G1 s6 o1 h1 hg1 he1 => ?_)
      unfold law33_StepsRight_l0 at h1
      refine tr_seq ?_
      refine kr [3, 4, 5, 6, 23] (by simp; rfl) ?_
      refine tr_cond (b := (decide (s6.1 < 8))) (by simp) (fun c28 => ?_) (fun c28 => ?_)
      · rw [if_pos c28] at h1
        refine tr_skip ?_
        refine tr_seq ?_
        refine tr_block ?_
        refine kc ?_
        refine ko [3, 4, 5, 6, 26, 27] 2 (by simp; rfl) ?_
        replace h1 := bnd h1; obtain ⟨y7, hy7, h1⟩ := h1
        refine kcall [3, 4, 5, 6, 28] [16] (make_Step_ok hy7) rfl rfl rfl Try.call44 (by simp) (by simp; rfl) ?_
        refine ko [3, 4, 5, 6, 7] 2 (by simp; rfl) ?_
        refine tops_nil ?_
        refine kc ?_
        refine ko [3, 4, 5, 6, 7, 30, 31, 32] 3 (by simp; rfl) ?_
        replace h1 := bnd h1; obtain ⟨y8, hy8, h1⟩ := h1
        refine kcall [3, 4, 5, 6, 7, 33] [] (steps_Apply_ok hy8) rfl rfl rfl Try.call45 (by simp) (by simp; rfl) ?_
        refine ko [3, 4, 5, 6, 7, 8, 9] 6 (by simp; rfl) ?_
        refine tops_nil ?_
        refine tr_seq ?_
        refine kr [3, 4, 5, 6, 7, 8, 9, 37] (by simp; rfl) ?_
        refine tr_cond (b := (y8.2 != 0)) (by simp) (fun c29 => ?_) (fun c29 => ?_)
        · rw [if_pos c29] at h1
          refine tr_seq ?_
          replace h1 := bnd h1; obtain ⟨v9, hvv9, h1⟩ := h1
          refine sjv (fun v9_ : Bool => ({ nt := 89, env := [(3, .ptr 16 0), (4, .ptr 4 0), (5, .ptr 5 0), (6, .d (.int .i64 s6.1)), (45, .d (.bool v9_))], box := [(4, [.d (.int .i64 y2.1.Slots), .d (.slice (rowsF api_Consumer_row y2.1.Consumers))]), (5, [.d (.int .i64 s6.2.2.2.1), .d (.int .i64 s6.2.2.2.2.1), .d (.slice (rowsF api_Unit_row s6.2.2.2.2.2))]), (16, [.d (.slice (rowsF (iRow .i64) y7.2.L)), .d (.int .i64 y7.2.at_)])], vec := [] } : St)) (fun v9_ => v9 = v9_) (fun v9_ e => ?_) ?_
          · subst e
            refine tr_cond (b := v9) (by simp) (fun c32 => ?_) (fun c32 => ?_)
            · rw [if_pos c32] at h1
              refine kr [2] (by simp; rfl) ?_
              have k1 := he1 _ (Option.some.inj h1)
              subst k1
              dsimp only at h0
              cases h0
              exact tr_ret ⟨[], by simp, rfl, by simp⟩
            · rw [if_neg (by rw [c32]; decide)] at h1
              refine tr_skip ?_
              refine tr_exit ?_
              refine lr (by simp; rfl) ?_
              exact ⟨_, hg1 _ (Option.some.inj h1), wk (by simp [weak_iff])⟩
          · refine kc1 ?_
            refine ko [3, 4, 5, 6, 7, 40] 3 (by simp; rfl) ?_
            refine tops_split 40 (y8.2 != 37) (by simp) (fun c33 => ?_) (fun c33 => ?_)
            · rw [if_pos c33] at hvv9
              refine kskip 4 [] (by kernel_rfl) ?_
              refine ko [3, 4, 5, 6, 45] 1 (by simp; rfl) ?_
              refine tops_nil ?_
              cases hvv9
              exact ⟨_, rfl, wk (by simp [weak_iff])⟩
            · rw [if_neg (by rw [c33]; decide)] at hvv9
              refine ko [3, 4, 5, 6, 40, 41, 42, 43] 3 (by simp; rfl) ?_
              replace hvv9 := bnd hvv9; obtain ⟨y10, hy10, hvv9⟩ := hvv9
              refine kcall [3, 4, 5, 6, 40, 41, 42, 43, 44] [] (steps_Possible_ok hy10) rfl rfl rfl Try.call46 (by simp) (by simp; rfl) ?_
              refine ko [3, 4, 5, 6, 41, 42, 43, 44, 45] 1 (by simp; rfl) ?_
              refine tops_nil ?_
              cases hvv9
              exact ⟨_, rfl, wk (by simp [weak_iff])⟩
        · rw [if_neg (by rw [c29]; decide)] at h1
          refine tr_skip ?_
          refine tr_seq ?_
          replace h1 := bnd h1; obtain ⟨v11, hvv11, h1⟩ := h1
          refine sjv (fun v11_ : Bool => ({ nt := 89, env := [(3, .ptr 16 0), (4, .ptr 4 0), (5, .ptr 5 0), (6, .d (.int .i64 s6.1)), (8, .ptr 8 0), (86, .d (.bool v11_))], box := [(4, [.d (.int .i64 y2.1.Slots), .d (.slice (rowsF api_Consumer_row y2.1.Consumers))]), (5, [.d (.int .i64 s6.2.2.2.1), .d (.int .i64 s6.2.2.2.2.1), .d (.slice (rowsF api_Unit_row s6.2.2.2.2.2))]), (8, [.d (.int .i64 y8.1.Known), .d (.int .i64 y8.1.Valid), .d (.slice (rowsF api_Unit_row y8.1.Units))]), (16, [.d (.slice (rowsF (iRow .i64) y7.2.L)), .d (.int .i64 y7.2.at_)])], vec := [] } : St)) (fun v11_ => v11 = v11_) (fun v11_ e => ?_) ?_
          · subst e
            refine tr_cond (b := v11) (by simp) (fun c50 => ?_) (fun c50 => ?_)
            · rw [if_pos c50] at h1
              refine kr [2] (by simp; rfl) ?_
              have k1 := he1 _ (Option.some.inj h1)
              subst k1
              dsimp only at h0
              cases h0
              exact tr_ret ⟨[], by simp, rfl, by simp⟩
            · rw [if_neg (by rw [c50]; decide)] at h1
              refine tr_skip ?_
              refine lr (by simp; rfl) ?_
              refine lr (by simp; rfl) ?_
              exact ⟨_, hg1 _ (Option.some.inj h1), wk (by simp [weak_iff])⟩
          · refine kc1 ?_
            refine ko [3, 4, 5, 6, 8, 46, 47] 2 (by simp; rfl) ?_
            replace hvv11 := bnd hvv11; obtain ⟨y12, hy12, hvv11⟩ := hvv11
            refine kcall [3, 4, 5, 6, 8, 48] [] (ref32_Right_ok hy12) rfl rfl rfl Try.call22 (by simp) (by simp; rfl) ?_
            refine ko [3, 4, 5, 6, 8, 50] 2 (by simp; rfl) ?_
            refine tops_split 50 (!y12) (by simp) (fun c51 => ?_) (fun c51 => ?_)
            · rw [if_pos c51] at hvv11
              refine kskip 3 [] (by kernel_rfl) ?_
              refine ko [3, 4, 5, 6, 8, 55] 2 (by simp; rfl) ?_
              refine kskip 10 [] (by kernel_rfl) ?_
              refine ko [3, 4, 5, 6, 8, 67] 2 (by simp; rfl) ?_
              refine kskip 6 [] (by kernel_rfl) ?_
              refine ko [3, 4, 5, 6, 8, 75] 2 (by simp; rfl) ?_
              refine kskip 10 [] (by kernel_rfl) ?_
              refine ko [3, 4, 5, 6, 8, 86] 1 (by simp; rfl) ?_
              refine tops_nil ?_
              cases hvv11
              exact ⟨_, rfl, wk (by simp [weak_iff])⟩
            · rw [if_neg (by rw [c51]; decide)] at hvv11
              refine ko [3, 4, 5, 6, 8, 50, 51, 52] 2 (by simp; rfl) ?_
              replace hvv11 := bnd hvv11; obtain ⟨y13, hy13, hvv11⟩ := hvv11
              refine kcall [3, 4, 5, 6, 8, 50, 51, 52, 53] [] (ref32_Same_ok hy13) rfl rfl rfl Try.call30 (by simp) (by simp; rfl) ?_
              refine ko [3, 4, 5, 6, 8, 51, 52, 53, 55] 2 (by simp; rfl) ?_
              refine tops_split 55 y13 (by simp) (fun c52 => ?_) (fun c52 => ?_)
              · rw [if_pos c52] at hvv11
                refine kskip 10 [] (by kernel_rfl) ?_
                refine ko [3, 4, 5, 6, 8, 51, 52, 53, 67] 2 (by simp; rfl) ?_
                refine kskip 6 [] (by kernel_rfl) ?_
                refine ko [3, 4, 5, 6, 8, 51, 52, 53, 75] 2 (by simp; rfl) ?_
                refine kskip 10 [] (by kernel_rfl) ?_
                refine ko [3, 4, 5, 6, 8, 51, 52, 53, 86] 1 (by simp; rfl) ?_
                refine tops_nil ?_
                cases hvv11
                exact ⟨_, rfl, wk (by simp [weak_iff])⟩
              · rw [if_neg (by rw [c52]; decide)] at hvv11
                refine ko [3, 4, 5, 6, 8, 51, 52, 53, 55, 56, 57, 58, 59, 60] 5 (by simp; rfl) ?_
                refine tops_split 60 ((bAnd .i64 y8.1.Valid 1) != 0) (by simp) (fun c53 => ?_) (fun c53 => ?_)
                · rw [if_pos c53] at hvv11
                  refine ko [3, 4, 5, 6, 8, 51, 52, 53, 56, 57, 58, 59, 60, 61, 62, 63, 64, 65, 67] 7 (by simp; rfl) ?_
                  refine tops_split 67 ((bAnd .i64 s6.2.2.2.2.1 1) == 0) (by simp) (fun c54 => ?_) (fun c54 => ?_)
                  · rw [if_pos c54] at hvv11
                    refine kskip 6 [] (by kernel_rfl) ?_
                    refine ko [3, 4, 5, 6, 8, 51, 52, 53, 56, 57, 58, 59, 60, 61, 62, 63, 64, 65, 75] 2 (by simp; rfl) ?_
                    refine kskip 10 [] (by kernel_rfl) ?_
                    refine ko [3, 4, 5, 6, 8, 51, 52, 53, 56, 57, 58, 59, 60, 61, 62, 63, 64, 65, 86] 1 (by simp; rfl) ?_
                    refine tops_nil ?_
                    cases hvv11
                    exact ⟨_, rfl, wk (by simp [weak_iff])⟩
                  · rw [if_neg (by rw [c54]; decide)] at hvv11
                    refine ko [3, 4, 5, 6, 8, 51, 52, 53, 56, 57, 58, 59, 60, 61, 62, 63, 64, 65, 68, 69, 70, 71, 72, 73, 75] 8 (by simp; rfl) ?_
                    refine tops_split 75 ((bAndNot .i64 s6.2.2.2.1 y8.1.Known) != 0) (by simp) (fun c55 => ?_) (fun c55 => ?_)
                    · rw [if_pos c55] at hvv11
                      refine kskip 10 [] (by kernel_rfl) ?_
                      refine ko [3, 4, 5, 6, 8, 51, 52, 53, 56, 57, 58, 59, 60, 61, 62, 63, 64, 65, 68, 69, 70, 71, 72, 73, 86] 1 (by simp; rfl) ?_
                      refine tops_nil ?_
                      cases hvv11
                      exact ⟨_, rfl, wk (by simp [weak_iff])⟩
                    · rw [if_neg (by rw [c55]; decide)] at hvv11
                      refine ko [3, 4, 5, 6, 8, 51, 52, 53, 56, 57, 58, 59, 60, 61, 62, 63, 64, 65, 68, 69, 70, 71, 72, 73, 75, 76, 77, 78, 79, 80] 5 (by simp; rfl) ?_
                      refine tops_split 80 ((bAnd .i64 s6.2.2.2.2.1 2) != 0) (by simp) (fun c56 => ?_) (fun c56 => ?_)
                      · rw [if_pos c56] at hvv11
                        refine ko [3, 4, 5, 6, 8, 51, 52, 53, 56, 57, 58, 59, 60, 61, 62, 63, 64, 65, 68, 69, 70, 71, 72, 73, 76, 77, 78, 79, 80, 81, 82, 83, 84, 85, 86] 6 (by simp; rfl) ?_
                        refine tops_nil ?_
                        cases hvv11
                        exact ⟨_, rfl, wk (by simp [weak_iff])⟩
                      · rw [if_neg (by rw [c56]; decide)] at hvv11
                        refine kskip 4 [] (by kernel_rfl) ?_
                        refine ko [3, 4, 5, 6, 8, 51, 52, 53, 56, 57, 58, 59, 60, 61, 62, 63, 64, 65, 68, 69, 70, 71, 72, 73, 76, 77, 78, 79, 80, 85, 86] 2 (by simp; rfl) ?_
                        refine tops_nil ?_
                        cases hvv11
                        exact ⟨_, rfl, wk (by simp [weak_iff])⟩
                · rw [if_neg (by rw [c53]; decide)] at hvv11
                  refine kskip 4 [] (by kernel_rfl) ?_
                  refine ko [3, 4, 5, 6, 8, 51, 52, 53, 56, 57, 58, 59, 60, 65, 68, 69, 70, 71, 72, 73, 75] 11 (by simp; rfl) ?_
                  refine tops_split 75 ((bAndNot .i64 s6.2.2.2.1 y8.1.Known) != 0) (by simp) (fun c57 => ?_) (fun c57 => ?_)
                  · rw [if_pos c57] at hvv11
                    refine kskip 10 [] (by kernel_rfl) ?_
                    refine ko [3, 4, 5, 6, 8, 51, 52, 53, 56, 57, 58, 59, 60, 65, 68, 69, 70, 71, 72, 73, 86] 1 (by simp; rfl) ?_
                    refine tops_nil ?_
                    cases hvv11
                    exact ⟨_, rfl, wk (by simp [weak_iff])⟩
                  · rw [if_neg (by rw [c57]; decide)] at hvv11
                    refine ko [3, 4, 5, 6, 8, 51, 52, 53, 56, 57, 58, 59, 60, 65, 68, 69, 70, 71, 72, 73, 75, 76, 77, 78, 79, 80] 5 (by simp; rfl) ?_
                    refine tops_split 80 ((bAnd .i64 s6.2.2.2.2.1 2) != 0) (by simp) (fun c58 => ?_) (fun c58 => ?_)
                    · rw [if_pos c58] at hvv11
                      refine ko [3, 4, 5, 6, 8, 51, 52, 53, 56, 57, 58, 59, 60, 65, 68, 69, 70, 71, 72, 73, 76, 77, 78, 79, 80, 81, 82, 83, 84, 85, 86] 6 (by simp; rfl) ?_
                      refine tops_nil ?_
                      cases hvv11
                      exact ⟨_, rfl, wk (by simp [weak_iff])⟩
                    · rw [if_neg (by rw [c58]; decide)] at hvv11
                      refine kskip 4 [] (by kernel_rfl) ?_
                      refine ko [3, 4, 5, 6, 8, 51, 52, 53, 56, 57, 58, 59, 60, 65, 68, 69, 70, 71, 72, 73, 76, 77, 78, 79, 80, 85, 86] 2 (by simp; rfl) ?_
                      refine tops_nil ?_
                      cases hvv11
                      exact ⟨_, rfl, wk (by simp [weak_iff])⟩
      · rw [if_neg (by rw [c28]; decide)] at h1
        refine tr_exit ?_
        exact ⟨_, he1 _ (Option.some.inj h1), wk (by simp [weak_iff])⟩
end Go.Vl
