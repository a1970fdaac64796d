/- Walks: each function of the given program computes what its mirror says. Conditions: none. -/
import Derived.Test.YtclmnpkhopioiaaRw2
set_option linter.unusedSimpArgs false
set_option linter.unusedVariables false
namespace Go.Vl
open Go Go.Proofs
set_option maxHeartbeats 1000000 in
theorem ref23_Has_ok {a0 : List Int} {a1 : Int} {r : Bool} (h0 : ref23_Has a0 a1 = some r) : FnOK Try.prog 42 [] [.d (.slice (rowsF (iRow .i64) a0)), .d (.int .i64 a1)] (.d (.bool r)) [] := by
  unfold ref23_Has at h0
  refine fn_ok (nt := 17) (rs := [.tmp 4]) Try.func42 rfl Try.ntmps42 rfl (by simp) (by decide) rfl fun K => ?_
  refine kr [0, 1] (by simp; rfl) ?_
  refine tr_seq ?_
  refine kr [1, 7, 8, 9] (by simp; rfl) ?_
  replace h0 := bnd h0; obtain ⟨e1, hI1, h0⟩ := h0
  refine tjv (fun v1 : Unit => ({ nt := 17, env := [], box := [], vec := [] } : St)) (fun v1 => .inl v1 = e1) (fun v1 hI1e _ W1 => ?_) ?_
  · subst hI1e
    dsimp only at h0
    refine tr_wk W1 ?_
    refine kr [4] (by simp; rfl) ?_
    cases h0
    exact tr_ret ⟨[], by simp, rfl, by simp⟩
  · refine tr_block (tr_iter (fun s2 : Int => ({ nt := 17, env := [(1, .d (.int .i64 a1)), (7, .d (.slice (rowsF (iRow .i64) a0))), (8, .d (.int .i64 ((a0).length : Int))), (9, .d (.int .i64 s2))], box := [], vec := [] } : St)) hI1 (wk (by simp [weak_iff])) fun G1 s2 o1 h1 hg1 he1 => ?_)
    unfold ref23_Has_l0 at h1
    refine kr [1, 7, 8, 9, 10] (by simp; rfl) ?_
    refine tr_seq ?_
    refine tr_cond (b := (decide (s2 < ((a0).length : Int)))) (by simp) (fun c5 => ?_) (fun c5 => ?_)
    · rw [if_pos c5] at h1
      refine tr_skip ?_
      refine tr_seq ?_
      refine tr_block ?_
      replace h1 := bnd h1; obtain ⟨x3, p3, h1⟩ := h1
      replace p3 := idx_some p3
      have p3' := p3; try simp at p3'
      refine kr [1, 6, 7, 8, 9] (by simp [p3, p3']; rfl) ?_
      refine kr [1, 7, 8, 9, 15] (by simp; rfl) ?_
      refine tr_cond (b := (x3 == a1)) (by simp) (fun c6 => ?_) (fun c6 => ?_)
      · rw [if_pos c6] at h1
        refine kr [4] (by simp; rfl) ?_
        have k1 := he1 _ (Option.some.inj h1)
        subst k1
        dsimp only at h0
        cases h0
        exact tr_ret ⟨[], by simp, rfl, by simp⟩
      · rw [if_neg (by rw [c6]; decide)] at h1
        refine tr_skip ?_
        refine lr (by simp; rfl) ?_
        exact ⟨_, hg1 _ (Option.some.inj h1), wk (by simp [weak_iff])⟩
    · rw [if_neg (by rw [c5]; decide)] at h1
      refine tr_exit ?_
      exact ⟨_, he1 _ (Option.some.inj h1), wk (by simp [weak_iff])⟩
set_option maxHeartbeats 1000000 in
theorem law33_StepsServe_ok {a0 : List Int} {r : Bool} (h0 : law33_StepsServe a0 = some r) : FnOK Try.prog 10 [] [.d (.slice (rowsF (iRow .i64) a0))] (.d (.bool r)) [] := by
  unfold law33_StepsServe at h0
  refine fn_ok (nt := 91) (rs := [.tmp 2]) Try.func10 rfl Try.ntmps10 rfl (by simp) (by decide) rfl fun K => ?_
  refine kr [0] (by simp; rfl) ?_
  refine tr_seq ?_
  refine kr [0, 19] (by simp; rfl) ?_
  refine tr_cond (b := (decide (300 < ((a0).length : Int)))) (by simp) (fun c1 => ?_) (fun c1 => ?_)
  · rw [if_pos c1] at h0
    refine kc ?_
    replace h0 := bnd h0; obtain ⟨y1, hy1, h0⟩ := h0
    refine kcall [20] [] (law33_awake_ok hy1) rfl rfl rfl Try.call43 (by simp) (by simp; rfl) ?_
    refine ko [2] 1 (by simp; rfl) ?_
    refine tops_nil ?_
    cases h0
    exact tr_ret ⟨[], by simp, rfl, by simp⟩
  · rw [if_neg (by rw [c1]; decide)] at h0
    refine tr_skip ?_
    refine kr [3] (by simp; rfl) ?_
    refine kc ?_
    refine ko [3, 24] 1 (by simp; rfl) ?_
    replace h0 := bnd h0; obtain ⟨y2, hy2, h0⟩ := h0
    refine kcall [3, 25] [23] (make_Fleet_ok hy2) rfl rfl rfl Try.call18 (by simp) (by simp; rfl) ?_
    refine ko [3, 4] 2 (by simp; rfl) ?_
    refine tops_nil ?_
    refine kc ?_
    refine ko [3, 4, 26, 27] 2 (by simp; rfl) ?_
    replace h0 := bnd h0; obtain ⟨y3, hy3, h0⟩ := h0
    refine kcall [3, 4, 28] [23] (make_State_ok hy3) rfl rfl rfl Try.call19 (by simp) (by simp; rfl) ?_
    refine ko [3, 4, 5] 2 (by simp; rfl) ?_
    refine tops_nil ?_
    refine kc ?_
    refine ko [4, 5, 29, 30, 31] 3 (by simp; rfl) ?_
    replace h0 := bnd h0; obtain ⟨y4, hy4, h0⟩ := h0
    refine kcall [4, 5, 32] [23] (make_SafeSteps_ok hy4) rfl rfl rfl Try.call52 (by simp) (by simp; rfl) ?_
    refine ko [4, 5, 6] 1 (by simp; rfl) ?_
    refine tops_nil ?_
    refine kc ?_
    refine ko [4, 5, 6, 34, 35, 36] 3 (by simp; rfl) ?_
    replace h0 := bnd h0; obtain ⟨y5, hy5, h0⟩ := h0
    refine kcall [4, 5, 6, 37] [] (steps_Fault_ok hy5) rfl rfl rfl Try.call53 (by simp) (by simp; rfl) ?_
    refine ko [4, 5, 6, 7, 8] 5 (by simp; rfl) ?_
    refine tops_nil ?_
    refine kc ?_
    refine ko [4, 5, 6, 7, 8, 41, 42, 43] 3 (by simp; rfl) ?_
    replace h0 := bnd h0; obtain ⟨y6, hy6, h0⟩ := h0
    refine kcall [4, 5, 6, 7, 8, 44] [] (steps_Run_ok hy6) rfl rfl rfl Try.call50 (by simp) (by simp; rfl) ?_
    refine ko [4, 5, 6, 7, 8, 9, 10] 5 (by simp; rfl) ?_
    refine tops_nil ?_
    refine tr_seq ?_
    replace h0 := bnd h0; obtain ⟨v7, hvv7, h0⟩ := h0
    refine sjv (fun v7_ : Bool => ({ nt := 91, env := [(4, .ptr 4 0), (5, .ptr 5 0), (9, .d (.slice (rowsF api_Rotation_row y6.1))), (65, .d (.bool v7_))], box := [(4, [.d (.int .i64 y2.1.Slots), .d (.slice (rowsF api_Consumer_row y2.1.Consumers))]), (5, [.d (.int .i64 y3.1.Known), .d (.int .i64 y3.1.Valid), .d (.slice (rowsF api_Unit_row y3.1.Units))])], vec := [] } : St)) (fun v7_ => v7 = v7_) (fun v7_ e => ?_) ?_
    · subst e
      refine tr_cond (b := v7) (by simp) (fun c8 => ?_) (fun c8 => ?_)
      · rw [if_pos c8] at h0
        refine kr [2] (by simp; rfl) ?_
        cases h0
        exact tr_ret ⟨[], by simp, rfl, by simp⟩
      · rw [if_neg (by rw [c8]; decide)] at h0
        refine tr_skip ?_
        refine kc ?_
        refine ko [4, 9, 66, 67] 2 (by simp; rfl) ?_
        replace h0 := bnd h0; obtain ⟨y8, hy8, h0⟩ := h0
        refine kcall [4, 9, 68] [] (ref32_Served_ok hy8) rfl rfl rfl Try.call37 (by simp) (by simp; rfl) ?_
        refine ko [4, 9, 11] 1 (by simp; rfl) ?_
        refine tops_nil ?_
        refine tr_seq ?_
        refine kr [4, 11, 69, 70, 71] (by simp; rfl) ?_
        replace h0 := bnd h0; obtain ⟨e1, hI1, h0⟩ := h0
        refine tjv (fun v9 : Unit => ({ nt := 91, env := [], box := [], vec := [] } : St)) (fun v9 => .inl v9 = e1) (fun v9 hI1e _ W1 => ?_) ?_
        · subst hI1e
          dsimp only at h0
          refine tr_wk W1 ?_
          refine kc ?_
          replace h0 := bnd h0; obtain ⟨y10, hy10, h0⟩ := h0
          refine kcall [90] [] (law33_awake_ok hy10) rfl rfl rfl Try.call43 (by simp) (by simp; rfl) ?_
          refine ko [2] 1 (by simp; rfl) ?_
          refine tops_nil ?_
          cases h0
          exact tr_ret ⟨[], by simp, rfl, by simp⟩
        · refine tr_block (tr_iter (fun s11 : Int => ({ nt := 91, env := [(4, .ptr 4 0), (11, .d (.slice (rowsF (iRow .i64) y8))), (69, .d (.slice (rowsF api_Rotation_row y6.1))), (70, .d (.int .i64 ((y6.1).length : Int))), (71, .d (.int .i64 s11))], box := [(4, [.d (.int .i64 y2.1.Slots), .d (.slice (rowsF api_Consumer_row y2.1.Consumers))])], vec := [] } : St)) hI1 (wk (by simp [weak_iff])) fun G1 s11 o1 h1 hg1 he1 => ?_)
          unfold law33_StepsServe_l0 at h1
          refine kr [4, 11, 69, 70, 71, 72] (by simp; rfl) ?_
          refine tr_seq ?_
          refine tr_cond (b := (decide (s11 < ((y6.1).length : Int)))) (by simp) (fun c19 => ?_) (fun c19 => ?_)
          · rw [if_pos c19] at h1
            refine tr_skip ?_
            refine tr_seq ?_
            refine tr_block ?_
            replace h1 := bnd h1; obtain ⟨x12, p7, h1⟩ := h1
            replace p7 := idx_some p7
            have p7' := p7; try simp at p7'
            refine kr [4, 11, 13, 69, 70, 71] (by simp [p7, p7']; rfl) ?_
            refine kc ?_
            refine ko [4, 11, 69, 70, 71, 75, 76] 2 (by simp; rfl) ?_
            replace h1 := bnd h1; obtain ⟨y13, hy13, h1⟩ := h1
            refine kcall [4, 11, 69, 70, 71, 77] [] (ref32_Served_ok hy13) rfl rfl rfl Try.call37 (by simp) (by simp; rfl) ?_
            refine ko [4, 11, 14, 69, 70, 71] 1 (by simp; rfl) ?_
            refine tops_nil ?_
            refine kr [4, 11, 14, 69, 70, 71, 78, 79, 80] (by simp; rfl) ?_
            replace h1 := bnd h1; obtain ⟨e2, hI2, h1⟩ := h1
            refine tjv (fun v14 : Unit => ({ nt := 91, env := [(4, .ptr 4 0), (11, .d (.slice (rowsF (iRow .i64) y8))), (69, .d (.slice (rowsF api_Rotation_row y6.1))), (70, .d (.int .i64 ((y6.1).length : Int))), (71, .d (.int .i64 s11))], box := [(4, [.d (.int .i64 y2.1.Slots), .d (.slice (rowsF api_Consumer_row y2.1.Consumers))])], vec := [] } : St)) (fun v14 => .inl v14 = e2) (fun v14 hI2e _ W2 => ?_) ?_
            · subst hI2e
              dsimp only at h1
              refine tr_wk W2 ?_
              refine lr (by simp; rfl) ?_
              exact ⟨_, hg1 _ (Option.some.inj h1), wk (by simp [weak_iff])⟩
            · refine tr_block (tr_iter (fun s15 : Int => ({ nt := 91, env := [(4, .ptr 4 0), (11, .d (.slice (rowsF (iRow .i64) y8))), (14, .d (.slice (rowsF (iRow .i64) y13))), (69, .d (.slice (rowsF api_Rotation_row y6.1))), (70, .d (.int .i64 ((y6.1).length : Int))), (71, .d (.int .i64 s11)), (78, .d (.slice (rowsF (iRow .i64) y8))), (79, .d (.int .i64 ((y8).length : Int))), (80, .d (.int .i64 s15))], box := [(4, [.d (.int .i64 y2.1.Slots), .d (.slice (rowsF api_Consumer_row y2.1.Consumers))])], vec := [] } : St)) hI2 (wk (by simp [weak_iff])) fun G2 s15 o2 h2 hg2 he2 => ?_)
              unfold law33_StepsServe_l1 at h2
              refine kr [4, 11, 14, 69, 70, 71, 78, 79, 80, 81] (by simp; rfl) ?_
              refine tr_seq ?_
              refine tr_cond (b := (decide (s15 < ((y8).length : Int)))) (by simp) (fun c24 => ?_) (fun c24 => ?_)
              · rw [if_pos c24] at h2
                refine tr_skip ?_
                refine tr_seq ?_
                refine tr_block ?_
                replace h2 := bnd h2; obtain ⟨x16, p10, h2⟩ := h2
                replace p10 := idx_some p10
                have p10' := p10; try simp at p10'
                refine kr [4, 11, 14, 16, 69, 70, 71, 78, 79, 80] (by simp [p10, p10']; rfl) ?_
                refine kc ?_
                refine ko [4, 11, 14, 69, 70, 71, 78, 79, 80, 84, 85] 2 (by simp; rfl) ?_
                replace h2 := bnd h2; obtain ⟨y17, hy17, h2⟩ := h2
                refine kcall [4, 11, 14, 69, 70, 71, 78, 79, 80, 86] [] (ref23_Has_ok hy17) rfl rfl rfl Try.call42 (by simp) (by simp; rfl) ?_
                refine ko [4, 11, 14, 69, 70, 71, 78, 79, 80, 87] 1 (by simp; rfl) ?_
                refine tops_nil ?_
                refine tr_cond (b := (!y17)) (by simp) (fun c25 => ?_) (fun c25 => ?_)
                · rw [if_pos c25] at h2
                  refine kr [2] (by simp; rfl) ?_
                  have k2 := he2 _ (Option.some.inj h2)
                  subst k2
                  dsimp only at h1
                  have k1 := he1 _ (Option.some.inj h1)
                  subst k1
                  dsimp only at h0
                  cases h0
                  exact tr_ret ⟨[], by simp, rfl, by simp⟩
                · rw [if_neg (by rw [c25]; decide)] at h2
                  refine tr_skip ?_
                  refine lr (by simp; rfl) ?_
                  exact ⟨_, hg2 _ (Option.some.inj h2), wk (by simp [weak_iff])⟩
              · rw [if_neg (by rw [c24]; decide)] at h2
                refine tr_exit ?_
                exact ⟨_, he2 _ (Option.some.inj h2), wk (by simp [weak_iff])⟩
          · rw [if_neg (by rw [c19]; decide)] at h1
            refine tr_exit ?_
            exact ⟨_, he1 _ (Option.some.inj h1), wk (by simp [weak_iff])⟩
    · refine kc1 ?_
      refine ko [4, 5, 6, 7, 9, 10, 49] 3 (by simp; rfl) ?_
      refine tops_split 49 (y5.2 != 0) (by simp) (fun c26 => ?_) (fun c26 => ?_)
      · rw [c26] at hvv7
        refine ko [4, 5, 6, 7, 9, 53] 4 (by simp; rfl) ?_
        refine kskip 4 [] (by kernel_rfl) ?_
        refine ko [4, 5, 6, 9, 59] 2 (by simp; rfl) ?_
        refine kskip 5 [] (by kernel_rfl) ?_
        refine ko [4, 5, 9, 65] 1 (by simp; rfl) ?_
        refine tops_nil ?_
        cases hvv7
        exact ⟨_, rfl, wk (by simp [weak_iff])⟩
      · rw [c26] at hvv7
        refine ko [4, 5, 6, 7, 9, 53] 4 (by simp; rfl) ?_
        refine tops_split 53 (y6.2 != 0) (by simp) (fun c27 => ?_) (fun c27 => ?_)
        · rw [c27] at hvv7
          refine kskip 4 [] (by kernel_rfl) ?_
          refine ko [4, 5, 6, 9, 59] 2 (by simp; rfl) ?_
          refine kskip 5 [] (by kernel_rfl) ?_
          refine ko [4, 5, 9, 65] 1 (by simp; rfl) ?_
          refine tops_nil ?_
          cases hvv7
          exact ⟨_, rfl, wk (by simp [weak_iff])⟩
        · rw [c27] at hvv7
          refine ko [4, 5, 6, 9, 59] 6 (by simp; rfl) ?_
          refine tops_split 59 (y5.1 != ((y4.1).length : Int)) (by simp) (fun c28 => ?_) (fun c28 => ?_)
          · rw [c28] at hvv7
            refine kskip 5 [] (by kernel_rfl) ?_
            refine ko [4, 5, 9, 65] 1 (by simp; rfl) ?_
            refine tops_nil ?_
            cases hvv7
            exact ⟨_, rfl, wk (by simp [weak_iff])⟩
          · rw [c28] at hvv7
            refine ko [4, 5, 9, 65] 6 (by simp; rfl) ?_
            refine tops_nil ?_
            cases hvv7
            exact ⟨_, rfl, wk (by simp [weak_iff])⟩
end Go.Vl
