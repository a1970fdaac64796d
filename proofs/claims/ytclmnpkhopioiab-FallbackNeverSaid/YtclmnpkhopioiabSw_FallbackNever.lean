/- Walks: each function of the given program computes what its mirror says. Conditions: none. -/
import Derived.Test.YtclmnpkhopioiabSw3
set_option linter.unusedSimpArgs false
set_option linter.unusedVariables false
namespace Go.Vl
open Go Go.Proofs
set_option maxHeartbeats 1000000 in
theorem make_SafeSteps_ok {a0 : make_Tape} {a1 : api_Fleet} {a2 : api_Rotation} {a3 : Int} {r : (List api_Step) × make_Tape} (h0 : make_SafeSteps a0 a1 a2 a3 = some r) : FnOK Try.prog 44 [make_Tape_av a0] [.ptr (InO 0) 0, .agg (api_Fleet_av a1), .agg (api_Rotation_av a2), .d (.int .i64 a3)] (.d (.slice (rowsF api_Step_row r.1))) [make_Tape_av r.2] := by
  unfold make_SafeSteps at h0
  refine fn_ok (nt := 44) (rs := [.tmp 8]) Try.func44 rfl Try.ntmps44 rfl (by simp) (by decide) rfl fun K => ?_
  refine kr [0, 3, 5, 6] (by simp; rfl) ?_
  refine kr [0, 3, 5, 6, 9] (by simp; rfl) ?_
  refine tr_seq ?_
  refine kr [0, 3, 5, 6, 9, 10] (by simp; rfl) ?_
  refine tr_wk (wk_own 9 42 43 2 (by simp) (by simp)) ?_
  replace h0 := bnd h0; obtain ⟨e1, hI1, h0⟩ := h0
  refine tjv (fun v1 : (List Int) × Int × (List api_Step) => ({ nt := 44, env := [(9, .vec 42)], box := [(1000000, [.d (.slice (rowsF (iRow .i64) v1.1)), .d (.int .i64 v1.2.1)])], vec := [(42, ⟨43, 2, rowsF api_Step_row v1.2.2⟩)] } : St)) (fun v1 => .inl v1 = e1) (fun v1 hI1e _ W1 => ?_) ?_
  · subst hI1e
    dsimp only at h0
    refine tr_wk W1 ?_
    refine kr [8] (by simp; rfl) ?_
    cases h0
    exact tr_ret ⟨[42], by simp, rfl, by simp⟩
  · refine tr_block (tr_iter (fun s2 : Int × (List Int) × Int × Int × Int × (List api_Unit) × (List api_Step) => ({ nt := 44, env := [(0, .ptr 1000000 0), (3, .d (.int .i64 a3)), (5, .ptr 5 0), (6, .ptr 6 0), (9, .vec 42), (10, .d (.int .i64 s2.1))], box := [(5, [.d (.int .i64 a1.Slots), .d (.slice (rowsF api_Consumer_row a1.Consumers))]), (6, [.d (.int .i64 s2.2.2.2.1), .d (.int .i64 s2.2.2.2.2.1), .d (.slice (rowsF api_Unit_row s2.2.2.2.2.2.1))]), (1000000, [.d (.slice (rowsF (iRow .i64) s2.2.1)), .d (.int .i64 s2.2.2.1)])], vec := [(42, ⟨43, 2, rowsF api_Step_row s2.2.2.2.2.2.2⟩)] } : St)) hI1 (wk (by simp [weak_iff])) fun G1 s2 o1 h1 hg1 he1 => ?_)
    unfold make_SafeSteps_l0 at h1
    refine tr_seq ?_
    refine kr [0, 3, 5, 6, 9, 10, 15] (by simp; rfl) ?_
    refine tr_cond (b := (decide (s2.1 < a3))) (by simp) (fun c7 => ?_) (fun c7 => ?_)
    · rw [if_pos c7] at h1
      refine tr_skip ?_
      refine tr_seq ?_
      refine tr_block ?_
      refine kc ?_
      refine ko [0, 3, 5, 6, 9, 10, 18, 19] 2 (by simp; rfl) ?_
      replace h1 := bnd h1; obtain ⟨y3, hy3, h1⟩ := h1
      refine kcall [0, 3, 5, 6, 9, 10, 20] [] (ref33_Choices_ok hy3) rfl rfl rfl Try.call20 (by simp) (by simp; rfl) ?_
      refine ko [0, 3, 5, 6, 9, 10, 11] 1 (by simp; rfl) ?_
      refine tops_nil ?_
      refine tr_seq ?_
      refine kr [0, 3, 5, 6, 9, 10, 11, 23] (by simp; rfl) ?_
      refine tr_cond (b := (((y3).length : Int) == 0)) (by simp) (fun c8 => ?_) (fun c8 => ?_)
      · rw [if_pos c8] at h1
        refine kr [8] (by simp; rfl) ?_
        have k1 := he1 _ (Option.some.inj h1)
        subst k1
        dsimp only at h0
        cases h0
        exact tr_ret ⟨[42], by simp, rfl, by simp⟩
      · rw [if_neg (by rw [c8]; decide)] at h1
        refine tr_skip ?_
        refine kc ?_
        refine ko [0, 3, 5, 6, 9, 10, 25, 26, 28] 4 (by simp; rfl) ?_
        replace h1 := bnd h1; obtain ⟨y4, hy4, h1⟩ := h1
        refine kcall [0, 3, 5, 6, 9, 10, 25, 29] [1000000] (make_Tape_Next_ok hy4) rfl rfl rfl Try.call22 (by simp) (by simp; rfl) ?_
        replace h1 := bnd h1; obtain ⟨x5, p6, h1⟩ := h1
        replace p6 := idx_some p6
        have p6' := p6; try simp at p6'
        refine ko [0, 3, 5, 6, 9, 10, 12] 4 (by simp [p6, p6']; rfl) ?_
        refine tops_nil ?_
        refine kc ?_
        refine ko [0, 3, 5, 6, 9, 10, 12, 33, 34, 35] 3 (by simp; rfl) ?_
        replace h1 := bnd h1; obtain ⟨y6, hy6, h1⟩ := h1
        refine kcall [0, 3, 5, 6, 9, 10, 12, 36] [] (ref33_Apply_ok hy6) rfl rfl rfl Try.call21 (by simp) (by simp; rfl) ?_
        refine ko [0, 3, 5, 6, 9, 10, 12] 4 (by simp; rfl) ?_
        refine tops_nil ?_
        replace h1 := bnd h1; obtain ⟨_, p7, h1⟩ := h1
        replace p7 := ck_some p7
        have p7' := p7; try simp at p7'
        refine lr (by simp [p7, p7']; rfl) ?_
        refine lr (by simp; rfl) ?_
        exact ⟨_, hg1 _ (Option.some.inj h1), wk (by simp [weak_iff])⟩
    · rw [if_neg (by rw [c7]; decide)] at h1
      refine tr_exit ?_
      exact ⟨_, he1 _ (Option.some.inj h1), wk (by simp [weak_iff])⟩
set_option maxHeartbeats 1000000 in
theorem law39_FallbackNever_ok {a0 : List Int} {r : Bool} (h0 : law39_FallbackNever a0 = some r) : FnOK Try.prog 9 [] [.d (.slice (rowsF (iRow .i64) a0))] (.d (.bool r)) [] := by
  unfold law39_FallbackNever at h0
  refine fn_ok (nt := 85) (rs := [.tmp 2]) Try.func9 rfl Try.ntmps9 rfl (by simp) (by decide) rfl fun K => ?_
  refine kr [0] (by simp; rfl) ?_
  refine tr_seq ?_
  refine kr [0, 14] (by simp; rfl) ?_
  refine tr_cond (b := (decide (300 < ((a0).length : Int)))) (by simp) (fun c1 => ?_) (fun c1 => ?_)
  · rw [if_pos c1] at h0
    refine kc ?_
    replace h0 := bnd h0; obtain ⟨y1, hy1, h0⟩ := h0
    refine kcall [15] [] (law39_awake_ok hy1) rfl rfl rfl Try.call34 (by simp) (by simp; rfl) ?_
    refine ko [2] 1 (by simp; rfl) ?_
    refine tops_nil ?_
    cases h0
    exact tr_ret ⟨[], by simp, rfl, by simp⟩
  · rw [if_neg (by rw [c1]; decide)] at h0
    refine tr_skip ?_
    refine kr [3] (by simp; rfl) ?_
    refine kc ?_
    refine ko [3, 19] 1 (by simp; rfl) ?_
    replace h0 := bnd h0; obtain ⟨y2, hy2, h0⟩ := h0
    refine kcall [3, 20] [18] (make_Fleet_ok hy2) rfl rfl rfl Try.call17 (by simp) (by simp; rfl) ?_
    refine ko [3, 4] 2 (by simp; rfl) ?_
    refine tops_nil ?_
    refine kc ?_
    refine ko [3, 4, 21, 22] 2 (by simp; rfl) ?_
    replace h0 := bnd h0; obtain ⟨y3, hy3, h0⟩ := h0
    refine kcall [3, 4, 23] [18] (make_State_ok hy3) rfl rfl rfl Try.call18 (by simp) (by simp; rfl) ?_
    refine ko [3, 4, 5] 2 (by simp; rfl) ?_
    refine tops_nil ?_
    refine kd [[], [], [], [], [], [2, 3, 4], [0, 1, 5], [6], [7], [7], [8], [9]] [5] [(18, [5])] none [] 12 fol (by decide +kernel) (by simp) ?_
    refine dr_go 0 2 rfl (by simp (maxSteps := 1000000); rfl) ?_
    refine dr_go 2 2 rfl (by simp (maxSteps := 1000000); rfl) ?_
    refine dr_go 4 1 rfl (by simp (maxSteps := 1000000); rfl) ?_
    replace h0 := bnd h0; obtain ⟨y4, hy4, h0⟩ := h0
    refine dr_call 5 [18] (make_SafeSteps_ok hy4) rfl rfl rfl rfl rfl Try.call44 (by simp) ?_
    replace h0 := bnd h0; obtain ⟨y5, hy5, h0⟩ := h0
    refine dr_call 6 [] (ref33_Run_ok hy5) rfl rfl rfl rfl rfl Try.call43 (by simp) ?_
    refine dr_go 7 2 rfl (by simp (maxSteps := 1000000); rfl) ?_
    refine dr_go 9 2 rfl (by simp (maxSteps := 1000000); rfl) ?_
    refine dr_go 11 1 rfl (by simp (maxSteps := 1000000); rfl) ?_
    refine dr_end rfl (tops_nil ?_)
    refine tr_seq ?_
    refine kr [3, 4, 5, 6, 35] (by simp; rfl) ?_
    refine tr_cond (b := (y5.2 != 0)) (by simp) (fun c2 => ?_) (fun c2 => ?_)
    · rw [if_pos c2] at h0
      refine kr [2] (by simp; rfl) ?_
      cases h0
      exact tr_ret ⟨[], by simp, rfl, by simp⟩
    · rw [if_neg (by rw [c2]; decide)] at h0
      refine tr_skip ?_
      refine tr_seq ?_
      refine kr [3, 4, 5, 36, 37, 38] (by simp; rfl) ?_
      replace h0 := bnd h0; obtain ⟨e1, hI1, h0⟩ := h0
      refine tjv (fun v6 : Unit => ({ nt := 85, env := [(3, .ptr 18 0), (4, .ptr 4 0)], box := [(4, [.d (.int .i64 y2.1.Slots), .d (.slice (rowsF api_Consumer_row y2.1.Consumers))]), (18, [.d (.slice (rowsF (iRow .i64) y4.2.L)), .d (.int .i64 y4.2.at_)])], vec := [] } : St)) (fun v6 => .inl v6 = e1) (fun v6 hI1e _ W1 => ?_) ?_
      · subst hI1e
        dsimp only at h0
        refine tr_wk W1 ?_
        refine kd [[], [], [0, 1], [], [], [2, 3, 4], [], [], [2, 6, 7], [5, 6, 7]] [2, 5, 6, 7, 8, 9] [(10, [6, 8]), (11, [7, 9]), (18, [2, 5])] none [] 10 fol (by decide +kernel) (by simp) ?_
        refine dr_go 0 2 rfl (by simp (maxSteps := 1000000); rfl) ?_
        replace h0 := bnd h0; obtain ⟨y7, hy7, h0⟩ := h0
        refine dr_call 2 [18] (make_State_ok hy7) rfl rfl rfl rfl rfl Try.call18 (by simp) ?_
        refine dr_go 3 2 rfl (by simp (maxSteps := 1000000); rfl) ?_
        replace h0 := bnd h0; obtain ⟨y8, hy8, h0⟩ := h0
        refine dr_call 5 [18] (make_State_ok hy8) rfl rfl rfl rfl rfl Try.call18 (by simp) ?_
        refine dr_go 6 2 rfl (by simp (maxSteps := 1000000); rfl) ?_
        refine dr_go 8 2 rfl (by simp (maxSteps := 1000000); rfl) ?_
        refine dr_end rfl (tops_nil ?_)
        refine tr_seq ?_
        replace h0 := bnd h0; obtain ⟨v9, hvv9, h0⟩ := h0
        refine sjv (fun v9_ : Bool => ({ nt := 85, env := [(4, .ptr 4 0), (10, .ptr 10 0), (77, .d (.bool v9_))], box := [(4, [.d (.int .i64 y2.1.Slots), .d (.slice (rowsF api_Consumer_row y2.1.Consumers))]), (10, [.d (.int .i64 y7.1.Known), .d (.int .i64 y7.1.Valid), .d (.slice (rowsF api_Unit_row y7.1.Units))])], vec := [] } : St)) (fun v9_ => v9 = v9_) (fun v9_ e => ?_) ?_
        · subst e
          refine tr_cond (b := v9) (by simp) (fun c13 => ?_) (fun c13 => ?_)
          · rw [if_pos c13] at h0
            refine kr [2] (by simp; rfl) ?_
            cases h0
            exact tr_ret ⟨[], by simp, rfl, by simp⟩
          · rw [if_neg (by rw [c13]; decide)] at h0
            refine tr_skip ?_
            replace h0 := bnd h0; obtain ⟨v10, hvv10, h0⟩ := h0
            refine sjv (fun v10_ : Bool => ({ nt := 85, env := [(2, .d (.bool v10_))], box := [], vec := [] } : St)) (fun v10_ => v10 = v10_) (fun v10_ e => ?_) ?_
            · subst e
              cases h0
              exact tr_ret ⟨[], by simp, rfl, by simp⟩
            · refine kc1 ?_
              refine ko [78, 79, 80] 3 (by simp; rfl) ?_
              replace hvv10 := bnd hvv10; obtain ⟨y11, hy11, hvv10⟩ := hvv10
              refine kcall [81] [] (fallback_Forward_ok hy11) rfl rfl rfl Try.call41 (by simp) (by simp; rfl) ?_
              refine ko [82] 1 (by simp; rfl) ?_
              refine tops_split 82 y11 (by simp) (fun c16 => ?_) (fun c16 => ?_)
              · rw [if_pos c16] at hvv10
                replace hvv10 := bnd hvv10; obtain ⟨y12, hy12, hvv10⟩ := hvv10
                refine kcall [82, 83] [] (law39_awake_ok hy12) rfl rfl rfl Try.call34 (by simp) (by simp; rfl) ?_
                refine ko [2] 2 (by simp; rfl) ?_
                refine tops_nil ?_
                cases hvv10
                exact ⟨_, rfl, wk (by simp [weak_iff])⟩
              · rw [if_neg (by rw [c16]; decide)] at hvv10
                refine ko [2] 3 (by simp; rfl) ?_
                refine tops_nil ?_
                cases hvv10
                exact ⟨_, rfl, wk (by simp [weak_iff])⟩
        · refine kc1 ?_
          refine ko [4, 10, 11, 54, 55, 56] 3 (by simp; rfl) ?_
          replace hvv9 := bnd hvv9; obtain ⟨y13, hy13, hvv9⟩ := hvv9
          refine kcall [4, 10, 11, 57] [] (fallback_Forward_ok hy13) rfl rfl rfl Try.call41 (by simp) (by simp; rfl) ?_
          refine ko [4, 10, 11, 58] 1 (by simp; rfl) ?_
          refine tops_split 58 y13 (by simp) (fun c17 => ?_) (fun c17 => ?_)
          · rw [if_pos c17] at hvv9
            refine ko [4, 10, 11, 58, 59, 60, 61] 3 (by simp; rfl) ?_
            replace hvv9 := bnd hvv9; obtain ⟨y14, hy14, hvv9⟩ := hvv9
            refine kcall [4, 10, 11, 58, 62] [] (fallback_Forward_ok hy14) rfl rfl rfl Try.call41 (by simp) (by simp; rfl) ?_
            refine ko [4, 10, 11, 64] 2 (by simp; rfl) ?_
            refine tops_split 64 y14 (by simp) (fun c18 => ?_) (fun c18 => ?_)
            · rw [if_pos c18] at hvv9
              refine ko [4, 10, 11, 64, 70] 6 (by simp; rfl) ?_
              refine tops_split 70 (y7.1.Known != y8.1.Known) (by simp) (fun c19 => ?_) (fun c19 => ?_)
              · rw [if_pos c19] at hvv9
                refine kskip 5 [] (by kernel_rfl) ?_
                refine ko [4, 10, 77] 2 (by simp; rfl) ?_
                refine tops_nil ?_
                cases hvv9
                exact ⟨_, rfl, wk (by simp [weak_iff])⟩
              · rw [if_neg (by rw [c19]; decide)] at hvv9
                refine ko [4, 10, 77] 7 (by simp; rfl) ?_
                refine tops_nil ?_
                cases hvv9
                exact ⟨_, rfl, wk (by simp [weak_iff])⟩
            · rw [if_neg (by rw [c18]; decide)] at hvv9
              refine kskip 12 [] (by kernel_rfl) ?_
              refine ko [4, 10, 77] 1 (by simp; rfl) ?_
              refine tops_nil ?_
              cases hvv9
              exact ⟨_, rfl, wk (by simp [weak_iff])⟩
          · rw [if_neg (by rw [c17]; decide)] at hvv9
            refine kskip 4 [] (by kernel_rfl) ?_
            refine ko [4, 10, 11, 64] 2 (by simp; rfl) ?_
            refine kskip 12 [] (by kernel_rfl) ?_
            refine ko [4, 10, 77] 1 (by simp; rfl) ?_
            refine tops_nil ?_
            cases hvv9
            exact ⟨_, rfl, wk (by simp [weak_iff])⟩
      · refine tr_block (tr_iter (fun s15 : Int => ({ nt := 85, env := [(3, .ptr 18 0), (4, .ptr 4 0), (5, .ptr 5 0), (36, .d (.slice (rowsF api_Rotation_row y5.1))), (37, .d (.int .i64 ((y5.1).length : Int))), (38, .d (.int .i64 s15))], box := [(4, [.d (.int .i64 y2.1.Slots), .d (.slice (rowsF api_Consumer_row y2.1.Consumers))]), (5, [.d (.int .i64 y3.1.Known), .d (.int .i64 y3.1.Valid), .d (.slice (rowsF api_Unit_row y3.1.Units))]), (18, [.d (.slice (rowsF (iRow .i64) y4.2.L)), .d (.int .i64 y4.2.at_)])], vec := [] } : St)) hI1 (wk (by simp [weak_iff])) fun G1 s15 o1 h1 hg1 he1 => ?_)
        unfold law39_FallbackNever_l0 at h1
        refine kr [3, 4, 5, 36, 37, 38, 39] (by simp; rfl) ?_
        refine tr_seq ?_
        refine tr_cond (b := (decide (s15 < ((y5.1).length : Int)))) (by simp) (fun c20 => ?_) (fun c20 => ?_)
        · rw [if_pos c20] at h1
          refine tr_skip ?_
          refine tr_seq ?_
          refine tr_block ?_
          replace h1 := bnd h1; obtain ⟨x16, p3, h1⟩ := h1
          replace p3 := idx_some p3
          have p3' := p3; try simp at p3'
          refine kr [3, 4, 5, 9, 36, 37, 38] (by simp [p3, p3']; rfl) ?_
          refine kc ?_
          refine ko [3, 4, 5, 36, 37, 38, 42, 43, 44] 3 (by simp; rfl) ?_
          replace h1 := bnd h1; obtain ⟨y17, hy17, h1⟩ := h1
          refine kcall [3, 4, 5, 36, 37, 38, 45] [] (fallback_Forward_ok hy17) rfl rfl rfl Try.call41 (by simp) (by simp; rfl) ?_
          refine ko [3, 4, 5, 36, 37, 38, 46] 1 (by simp; rfl) ?_
          refine tops_nil ?_
          refine tr_cond (b := (!y17)) (by simp) (fun c21 => ?_) (fun c21 => ?_)
          · rw [if_pos c21] at h1
            refine kr [2] (by simp; rfl) ?_
            have k1 := he1 _ (Option.some.inj h1)
            subst k1
            dsimp only at h0
            cases h0
            exact tr_ret ⟨[], by simp, rfl, by simp⟩
          · rw [if_neg (by rw [c21]; decide)] at h1
            refine tr_skip ?_
            refine lr (by simp; rfl) ?_
            exact ⟨_, hg1 _ (Option.some.inj h1), wk (by simp [weak_iff])⟩
        · rw [if_neg (by rw [c20]; decide)] at h1
          refine tr_exit ?_
          exact ⟨_, he1 _ (Option.some.inj h1), wk (by simp [weak_iff])⟩
end Go.Vl
