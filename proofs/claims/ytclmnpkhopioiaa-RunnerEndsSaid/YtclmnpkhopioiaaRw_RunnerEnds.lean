/- Walks: each function of the given program computes what its mirror says. Conditions: none. -/
import Derived.Test.YtclmnpkhopioiaaRw2
set_option linter.unusedSimpArgs false
set_option linter.unusedVariables false
namespace Go.Vl
open Go Go.Proofs
set_option maxHeartbeats 1000000 in
theorem law37_RunnerEnds_ok {a0 : List Int} {r : Bool} (h0 : law37_RunnerEnds a0 = some r) : FnOK Try.prog 13 [] [.d (.slice (rowsF (iRow .i64) a0))] (.d (.bool r)) [] := by
  unfold law37_RunnerEnds at h0
  refine fn_ok (nt := 161) (rs := [.tmp 2]) Try.func13 rfl Try.ntmps13 rfl (by simp) (by decide) rfl fun K => ?_
  refine kr [0] (by simp; rfl) ?_
  refine tr_seq ?_
  refine kr [0, 22] (by simp; rfl) ?_
  refine tr_cond (b := (decide (300 < ((a0).length : Int)))) (by simp) (fun c1 => ?_) (fun c1 => ?_)
  · rw [if_pos c1] at h0
    refine kc ?_
    replace h0 := bnd h0; obtain ⟨y1, hy1, h0⟩ := h0
    refine kcall [23] [] (law37_awake_ok hy1) rfl rfl rfl Try.call61 (by simp) (by simp; rfl) ?_
    refine ko [2] 1 (by simp; rfl) ?_
    refine tops_nil ?_
    cases h0
    exact tr_ret ⟨[], by simp, rfl, by simp⟩
  · rw [if_neg (by rw [c1]; decide)] at h0
    refine tr_skip ?_
    refine kr [3] (by simp; rfl) ?_
    refine kc ?_
    refine ko [3, 27] 1 (by simp; rfl) ?_
    replace h0 := bnd h0; obtain ⟨y2, hy2, h0⟩ := h0
    refine kcall [3, 28] [26] (make_Fleet_ok hy2) rfl rfl rfl Try.call18 (by simp) (by simp; rfl) ?_
    refine ko [3, 4] 2 (by simp; rfl) ?_
    refine tops_nil ?_
    refine kc ?_
    refine ko [3, 4, 29, 30] 2 (by simp; rfl) ?_
    replace h0 := bnd h0; obtain ⟨y3, hy3, h0⟩ := h0
    refine kcall [3, 4, 31] [26] (make_State_ok hy3) rfl rfl rfl Try.call19 (by simp) (by simp; rfl) ?_
    refine ko [3, 4, 5] 2 (by simp; rfl) ?_
    refine tops_nil ?_
    refine kc ?_
    refine ko [3, 4, 5, 32, 33, 34] 3 (by simp; rfl) ?_
    replace h0 := bnd h0; obtain ⟨y4, hy4, h0⟩ := h0
    refine kcall [3, 4, 5, 35] [26] (make_SafeSteps_ok hy4) rfl rfl rfl Try.call52 (by simp) (by simp; rfl) ?_
    refine ko [3, 4, 5, 6] 1 (by simp; rfl) ?_
    refine tops_nil ?_
    refine kc ?_
    refine ko [4, 5, 6, 36] 1 (by simp; rfl) ?_
    replace h0 := bnd h0; obtain ⟨y5, hy5, h0⟩ := h0
    refine kcall [4, 5, 6, 37] [26] (make_Outcomes_ok hy5) rfl rfl rfl Try.call63 (by simp) (by simp; rfl) ?_
    refine ko [4, 5, 6, 7] 1 (by simp; rfl) ?_
    refine tops_nil ?_
    refine kc ?_
    refine ko [4, 5, 6, 7, 39, 40, 41, 42] 4 (by simp; rfl) ?_
    replace h0 := bnd h0; obtain ⟨y6, hy6, h0⟩ := h0
    refine kcall [4, 5, 6, 7, 43] [] (runner_Run_ok hy6) rfl rfl rfl Try.call62 (by simp) (by simp; rfl) ?_
    refine ko [4, 5, 6, 7, 8, 9, 10] 8 (by simp; rfl) ?_
    refine tops_nil ?_
    refine kc ?_
    refine ko [4, 5, 6, 8, 9, 10, 48, 49, 50, 51] 4 (by simp; rfl) ?_
    replace h0 := bnd h0; obtain ⟨y7, hy7, h0⟩ := h0
    refine kcall [4, 5, 6, 8, 9, 10, 52] [] (runner_States_ok hy7) rfl rfl rfl Try.call64 (by simp) (by simp; rfl) ?_
    refine ko [4, 5, 6, 8, 9, 10, 11, 12] 5 (by simp; rfl) ?_
    refine tops_nil ?_
    refine kc ?_
    refine ko [4, 5, 6, 8, 9, 10, 11, 12, 56, 57, 58] 3 (by simp; rfl) ?_
    replace h0 := bnd h0; obtain ⟨y8, hy8, h0⟩ := h0
    refine kcall [4, 5, 6, 8, 9, 10, 11, 12, 59] [] (ref33_Run_ok hy8) rfl rfl rfl Try.call59 (by simp) (by simp; rfl) ?_
    refine ko [4, 5, 6, 8, 9, 10, 11, 12, 13, 14] 5 (by simp; rfl) ?_
    refine tops_nil ?_
    refine tr_seq ?_
    replace h0 := bnd h0; obtain ⟨v9, hvv9, h0⟩ := h0
    refine sjv (fun v9_ : Bool => ({ nt := 161, env := [(4, .ptr 4 0), (5, .ptr 5 0), (8, .ptr 8 0), (10, .d (.int .i64 y6.2.2)), (11, .d (.slice (rowsF api_Rotation_row y7.1))), (13, .d (.slice (rowsF api_Rotation_row y8.1))), (92, .d (.bool v9_))], box := [(4, [.d (.int .i64 y2.1.Slots), .d (.slice (rowsF api_Consumer_row y2.1.Consumers))]), (5, [.d (.int .i64 y3.1.Known), .d (.int .i64 y3.1.Valid), .d (.slice (rowsF api_Unit_row y3.1.Units))]), (8, [.d (.int .i64 y6.1.Known), .d (.int .i64 y6.1.Valid), .d (.slice (rowsF api_Unit_row y6.1.Units))])], vec := [] } : St)) (fun v9_ => v9 = v9_) (fun v9_ e => ?_) ?_
    · subst e
      refine tr_cond (b := v9) (by simp) (fun c18 => ?_) (fun c18 => ?_)
      · rw [if_pos c18] at h0
        refine kr [2] (by simp; rfl) ?_
        cases h0
        exact tr_ret ⟨[], by simp, rfl, by simp⟩
      · rw [if_neg (by rw [c18]; decide)] at h0
        refine tr_skip ?_
        replace h0 := bnd h0; obtain ⟨_, p1, h0⟩ := h0
        replace p1 := ck_some p1
        have p1' := p1; try simp at p1'
        refine kr [4, 5, 8, 10, 11, 13] (by simp [p1, p1']; rfl) ?_
        refine tr_seq ?_
        replace h0 := bnd h0; obtain ⟨v10, hvv10, h0⟩ := h0
        refine sjv (fun v10_ : Bool => ({ nt := 161, env := [(4, .ptr 4 0), (5, .ptr 5 0), (8, .ptr 8 0), (11, .d (.slice (rowsF api_Rotation_row y7.1))), (13, .vec 96), (109, .d (.bool v10_))], box := [(4, [.d (.int .i64 y2.1.Slots), .d (.slice (rowsF api_Consumer_row y2.1.Consumers))]), (5, [.d (.int .i64 y3.1.Known), .d (.int .i64 y3.1.Valid), .d (.slice (rowsF api_Unit_row y3.1.Units))]), (8, [.d (.int .i64 y6.1.Known), .d (.int .i64 y6.1.Valid), .d (.slice (rowsF api_Unit_row y6.1.Units))])], vec := [(96, ⟨33, 3, rowsF api_Rotation_row ([y3.1] ++ y8.1)⟩)] } : St)) (fun v10_ => v10 = v10_) (fun v10_ e => ?_) ?_
        · subst e
          refine tr_cond (b := v10) (by simp) (fun c23 => ?_) (fun c23 => ?_)
          · rw [if_pos c23] at h0
            refine kr [2] (by simp; rfl) ?_
            cases h0
            exact tr_ret ⟨[], by simp, rfl, by simp⟩
          · rw [if_neg (by rw [c23]; decide)] at h0
            refine tr_skip ?_
            refine tr_seq ?_
            refine kr [4, 5, 8, 11, 13, 110, 111, 112] (by simp; rfl) ?_
            replace h0 := bnd h0; obtain ⟨l11, hl11, h0⟩ := h0
            replace hl11 := Option.some.inj hl11
            replace h0 := bnd h0; obtain ⟨e1, hI1, h0⟩ := h0
            refine tjv (fun v12 : Unit => ({ nt := 161, env := [(5, .ptr 5 0), (8, .ptr 8 0), (11, .d (.slice (rowsF api_Rotation_row y7.1)))], box := [(5, [.d (.int .i64 y3.1.Known), .d (.int .i64 y3.1.Valid), .d (.slice (rowsF api_Unit_row y3.1.Units))]), (8, [.d (.int .i64 y6.1.Known), .d (.int .i64 y6.1.Valid), .d (.slice (rowsF api_Unit_row y6.1.Units))])], vec := [] } : St)) (fun v12 => .inl v12 = e1) (fun v12 hI1e _ W1 => ?_) ?_
            · subst hI1e
              dsimp only at h0
              refine tr_wk W1 ?_
              replace h0 := bnd h0; obtain ⟨v13, hvv13, h0⟩ := h0
              refine sjv (fun v13_ : Bool => ({ nt := 161, env := [(2, .d (.bool v13_))], box := [], vec := [] } : St)) (fun v13_ => v13 = v13_) (fun v13_ e => ?_) ?_
              · subst e
                cases h0
                exact tr_ret ⟨[], by simp, rfl, by simp⟩
              · refine kd1 [[], [0], [1], [], [2, 3], [4], [5], [5], [5, 7], [5, 8], [5, 6, 8, 9], [5, 8, 10], [5], [5, 8, 11, 12], [5, 8, 13], [8, 14], [8, 15], [8, 15, 16], [8, 17]] [] [] none [] 19 fol (by decide +kernel) (by simp) ?_
                replace hvv13 := bnd hvv13; obtain ⟨x14, p30, hvv13⟩ := hvv13
                replace p30 := idx_some p30
                have p30' := p30; try simp at p30'
                refine dr_go 0 2 rfl (by simp (maxSteps := 1000000) [p30, p30']; rfl) ?_
                refine dr_go 2 2 rfl (by simp (maxSteps := 1000000) [p30, p30']; rfl) ?_
                replace hvv13 := bnd hvv13; obtain ⟨y15, hy15, hvv13⟩ := hvv13
                refine dr_call 4 [] (ref32_Same_ok hy15) rfl rfl rfl rfl rfl Try.call30 (by simp) ?_
                refine dr_go 5 1 rfl (by simp (maxSteps := 1000000); rfl) ?_
                refine dr_split 5 148 y15 (by simp) (fun c48 => ?_) (fun c48 => ?_)
                · rw [if_pos c48] at hvv13
                  replace hvv13 := bnd hvv13; obtain ⟨x16, p31, hvv13⟩ := hvv13
                  replace p31 := idx_some p31
                  have p31' := p31; try simp at p31'
                  refine dr_go 6 2 rfl (by simp (maxSteps := 1000000) [p31, p31']; rfl) ?_
                  refine dr_go 8 2 rfl (by simp (maxSteps := 1000000) [p31, p31']; rfl) ?_
                  refine dr_go 10 2 rfl (by simp (maxSteps := 1000000) [p31, p31']; rfl) ?_
                  refine dr_go 12 1 rfl (by simp (maxSteps := 1000000) [p31, p31']; rfl) ?_
                  replace hvv13 := bnd hvv13; obtain ⟨y17, hy17, hvv13⟩ := hvv13
                  refine dr_call 13 [] (ref32_Same_ok hy17) rfl rfl rfl rfl rfl Try.call30 (by simp) ?_
                  refine dr_go 14 2 rfl (by simp (maxSteps := 1000000); rfl) ?_
                  refine dr_split 15 158 y17 (by simp) (fun c49 => ?_) (fun c49 => ?_)
                  · rw [if_pos c49] at hvv13
                    replace hvv13 := bnd hvv13; obtain ⟨y18, hy18, hvv13⟩ := hvv13
                    refine dr_call 16 [] (law37_awake_ok hy18) rfl rfl rfl rfl rfl Try.call61 (by simp) ?_
                    refine dr_go 17 2 rfl (by simp (maxSteps := 1000000); rfl) ?_
                    refine dr_end rfl (tops_nil ?_)
                    cases hvv13
                    exact ⟨_, rfl, wk (by simp [weak_iff])⟩
                  · rw [if_neg (by rw [c49]; decide)] at hvv13
                    refine dr_skip 16 161 [some 159] rfl rfl (by decide) (by kernel_rfl) (by simp only [skEf, List.map_cons, List.map_nil, List.cons_append, List.nil_append]; rfl) ?_
                    refine dr_go 17 2 rfl (by simp (maxSteps := 1000000); rfl) ?_
                    refine dr_end rfl (tops_nil ?_)
                    cases hvv13
                    exact ⟨_, rfl, wk (by simp [weak_iff])⟩
                · rw [if_neg (by rw [c48]; decide)] at hvv13
                  refine dr_skip 6 161 [some 149, some 150, some 151, some 152, some 153, some 154, some 155, some 156] rfl rfl (by decide) (by kernel_rfl) (by simp only [skEf, List.map_cons, List.map_nil, List.cons_append, List.nil_append]; rfl) ?_
                  refine dr_go 14 2 rfl (by simp (maxSteps := 1000000); rfl) ?_
                  refine dr_skip 16 161 [some 159] rfl rfl (by decide) (by kernel_rfl) (by simp only [skEf, List.map_cons, List.map_nil, List.cons_append, List.nil_append]; rfl) ?_
                  refine dr_go 17 2 rfl (by simp (maxSteps := 1000000); rfl) ?_
                  refine dr_end rfl (tops_nil ?_)
                  cases hvv13
                  exact ⟨_, rfl, wk (by simp [weak_iff])⟩
            · refine tr_block (tr_iter (fun s19 : Int => ({ nt := 161, env := [(4, .ptr 4 0), (5, .ptr 5 0), (8, .ptr 8 0), (11, .d (.slice (rowsF api_Rotation_row y7.1))), (13, .vec 96), (110, .d (.slice (rowsF api_Rotation_row y7.1))), (111, .d (.int .i64 ((y7.1).length : Int))), (112, .d (.int .i64 s19))], box := [(4, [.d (.int .i64 y2.1.Slots), .d (.slice (rowsF api_Consumer_row y2.1.Consumers))]), (5, [.d (.int .i64 y3.1.Known), .d (.int .i64 y3.1.Valid), .d (.slice (rowsF api_Unit_row y3.1.Units))]), (8, [.d (.int .i64 y6.1.Known), .d (.int .i64 y6.1.Valid), .d (.slice (rowsF api_Unit_row y6.1.Units))])], vec := [(96, ⟨33, 3, rowsF api_Rotation_row l11⟩)] } : St)) hI1 (wk (by subst hl11; simp [weak_iff])) fun G1 s19 o1 h1 hg1 he1 => ?_)
              unfold law37_RunnerEnds_l0 at h1
              refine kr [4, 5, 8, 11, 13, 110, 111, 112, 113] (by simp; rfl) ?_
              refine tr_seq ?_
              refine tr_cond (b := (decide (s19 < ((y7.1).length : Int)))) (by simp) (fun c50 => ?_) (fun c50 => ?_)
              · rw [if_pos c50] at h1
                refine tr_skip ?_
                refine tr_seq ?_
                refine tr_block ?_
                replace h1 := bnd h1; obtain ⟨x20, p32, h1⟩ := h1
                replace p32 := idx_some p32
                have p32' := p32; try simp at p32'
                refine kr [4, 5, 8, 11, 13, 16, 110, 111, 112] (by simp [p32, p32']; rfl) ?_
                refine kr [4, 5, 8, 11, 13, 16, 17, 110, 111, 112] (by simp; rfl) ?_
                refine tr_seq ?_
                refine kr [4, 5, 8, 11, 13, 16, 17, 110, 111, 112, 116, 117, 118] (by simp; rfl) ?_
                replace h1 := bnd h1; obtain ⟨e2, hI2, h1⟩ := h1
                refine tjv (fun v21 : Bool => ({ nt := 161, env := [(4, .ptr 4 0), (5, .ptr 5 0), (8, .ptr 8 0), (11, .d (.slice (rowsF api_Rotation_row y7.1))), (13, .vec 96), (16, .ptr 16 0), (17, .d (.bool v21)), (110, .d (.slice (rowsF api_Rotation_row y7.1))), (111, .d (.int .i64 ((y7.1).length : Int))), (112, .d (.int .i64 s19))], box := [(4, [.d (.int .i64 y2.1.Slots), .d (.slice (rowsF api_Consumer_row y2.1.Consumers))]), (5, [.d (.int .i64 y3.1.Known), .d (.int .i64 y3.1.Valid), .d (.slice (rowsF api_Unit_row y3.1.Units))]), (8, [.d (.int .i64 y6.1.Known), .d (.int .i64 y6.1.Valid), .d (.slice (rowsF api_Unit_row y6.1.Units))]), (16, [.d (.int .i64 x20.Known), .d (.int .i64 x20.Valid), .d (.slice (rowsF api_Unit_row x20.Units))])], vec := [(96, ⟨33, 3, rowsF api_Rotation_row l11⟩)] } : St)) (fun v21 => v21 = e2) (fun v21 hI2e _ W2 => ?_) ?_
                · subst hI2e
                  refine tr_wk W2 ?_
                  replace h1 := bnd h1; obtain ⟨v22, hvv22, h1⟩ := h1
                  refine sjv (fun v22_ : Bool => ({ nt := 161, env := [(4, .ptr 4 0), (5, .ptr 5 0), (8, .ptr 8 0), (11, .d (.slice (rowsF api_Rotation_row y7.1))), (13, .vec 96), (110, .d (.slice (rowsF api_Rotation_row y7.1))), (111, .d (.int .i64 ((y7.1).length : Int))), (112, .d (.int .i64 s19)), (141, .d (.bool v22_))], box := [(4, [.d (.int .i64 y2.1.Slots), .d (.slice (rowsF api_Consumer_row y2.1.Consumers))]), (5, [.d (.int .i64 y3.1.Known), .d (.int .i64 y3.1.Valid), .d (.slice (rowsF api_Unit_row y3.1.Units))]), (8, [.d (.int .i64 y6.1.Known), .d (.int .i64 y6.1.Valid), .d (.slice (rowsF api_Unit_row y6.1.Units))])], vec := [(96, ⟨33, 3, rowsF api_Rotation_row l11⟩)] } : St)) (fun v22_ => v22 = v22_) (fun v22_ e => ?_) ?_
                  · subst e
                    refine tr_cond (b := v22) (by simp) (fun c58 => ?_) (fun c58 => ?_)
                    · rw [if_pos c58] at h1
                      refine kr [2] (by simp; rfl) ?_
                      have k1 := he1 _ (Option.some.inj h1)
                      subst k1
                      dsimp only at h0
                      cases h0
                      exact tr_ret ⟨[], by simp, rfl, by simp⟩
                    · rw [if_neg (by rw [c58]; decide)] at h1
                      refine tr_skip ?_
                      refine lr (by simp; rfl) ?_
                      exact ⟨_, hg1 _ (Option.some.inj h1), wk (by simp [weak_iff])⟩
                  · refine kd1 [[], [0], [1], [2], [2], [2, 3, 4], [2, 5], [2], [2], [2, 7, 8], [2, 9], [2, 6, 10], [2, 6, 10, 11]] [] [] none [] 13 fol (by decide +kernel) (by simp) ?_
                    refine dr_go 0 2 rfl (by simp (maxSteps := 1000000); rfl) ?_
                    refine dr_go 2 1 rfl (by simp (maxSteps := 1000000); rfl) ?_
                    refine dr_split 2 131 (!v21) (by simp) (fun c60 => ?_) (fun c60 => ?_)
                    · rw [if_pos c60] at hvv22
                      refine dr_skip 3 161 [some 132, some 133, some 134, some 135, some 136, some 137, some 138, some 139, some 140] rfl rfl (by decide) (by kernel_rfl) (by simp only [skEf, List.map_cons, List.map_nil, List.cons_append, List.nil_append]; rfl) ?_
                      refine dr_go 12 1 rfl (by simp (maxSteps := 1000000); rfl) ?_
                      refine dr_end rfl (tops_nil ?_)
                      cases hvv22
                      exact ⟨_, rfl, wk (by simp [weak_iff])⟩
                    · rw [if_neg (by rw [c60]; decide)] at hvv22
                      refine dr_go 3 2 rfl (by simp (maxSteps := 1000000); rfl) ?_
                      replace hvv22 := bnd hvv22; obtain ⟨y23, hy23, hvv22⟩ := hvv22
                      refine dr_call 5 [] (ref32_Served_ok hy23) rfl rfl rfl rfl rfl Try.call37 (by simp) ?_
                      refine dr_go 6 2 rfl (by simp (maxSteps := 1000000); rfl) ?_
                      refine dr_go 8 1 rfl (by simp (maxSteps := 1000000); rfl) ?_
                      replace hvv22 := bnd hvv22; obtain ⟨y24, hy24, hvv22⟩ := hvv22
                      refine dr_call 9 [] (ref32_Served_ok hy24) rfl rfl rfl rfl rfl Try.call37 (by simp) ?_
                      refine dr_go 10 2 rfl (by simp (maxSteps := 1000000); rfl) ?_
                      refine dr_go 12 1 rfl (by simp (maxSteps := 1000000); rfl) ?_
                      refine dr_end rfl (tops_nil ?_)
                      cases hvv22
                      exact ⟨_, rfl, wk (by simp [weak_iff])⟩
                · refine tr_block (tr_iter (fun s25 : Bool × Int => ({ nt := 161, env := [(4, .ptr 4 0), (5, .ptr 5 0), (8, .ptr 8 0), (11, .d (.slice (rowsF api_Rotation_row y7.1))), (13, .vec 96), (16, .ptr 16 0), (17, .d (.bool s25.1)), (110, .d (.slice (rowsF api_Rotation_row y7.1))), (111, .d (.int .i64 ((y7.1).length : Int))), (112, .d (.int .i64 s19)), (116, .vec 96), (117, .d (.int .i64 ((l11).length : Int))), (118, .d (.int .i64 s25.2))], box := [(4, [.d (.int .i64 y2.1.Slots), .d (.slice (rowsF api_Consumer_row y2.1.Consumers))]), (5, [.d (.int .i64 y3.1.Known), .d (.int .i64 y3.1.Valid), .d (.slice (rowsF api_Unit_row y3.1.Units))]), (8, [.d (.int .i64 y6.1.Known), .d (.int .i64 y6.1.Valid), .d (.slice (rowsF api_Unit_row y6.1.Units))]), (16, [.d (.int .i64 x20.Known), .d (.int .i64 x20.Valid), .d (.slice (rowsF api_Unit_row x20.Units))])], vec := [(96, ⟨33, 3, rowsF api_Rotation_row l11⟩)] } : St)) hI2 (wk (by simp [weak_iff])) fun G2 s25 o2 h2 hg2 he2 => ?_)
                  unfold law37_RunnerEnds_l1 at h2
                  refine kr [4, 5, 8, 11, 13, 16, 17, 110, 111, 112, 116, 117, 118, 119] (by simp; rfl) ?_
                  refine tr_seq ?_
                  refine tr_cond (b := (decide (s25.2 < ((l11).length : Int)))) (by simp) (fun c61 => ?_) (fun c61 => ?_)
                  · rw [if_pos c61] at h2
                    refine tr_skip ?_
                    refine tr_seq ?_
                    refine tr_block ?_
                    replace h2 := bnd h2; obtain ⟨_, p37, h2⟩ := h2
                    replace p37 := ck_some p37
                    have p37' := p37; try simp at p37'
                    have p37o : s25.2 < (((l11)).length : Int) := by omega
                    replace h2 := bnd h2; obtain ⟨x26, p38, h2⟩ := h2
                    replace p38 := idx_some p38
                    have p38' := p38; try simp at p38'
                    refine kr [4, 5, 8, 11, 13, 16, 17, 19, 110, 111, 112, 116, 117, 118] (by simp [-getElem?_pos, List.getElem?_cons_zero, List.getElem?_cons_succ, p37, p37o, p38, p37', p38']; rfl) ?_
                    replace h2 := bnd h2; obtain ⟨v27, hvv27, h2⟩ := h2
                    refine tjv (fun v27_ : Bool => ({ nt := 161, env := [(4, .ptr 4 0), (5, .ptr 5 0), (8, .ptr 8 0), (11, .d (.slice (rowsF api_Rotation_row y7.1))), (13, .vec 96), (16, .ptr 16 0), (17, .d (.bool v27_)), (110, .d (.slice (rowsF api_Rotation_row y7.1))), (111, .d (.int .i64 ((y7.1).length : Int))), (112, .d (.int .i64 s19)), (116, .vec 96), (117, .d (.int .i64 ((l11).length : Int))), (118, .d (.int .i64 s25.2))], box := [(4, [.d (.int .i64 y2.1.Slots), .d (.slice (rowsF api_Consumer_row y2.1.Consumers))]), (5, [.d (.int .i64 y3.1.Known), .d (.int .i64 y3.1.Valid), .d (.slice (rowsF api_Unit_row y3.1.Units))]), (8, [.d (.int .i64 y6.1.Known), .d (.int .i64 y6.1.Valid), .d (.slice (rowsF api_Unit_row y6.1.Units))]), (16, [.d (.int .i64 x20.Known), .d (.int .i64 x20.Valid), .d (.slice (rowsF api_Unit_row x20.Units))])], vec := [(96, ⟨33, 3, rowsF api_Rotation_row l11⟩)] } : St)) (fun v27_ => v27 = v27_) (fun v27_ e _ Wv27 => ?_) ?_
                    · subst e
                      refine tr_wk Wv27 ?_
                      refine lr (by simp; rfl) ?_
                      exact ⟨_, hg2 _ (Option.some.inj h2), wk (by simp [weak_iff])⟩
                    · refine kc1 ?_
                      refine ko [4, 5, 8, 11, 13, 16, 19, 110, 111, 112, 116, 117, 118, 123] 2 (by simp; rfl) ?_
                      refine tops_split 123 s25.1 (by simp) (fun c64 => ?_) (fun c64 => ?_)
                      · rw [if_pos c64] at hvv27
                        refine kskip 3 [] (by kernel_rfl) ?_
                        refine ko [4, 5, 8, 11, 13, 16, 17, 110, 111, 112, 116, 117, 118] 2 (by simp; rfl) ?_
                        refine tops_nil ?_
                        cases hvv27
                        exact ⟨_, rfl, wk (by simp [weak_iff])⟩
                      · rw [if_neg (by rw [c64]; decide)] at hvv27
                        refine ko [4, 5, 8, 11, 13, 16, 110, 111, 112, 116, 117, 118, 123, 124, 125] 2 (by simp; rfl) ?_
                        replace hvv27 := bnd hvv27; obtain ⟨y28, hy28, hvv27⟩ := hvv27
                        refine kcall [4, 5, 8, 11, 13, 16, 110, 111, 112, 116, 117, 118, 123, 124, 125, 126] [] (ref32_Same_ok hy28) rfl rfl rfl Try.call30 (by simp) (by simp; rfl) ?_
                        refine ko [4, 5, 8, 11, 13, 16, 17, 110, 111, 112, 116, 117, 118, 124, 125, 126] 2 (by simp; rfl) ?_
                        refine tops_nil ?_
                        cases hvv27
                        exact ⟨_, rfl, wk (by simp [weak_iff])⟩
                  · rw [if_neg (by rw [c61]; decide)] at h2
                    refine tr_exit ?_
                    exact ⟨_, he2 _ (Option.some.inj h2), wk (by simp [weak_iff])⟩
              · rw [if_neg (by rw [c50]; decide)] at h1
                refine tr_exit ?_
                exact ⟨_, he1 _ (Option.some.inj h1), wk (by simp [weak_iff])⟩
        · refine kd1 [[], [0], [1], [2], [2], [2], [2, 5], [2, 6], [2, 4, 6, 7], [2, 6, 8], [2, 3, 6, 9], [2, 6, 10], [2, 6, 11]] [] [] none [] 13 fol (by decide +kernel) (by simp) ?_
          refine dr_go 0 2 rfl (by simp (maxSteps := 1000000); rfl) ?_
          refine dr_go 2 1 rfl (by simp (maxSteps := 1000000); rfl) ?_
          refine dr_split 2 99 (y6.2.2 == 0) (by simp) (fun c66 => ?_) (fun c66 => ?_)
          · rw [if_pos c66] at hvv10
            replace hvv10 := bnd hvv10; obtain ⟨_, p41, hvv10⟩ := hvv10
            replace p41 := ck_some p41
            have p41' := p41; try simp at p41'
            have p41o : IntKind.i64.wrap (((([y3.1] ++ y8.1)).length : Int) - 1) < (((([y3.1] ++ y8.1))).length : Int) := by omega
            replace hvv10 := bnd hvv10; obtain ⟨x31, p42, hvv10⟩ := hvv10
            replace p42 := idx_some p42
            have p42' := p42; try simp at p42'
            have p42q : (rowsF api_Rotation_row ([y3.1] ++ y8.1))[(Int.toNat (IntKind.i64.wrap (((([y3.1] ++ y8.1)).length : Int) - 1)))]? = some (api_Rotation_row x31) := by rw [rowsF_get, p42.2]; rfl
            try simp [-getElem?_pos] at p42q
            refine dr_go 3 2 rfl (by simp (maxSteps := 1000000) [-getElem?_pos, List.getElem?_cons_zero, List.getElem?_cons_succ, p41, p41o, p42, p42q, p41', p42']; rfl) ?_
            refine dr_go 5 2 rfl (by simp (maxSteps := 1000000) [-getElem?_pos, List.getElem?_cons_zero, List.getElem?_cons_succ, p41, p41o, p42, p42q, p41', p42']; rfl) ?_
            refine dr_go 7 2 rfl (by simp (maxSteps := 1000000) [-getElem?_pos, List.getElem?_cons_zero, List.getElem?_cons_succ, p41, p41o, p42, p42q, p41', p42']; rfl) ?_
            refine dr_go 9 1 rfl (by simp (maxSteps := 1000000) [-getElem?_pos, List.getElem?_cons_zero, List.getElem?_cons_succ, p41, p41o, p42, p42q, p41', p42']; rfl) ?_
            replace hvv10 := bnd hvv10; obtain ⟨y32, hy32, hvv10⟩ := hvv10
            refine dr_call 10 [] (ref32_Same_ok hy32) rfl rfl rfl rfl rfl Try.call30 (by simp) ?_
            refine dr_go 11 2 rfl (by simp (maxSteps := 1000000); rfl) ?_
            refine dr_end rfl (tops_nil ?_)
            cases hvv10
            exact ⟨_, rfl, wk (by simp [weak_iff])⟩
          · rw [if_neg (by rw [c66]; decide)] at hvv10
            refine dr_skip 3 161 [some 100, some 101, some 102, some 103, some 104, some 105, some 106, some 107, some 108] rfl rfl (by decide) (by kernel_rfl) (by simp only [skEf, List.map_cons, List.map_nil, List.cons_append, List.nil_append]; rfl) ?_
            refine dr_go 12 1 rfl (by simp (maxSteps := 1000000); rfl) ?_
            refine dr_end rfl (tops_nil ?_)
            cases hvv10
            exact ⟨_, rfl, wk (by simp [weak_iff])⟩
    · refine kc1 ?_
      refine ko [4, 5, 6, 8, 9, 10, 11, 12, 13, 64] 3 (by simp; rfl) ?_
      refine tops_split 64 (y8.2 != 0) (by simp) (fun c67 => ?_) (fun c67 => ?_)
      · rw [c67] at hvv9
        refine kskip 3 [] (by kernel_rfl) ?_
        refine ko [4, 5, 6, 8, 9, 10, 11, 13, 69] 2 (by simp; rfl) ?_
        refine kskip 6 [] (by kernel_rfl) ?_
        refine ko [4, 5, 6, 8, 9, 10, 11, 13, 77] 2 (by simp; rfl) ?_
        refine kskip 3 [] (by kernel_rfl) ?_
        refine ko [4, 5, 6, 8, 9, 10, 11, 13, 82] 2 (by simp; rfl) ?_
        refine kskip 9 [] (by kernel_rfl) ?_
        refine ko [4, 5, 8, 10, 11, 13, 92] 1 (by simp; rfl) ?_
        refine tops_nil ?_
        cases hvv9
        exact ⟨_, rfl, wk (by simp [weak_iff])⟩
      · rw [c67] at hvv9
        refine ko [4, 5, 6, 8, 9, 10, 11, 13, 69] 5 (by simp; rfl) ?_
        refine tops_split 69 (y6.2.2 != y7.2) (by simp) (fun c68 => ?_) (fun c68 => ?_)
        · rw [c68] at hvv9
          refine kskip 6 [] (by kernel_rfl) ?_
          refine ko [4, 5, 6, 8, 9, 10, 11, 13, 77] 2 (by simp; rfl) ?_
          refine kskip 3 [] (by kernel_rfl) ?_
          refine ko [4, 5, 6, 8, 9, 10, 11, 13, 82] 2 (by simp; rfl) ?_
          refine kskip 9 [] (by kernel_rfl) ?_
          refine ko [4, 5, 8, 10, 11, 13, 92] 1 (by simp; rfl) ?_
          refine tops_nil ?_
          cases hvv9
          exact ⟨_, rfl, wk (by simp [weak_iff])⟩
        · rw [c68] at hvv9
          refine ko [4, 5, 6, 8, 9, 10, 11, 13, 69, 72] 3 (by simp; rfl) ?_
          refine tops_split 72 (y6.2.2 != 0) (by simp) (fun c69 => ?_) (fun c69 => ?_)
          · rw [c69] at hvv9
            refine ko [4, 5, 6, 8, 9, 10, 11, 13, 77] 5 (by simp; rfl) ?_
            refine tops_split 77 (y6.2.2 != 40) (by simp) (fun c70 => ?_) (fun c70 => ?_)
            · rw [c70] at hvv9
              refine kskip 3 [] (by kernel_rfl) ?_
              refine ko [4, 5, 6, 8, 9, 10, 11, 13, 82] 2 (by simp; rfl) ?_
              refine kskip 9 [] (by kernel_rfl) ?_
              refine ko [4, 5, 8, 10, 11, 13, 92] 1 (by simp; rfl) ?_
              refine tops_nil ?_
              cases hvv9
              exact ⟨_, rfl, wk (by simp [weak_iff])⟩
            · rw [c70] at hvv9
              refine ko [4, 5, 6, 8, 9, 10, 11, 13, 82] 5 (by simp; rfl) ?_
              refine tops_split 82 (((y7.1).length : Int) == 0) (by simp) (fun c71 => ?_) (fun c71 => ?_)
              · rw [c71] at hvv9
                refine kskip 9 [] (by kernel_rfl) ?_
                refine ko [4, 5, 8, 10, 11, 13, 92] 1 (by simp; rfl) ?_
                refine tops_nil ?_
                cases hvv9
                exact ⟨_, rfl, wk (by simp [weak_iff])⟩
              · rw [c71] at hvv9
                refine ko [4, 5, 8, 10, 11, 13, 82, 88] 6 (by simp; rfl) ?_
                refine tops_split 88 (decide (((y6.2.1).length : Int) < ((y4.1).length : Int))) (by simp) (fun c72 => ?_) (fun c72 => ?_)
                · rw [c72] at hvv9
                  refine ko [4, 5, 8, 10, 11, 13, 92] 4 (by simp; rfl) ?_
                  refine tops_nil ?_
                  cases hvv9
                  exact ⟨_, rfl, wk (by simp [weak_iff])⟩
                · rw [c72] at hvv9
                  refine ko [4, 5, 8, 10, 11, 13, 92] 4 (by simp; rfl) ?_
                  refine tops_nil ?_
                  cases hvv9
                  exact ⟨_, rfl, wk (by simp [weak_iff])⟩
          · rw [c69] at hvv9
            refine ko [4, 5, 6, 8, 9, 10, 11, 13, 82] 10 (by simp; rfl) ?_
            refine tops_split 82 (((y7.1).length : Int) == 0) (by simp) (fun c73 => ?_) (fun c73 => ?_)
            · rw [c73] at hvv9
              refine kskip 9 [] (by kernel_rfl) ?_
              refine ko [4, 5, 8, 10, 11, 13, 92] 1 (by simp; rfl) ?_
              refine tops_nil ?_
              cases hvv9
              exact ⟨_, rfl, wk (by simp [weak_iff])⟩
            · rw [c73] at hvv9
              refine ko [4, 5, 8, 10, 11, 13, 82, 88] 6 (by simp; rfl) ?_
              refine tops_split 88 (decide (((y6.2.1).length : Int) < ((y4.1).length : Int))) (by simp) (fun c74 => ?_) (fun c74 => ?_)
              · rw [c74] at hvv9
                refine ko [4, 5, 8, 10, 11, 13, 92] 4 (by simp; rfl) ?_
                refine tops_nil ?_
                cases hvv9
                exact ⟨_, rfl, wk (by simp [weak_iff])⟩
              · rw [c74] at hvv9
                refine ko [4, 5, 8, 10, 11, 13, 92] 4 (by simp; rfl) ?_
                refine tops_nil ?_
                cases hvv9
                exact ⟨_, rfl, wk (by simp [weak_iff])⟩
end Go.Vl
