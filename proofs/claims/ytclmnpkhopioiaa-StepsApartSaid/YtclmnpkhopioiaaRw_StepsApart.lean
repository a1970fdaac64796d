/- Walks: each function of the given program computes what its mirror says. Conditions: none. -/
import Derived.Test.YtclmnpkhopioiaaRw2
set_option linter.unusedSimpArgs false
set_option linter.unusedVariables false
namespace Go.Vl
open Go Go.Proofs
set_option maxHeartbeats 1000000 in
theorem law33_StepsApart_ok {a0 : List Int} {r : Bool} (h0 : law33_StepsApart a0 = some r) : FnOK Try.prog 8 [] [.d (.slice (rowsF (iRow .i64) a0))] (.d (.bool r)) [] := by
  unfold law33_StepsApart at h0
  refine fn_ok (nt := 100) (rs := [.tmp 2]) Try.func8 rfl Try.ntmps8 rfl (by simp) (by decide) rfl fun K => ?_
  refine kr [0] (by simp; rfl) ?_
  refine tr_seq ?_
  refine kr [0, 14] (by simp; rfl) ?_
  refine tr_cond (b := (decide (300 < ((a0).length : Int)))) (by simp) (fun c1 => ?_) (fun c1 => ?_)
  · rw [if_pos c1] at h0
    refine kc ?_
    replace h0 := bnd h0; obtain ⟨y1, hy1, h0⟩ := h0
    refine kcall [15] [] (law33_awake_ok hy1) rfl rfl rfl Try.call43 (by simp) (by simp; rfl) ?_
    refine ko [2] 1 (by simp; rfl) ?_
    refine tops_nil ?_
    cases h0
    exact tr_ret ⟨[], by simp, rfl, by simp⟩
  · rw [if_neg (by rw [c1]; decide)] at h0
    refine tr_skip ?_
    refine kr [3] (by simp; rfl) ?_
    refine kc ?_
    refine ko [3, 19] 1 (by simp; rfl) ?_
    replace h0 := bnd h0; obtain ⟨y2, hy2, h0⟩ := h0
    refine kcall [3, 20] [18] (make_Fleet_ok hy2) rfl rfl rfl Try.call18 (by simp) (by simp; rfl) ?_
    refine ko [3, 4] 2 (by simp; rfl) ?_
    refine tops_nil ?_
    refine kc ?_
    refine ko [3, 4, 21, 22] 2 (by simp; rfl) ?_
    replace h0 := bnd h0; obtain ⟨y3, hy3, h0⟩ := h0
    refine kcall [3, 4, 23] [18] (make_State_ok hy3) rfl rfl rfl Try.call19 (by simp) (by simp; rfl) ?_
    refine ko [3, 4, 5] 2 (by simp; rfl) ?_
    refine tops_nil ?_
    refine tr_seq ?_
    refine kr [3, 4, 5, 6] (by simp; rfl) ?_
    replace h0 := bnd h0; obtain ⟨e1, hI1, h0⟩ := h0
    refine tjv (fun v4 : Unit => ({ nt := 100, env := [], box := [], vec := [] } : St)) (fun v4 => .inl v4 = e1) (fun v4 hI1e _ W1 => ?_) ?_
    · subst hI1e
      dsimp only at h0
      refine tr_wk W1 ?_
      refine kc ?_
      replace h0 := bnd h0; obtain ⟨y5, hy5, h0⟩ := h0
      refine kcall [99] [] (law33_awake_ok hy5) rfl rfl rfl Try.call43 (by simp) (by simp; rfl) ?_
      refine ko [2] 1 (by simp; rfl) ?_
      refine tops_nil ?_
      cases h0
      exact tr_ret ⟨[], by simp, rfl, by simp⟩
    · refine tr_block (tr_iter (fun s6 : Int × (List Int) × Int × Int × Int × (List api_Unit) => ({ nt := 100, env := [(3, .ptr 18 0), (4, .ptr 4 0), (5, .ptr 5 0), (6, .d (.int .i64 s6.1))], box := [(4, [.d (.int .i64 y2.1.Slots), .d (.slice (rowsF api_Consumer_row y2.1.Consumers))]), (5, [.d (.int .i64 s6.2.2.2.1), .d (.int .i64 s6.2.2.2.2.1), .d (.slice (rowsF api_Unit_row s6.2.2.2.2.2))]), (18, [.d (.slice (rowsF (iRow .i64) s6.2.1)), .d (.int .i64 s6.2.2.1)])], vec := [] } : St)) hI1 (wk (by simp [weak_iff])) fun G1 s6 o1 h1 hg1 he1 => ?_)
      unfold law33_StepsApart_l0 at h1
      refine tr_seq ?_
      refine kr [3, 4, 5, 6, 25] (by simp; rfl) ?_
      refine tr_cond (b := (decide (s6.1 < 6))) (by simp) (fun c40 => ?_) (fun c40 => ?_)
      · rw [if_pos c40] at h1
        refine tr_skip ?_
        refine tr_seq ?_
        refine tr_block ?_
        refine kc ?_
        refine ko [3, 4, 5, 6, 28, 29] 2 (by simp; rfl) ?_
        replace h1 := bnd h1; obtain ⟨y7, hy7, h1⟩ := h1
        refine kcall [3, 4, 5, 6, 30] [18] (make_Step_ok hy7) rfl rfl rfl Try.call44 (by simp) (by simp; rfl) ?_
        refine ko [3, 4, 5, 6, 7] 2 (by simp; rfl) ?_
        refine tops_nil ?_
        refine kc ?_
        refine ko [3, 4, 5, 6, 7, 32, 33, 34] 3 (by simp; rfl) ?_
        replace h1 := bnd h1; obtain ⟨y8, hy8, h1⟩ := h1
        refine kcall [3, 4, 5, 6, 7, 35] [] (steps_Apply_ok hy8) rfl rfl rfl Try.call45 (by simp) (by simp; rfl) ?_
        refine ko [3, 4, 5, 6, 7, 8, 9] 6 (by simp; rfl) ?_
        refine tops_nil ?_
        refine tr_seq ?_
        refine kr [3, 4, 5, 6, 7, 8, 39] (by simp; rfl) ?_
        refine tr_cond (b := (y8.2 != 0)) (by simp) (fun c41 => ?_) (fun c41 => ?_)
        · rw [if_pos c41] at h1
          refine tr_exit ?_
          refine lr (by simp; rfl) ?_
          exact ⟨_, hg1 _ (Option.some.inj h1), wk (by simp [weak_iff])⟩
        · rw [if_neg (by rw [c41]; decide)] at h1
          refine tr_skip ?_
          refine tr_seq ?_
          refine kr [3, 4, 5, 6, 7, 8, 46] (by simp; rfl) ?_
          refine tr_cond (b := (((y8.1.Units).length : Int) != ((s6.2.2.2.2.2).length : Int))) (by simp) (fun c42 => ?_) (fun c42 => ?_)
          · rw [if_pos c42] at h1
            refine kr [2] (by simp; rfl) ?_
            have k1 := he1 _ (Option.some.inj h1)
            subst k1
            dsimp only at h0
            cases h0
            exact tr_ret ⟨[], by simp, rfl, by simp⟩
          · rw [if_neg (by rw [c42]; decide)] at h1
            refine tr_skip ?_
            replace h1 := bnd h1; obtain ⟨v9, hvv9, h1⟩ := h1
            refine sjv (fun v9_ : Bool => ({ nt := 100, env := [(3, .ptr 18 0), (4, .ptr 4 0), (5, .ptr 5 0), (6, .d (.int .i64 s6.1)), (7, .ptr 7 0), (8, .ptr 8 0), (10, .d (.bool v9_))], box := [(4, [.d (.int .i64 y2.1.Slots), .d (.slice (rowsF api_Consumer_row y2.1.Consumers))]), (5, [.d (.int .i64 s6.2.2.2.1), .d (.int .i64 s6.2.2.2.2.1), .d (.slice (rowsF api_Unit_row s6.2.2.2.2.2))]), (7, [.d (.int .i64 y7.1.Kind), .d (.int .i64 y7.1.Unit)]), (8, [.d (.int .i64 y8.1.Known), .d (.int .i64 y8.1.Valid), .d (.slice (rowsF api_Unit_row y8.1.Units))]), (18, [.d (.slice (rowsF (iRow .i64) y7.2.L)), .d (.int .i64 y7.2.at_)])], vec := [] } : St)) (fun v9_ => v9 = v9_) (fun v9_ e => ?_) ?_
            · subst e
              refine tr_seq ?_
              replace h1 := bnd h1; obtain ⟨v10, hvv10, h1⟩ := h1
              refine sjv (fun v10_ : Bool => ({ nt := 100, env := [(3, .ptr 18 0), (4, .ptr 4 0), (5, .ptr 5 0), (6, .d (.int .i64 s6.1)), (7, .ptr 7 0), (8, .ptr 8 0), (10, .d (.bool v9)), (69, .d (.bool v10_))], box := [(4, [.d (.int .i64 y2.1.Slots), .d (.slice (rowsF api_Consumer_row y2.1.Consumers))]), (5, [.d (.int .i64 s6.2.2.2.1), .d (.int .i64 s6.2.2.2.2.1), .d (.slice (rowsF api_Unit_row s6.2.2.2.2.2))]), (7, [.d (.int .i64 y7.1.Kind), .d (.int .i64 y7.1.Unit)]), (8, [.d (.int .i64 y8.1.Known), .d (.int .i64 y8.1.Valid), .d (.slice (rowsF api_Unit_row y8.1.Units))]), (18, [.d (.slice (rowsF (iRow .i64) y7.2.L)), .d (.int .i64 y7.2.at_)])], vec := [] } : St)) (fun v10_ => v10 = v10_) (fun v10_ e => ?_) ?_
              · subst e
                refine tr_cond (b := v10) (by simp) (fun c49 => ?_) (fun c49 => ?_)
                · rw [if_pos c49] at h1
                  refine kr [2] (by simp; rfl) ?_
                  have k1 := he1 _ (Option.some.inj h1)
                  subst k1
                  dsimp only at h0
                  cases h0
                  exact tr_ret ⟨[], by simp, rfl, by simp⟩
                · rw [if_neg (by rw [c49]; decide)] at h1
                  refine tr_skip ?_
                  refine tr_seq ?_
                  refine kr [3, 4, 5, 6, 7, 8, 10, 72, 73] (by simp; rfl) ?_
                  replace h1 := bnd h1; obtain ⟨e2, hI2, h1⟩ := h1
                  refine tjv (fun v11 : Unit => ({ nt := 100, env := [(3, .ptr 18 0), (4, .ptr 4 0), (5, .ptr 5 0), (6, .d (.int .i64 s6.1)), (8, .ptr 8 0)], box := [(4, [.d (.int .i64 y2.1.Slots), .d (.slice (rowsF api_Consumer_row y2.1.Consumers))]), (5, [.d (.int .i64 s6.2.2.2.1), .d (.int .i64 s6.2.2.2.2.1), .d (.slice (rowsF api_Unit_row s6.2.2.2.2.2))]), (8, [.d (.int .i64 y8.1.Known), .d (.int .i64 y8.1.Valid), .d (.slice (rowsF api_Unit_row y8.1.Units))]), (18, [.d (.slice (rowsF (iRow .i64) y7.2.L)), .d (.int .i64 y7.2.at_)])], vec := [] } : St)) (fun v11 => .inl v11 = e2) (fun v11 hI2e _ W2 => ?_) ?_
                  · subst hI2e
                    dsimp only at h1
                    refine tr_wk W2 ?_
                    refine lr (by simp; rfl) ?_
                    refine lr (by simp; rfl) ?_
                    exact ⟨_, hg1 _ (Option.some.inj h1), wk (by simp [weak_iff])⟩
                  · refine tr_block (tr_iter (fun s12 : Int => ({ nt := 100, env := [(3, .ptr 18 0), (4, .ptr 4 0), (5, .ptr 5 0), (6, .d (.int .i64 s6.1)), (7, .ptr 7 0), (8, .ptr 8 0), (10, .d (.bool v9)), (72, .d (.int .i64 ((s6.2.2.2.2.2).length : Int))), (73, .d (.int .i64 s12))], box := [(4, [.d (.int .i64 y2.1.Slots), .d (.slice (rowsF api_Consumer_row y2.1.Consumers))]), (5, [.d (.int .i64 s6.2.2.2.1), .d (.int .i64 s6.2.2.2.2.1), .d (.slice (rowsF api_Unit_row s6.2.2.2.2.2))]), (7, [.d (.int .i64 y7.1.Kind), .d (.int .i64 y7.1.Unit)]), (8, [.d (.int .i64 y8.1.Known), .d (.int .i64 y8.1.Valid), .d (.slice (rowsF api_Unit_row y8.1.Units))]), (18, [.d (.slice (rowsF (iRow .i64) y7.2.L)), .d (.int .i64 y7.2.at_)])], vec := [] } : St)) hI2 (wk (by simp [weak_iff])) fun G2 s12 o2 h2 hg2 he2 => ?_)
                    unfold law33_StepsApart_l1 at h2
                    refine kr [3, 4, 5, 6, 7, 8, 10, 72, 73, 74] (by simp; rfl) ?_
                    refine tr_seq ?_
                    refine tr_cond (b := (decide (s12 < ((s6.2.2.2.2.2).length : Int)))) (by simp) (fun c62 => ?_) (fun c62 => ?_)
                    · rw [if_pos c62] at h2
                      refine tr_skip ?_
                      refine tr_seq ?_
                      refine tr_block ?_
                      refine kr [3, 4, 5, 6, 7, 8, 10, 11, 72, 73] (by simp; rfl) ?_
                      replace h2 := bnd h2; obtain ⟨v13, hvv13, h2⟩ := h2
                      refine sjv (fun v13_ : Bool => ({ nt := 100, env := [(3, .ptr 18 0), (4, .ptr 4 0), (5, .ptr 5 0), (6, .d (.int .i64 s6.1)), (7, .ptr 7 0), (8, .ptr 8 0), (10, .d (.bool v9)), (72, .d (.int .i64 ((s6.2.2.2.2.2).length : Int))), (73, .d (.int .i64 s12)), (96, .d (.bool v13_))], box := [(4, [.d (.int .i64 y2.1.Slots), .d (.slice (rowsF api_Consumer_row y2.1.Consumers))]), (5, [.d (.int .i64 s6.2.2.2.1), .d (.int .i64 s6.2.2.2.2.1), .d (.slice (rowsF api_Unit_row s6.2.2.2.2.2))]), (7, [.d (.int .i64 y7.1.Kind), .d (.int .i64 y7.1.Unit)]), (8, [.d (.int .i64 y8.1.Known), .d (.int .i64 y8.1.Valid), .d (.slice (rowsF api_Unit_row y8.1.Units))]), (18, [.d (.slice (rowsF (iRow .i64) y7.2.L)), .d (.int .i64 y7.2.at_)])], vec := [] } : St)) (fun v13_ => v13 = v13_) (fun v13_ e => ?_) ?_
                      · subst e
                        refine tr_cond (b := v13) (by simp) (fun c71 => ?_) (fun c71 => ?_)
                        · rw [if_pos c71] at h2
                          refine kr [2] (by simp; rfl) ?_
                          have k2 := he2 _ (Option.some.inj h2)
                          subst k2
                          dsimp only at h1
                          have k1 := he1 _ (Option.some.inj h1)
                          subst k1
                          dsimp only at h0
                          cases h0
                          exact tr_ret ⟨[], by simp, rfl, by simp⟩
                        · rw [if_neg (by rw [c71]; decide)] at h2
                          refine tr_skip ?_
                          refine lr (by simp; rfl) ?_
                          exact ⟨_, hg2 _ (Option.some.inj h2), wk (by simp [weak_iff])⟩
                      · refine kd1 [[], [0], [1], [2], [2], [2, 4], [2, 3, 5], [2, 6], [7], [8], [8, 9], [8], [8, 10, 11], [8, 12], [8], [8, 14], [8], [8, 15, 16], [8, 17], [8, 13, 18], [8, 19]] [] [] none [] 21 fol (by decide +kernel) (by simp) ?_
                        refine dr_go 0 2 rfl (by simp (maxSteps := 1000000); rfl) ?_
                        refine dr_go 2 1 rfl (by simp (maxSteps := 1000000); rfl) ?_
                        refine dr_split 2 78 (!v9) (by simp) (fun c74 => ?_) (fun c74 => ?_)
                        · rw [if_pos c74] at hvv13
                          refine dr_skip 3 100 [some 79, some 80, some 81, some 82] rfl rfl (by decide) (by kernel_rfl) (by simp only [skEf, List.map_cons, List.map_nil, List.cons_append, List.nil_append]; rfl) ?_
                          replace hvv13 := bnd hvv13; obtain ⟨x14, p69, hvv13⟩ := hvv13
                          replace p69 := idx_some p69
                          have p69' := p69; try simp at p69'
                          replace hvv13 := bnd hvv13; obtain ⟨x15, p70, hvv13⟩ := hvv13
                          replace p70 := idx_some p70
                          have p70' := p70; try simp at p70'
                          refine dr_go 7 2 rfl (by simp (maxSteps := 1000000) [p69, p70, p69', p70']; rfl) ?_
                          refine dr_go 9 2 rfl (by simp (maxSteps := 1000000) [p69, p70, p69', p70']; rfl) ?_
                          refine dr_go 11 2 rfl (by simp (maxSteps := 1000000) [p69, p70, p69', p70']; rfl) ?_
                          refine dr_go 13 2 rfl (by simp (maxSteps := 1000000) [p69, p70, p69', p70']; rfl) ?_
                          refine dr_go 15 2 rfl (by simp (maxSteps := 1000000) [p69, p70, p69', p70']; rfl) ?_
                          refine dr_go 17 2 rfl (by simp (maxSteps := 1000000) [p69, p70, p69', p70']; rfl) ?_
                          refine dr_go 19 2 rfl (by simp (maxSteps := 1000000) [p69, p70, p69', p70']; rfl) ?_
                          refine dr_end rfl (tops_nil ?_)
                          cases hvv13
                          exact ⟨_, rfl, wk (by simp [weak_iff])⟩
                        · rw [if_neg (by rw [c74]; decide)] at hvv13
                          refine dr_go 3 2 rfl (by simp (maxSteps := 1000000); rfl) ?_
                          refine dr_go 5 2 rfl (by simp (maxSteps := 1000000); rfl) ?_
                          refine dr_go 7 2 rfl (by simp (maxSteps := 1000000); rfl) ?_
                          refine dr_split 8 84 (s12 != y7.1.Unit) (by simp) (fun c75 => ?_) (fun c75 => ?_)
                          · rw [if_pos c75] at hvv13
                            replace hvv13 := bnd hvv13; obtain ⟨x16, p71, hvv13⟩ := hvv13
                            replace p71 := idx_some p71
                            have p71' := p71; try simp at p71'
                            replace hvv13 := bnd hvv13; obtain ⟨x17, p72, hvv13⟩ := hvv13
                            replace p72 := idx_some p72
                            have p72' := p72; try simp at p72'
                            refine dr_go 9 2 rfl (by simp (maxSteps := 1000000) [p71, p72, p71', p72']; rfl) ?_
                            refine dr_go 11 2 rfl (by simp (maxSteps := 1000000) [p71, p72, p71', p72']; rfl) ?_
                            refine dr_go 13 2 rfl (by simp (maxSteps := 1000000) [p71, p72, p71', p72']; rfl) ?_
                            refine dr_go 15 2 rfl (by simp (maxSteps := 1000000) [p71, p72, p71', p72']; rfl) ?_
                            refine dr_go 17 2 rfl (by simp (maxSteps := 1000000) [p71, p72, p71', p72']; rfl) ?_
                            refine dr_go 19 2 rfl (by simp (maxSteps := 1000000) [p71, p72, p71', p72']; rfl) ?_
                            refine dr_end rfl (tops_nil ?_)
                            cases hvv13
                            exact ⟨_, rfl, wk (by simp [weak_iff])⟩
                          · rw [if_neg (by rw [c75]; decide)] at hvv13
                            refine dr_skip 9 100 [some 85, some 86, some 87, some 88, some 89, some 90, some 91, some 92, some 93, some 94, some 95] rfl rfl (by decide) (by kernel_rfl) (by simp only [skEf, List.map_cons, List.map_nil, List.cons_append, List.nil_append]; rfl) ?_
                            refine dr_go 20 1 rfl (by simp (maxSteps := 1000000); rfl) ?_
                            refine dr_end rfl (tops_nil ?_)
                            cases hvv13
                            exact ⟨_, rfl, wk (by simp [weak_iff])⟩
                    · rw [if_neg (by rw [c62]; decide)] at h2
                      refine tr_exit ?_
                      exact ⟨_, he2 _ (Option.some.inj h2), wk (by simp [weak_iff])⟩
              · refine kc1 ?_
                refine ko [3, 4, 5, 6, 7, 8, 10, 56] 2 (by simp; rfl) ?_
                refine tops_split 56 v9 (by simp) (fun c76 => ?_) (fun c76 => ?_)
                · rw [c76] at hvv10
                  refine ko [3, 4, 5, 6, 7, 8, 10, 56, 57, 58, 59, 60, 61, 62] 6 (by simp; rfl) ?_
                  refine tops_split 62 (y8.1.Known != s6.2.2.2.1) (by simp) (fun c77 => ?_) (fun c77 => ?_)
                  · rw [c77] at hvv10
                    refine kskip 5 [] (by kernel_rfl) ?_
                    refine ko [3, 4, 5, 6, 7, 8, 10, 57, 58, 59, 60, 61, 62, 68, 69] 2 (by simp; rfl) ?_
                    refine tops_nil ?_
                    cases hvv10
                    exact ⟨_, rfl, wk (by simp [weak_iff])⟩
                  · rw [c77] at hvv10
                    refine ko [3, 4, 5, 6, 7, 8, 10, 57, 58, 59, 60, 61, 62, 63, 64, 65, 66, 67, 68, 69] 7 (by simp; rfl) ?_
                    refine tops_nil ?_
                    cases hvv10
                    exact ⟨_, rfl, wk (by simp [weak_iff])⟩
                · rw [c76] at hvv10
                  refine kskip 12 [] (by kernel_rfl) ?_
                  refine ko [3, 4, 5, 6, 7, 8, 10, 69] 1 (by simp; rfl) ?_
                  refine tops_nil ?_
                  cases hvv10
                  exact ⟨_, rfl, wk (by simp [weak_iff])⟩
            · refine kc1 ?_
              refine ko [3, 4, 5, 6, 7, 8, 50] 4 (by simp; rfl) ?_
              refine tops_split 50 (decide (4 ≤ y7.1.Kind)) (by simp) (fun c78 => ?_) (fun c78 => ?_)
              · rw [c78] at hvv9
                refine ko [3, 4, 5, 6, 7, 8, 10, 51, 52, 53] 5 (by simp; rfl) ?_
                refine tops_nil ?_
                cases hvv9
                exact ⟨_, rfl, wk (by simp [weak_iff])⟩
              · rw [c78] at hvv9
                refine kskip 3 [] (by kernel_rfl) ?_
                refine ko [3, 4, 5, 6, 7, 8, 10] 2 (by simp; rfl) ?_
                refine tops_nil ?_
                cases hvv9
                exact ⟨_, rfl, wk (by simp [weak_iff])⟩
      · rw [if_neg (by rw [c40]; decide)] at h1
        refine tr_exit ?_
        exact ⟨_, he1 _ (Option.some.inj h1), wk (by simp [weak_iff])⟩
end Go.Vl
