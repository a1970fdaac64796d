/- Walks: each function of the given program computes what its mirror says. Conditions: none. -/
import Derived.Test.YtclmnpkhopioiabSw3
set_option linter.unusedSimpArgs false
set_option linter.unusedVariables false
namespace Go.Vl
open Go Go.Proofs
set_option maxHeartbeats 1000000 in
theorem ref35_Make_ok {a0 : api_Fleet} {r : Int} (h0 : ref35_Make a0 = some r) : FnOK Try.prog 52 [] [.agg (api_Fleet_av a0)] (.d (.int .i64 r)) [] := by
  unfold ref35_Make at h0
  refine fn_ok (nt := 14) (rs := [.tmp 2]) Try.func52 rfl Try.ntmps52 rfl (by simp) (by decide) rfl fun K => ?_
  refine kr [1] (by simp; rfl) ?_
  refine tr_seq ?_
  refine kc ?_
  refine ko [1, 5] 1 (by simp; rfl) ?_
  replace h0 := bnd h0; obtain ⟨y1, hy1, h0⟩ := h0
  refine kcall [1, 6] [] (ref32_Valid_ok hy1) rfl rfl rfl Try.call68 (by simp) (by simp; rfl) ?_
  refine ko [1, 7] 1 (by simp; rfl) ?_
  refine tops_nil ?_
  refine tr_cond (b := (!y1)) (by simp) (fun c1 => ?_) (fun c1 => ?_)
  · rw [if_pos c1] at h0
    refine kr [2] (by simp; rfl) ?_
    cases h0
    exact tr_ret ⟨[], by simp, rfl, by simp⟩
  · rw [if_neg (by rw [c1]; decide)] at h0
    refine tr_skip ?_
    refine tr_seq ?_
    refine kc ?_
    refine ko [9] 1 (by simp; rfl) ?_
    replace h0 := bnd h0; obtain ⟨y2, hy2, h0⟩ := h0
    refine kcall [10] [] (ref35_Why_ok hy2) rfl rfl rfl Try.call49 (by simp) (by simp; rfl) ?_
    refine ko [4] 6 (by simp; rfl) ?_
    refine tops_nil ?_
    refine kr [13] (by simp; rfl) ?_
    refine tr_cond (b := y2.2) (by simp) (fun c2 => ?_) (fun c2 => ?_)
    · rw [if_pos c2] at h0
      refine kr [2] (by simp; rfl) ?_
      cases h0
      exact tr_ret ⟨[], by simp, rfl, by simp⟩
    · rw [if_neg (by rw [c2]; decide)] at h0
      refine tr_skip ?_
      refine kr [2] (by simp; rfl) ?_
      cases h0
      exact tr_ret ⟨[], by simp, rfl, by simp⟩
set_option maxHeartbeats 1000000 in
theorem law35_PlanExact_ok {a0 : List Int} {a1 : api_Fleet} {a2 : api_Rotation} {a3 : Int} {a4 : List api_Step} {r : Bool} (h0 : law35_PlanExact a0 a1 a2 a3 a4 = some r) : FnOK Try.prog 14 [] [.d (.slice (rowsF (iRow .i64) a0)), .agg (api_Fleet_av a1), .agg (api_Rotation_av a2), .d (.int .i64 a3), .d (.slice (rowsF api_Step_row a4))] (.d (.bool r)) [] := by
  unfold law35_PlanExact at h0
  refine fn_ok (nt := 192) (rs := [.tmp 10]) Try.func14 rfl Try.ntmps14 rfl (by simp) (by decide) rfl fun K => ?_
  refine kr [0, 3, 4, 6, 7] (by simp; rfl) ?_
  refine tr_seq ?_
  replace h0 := bnd h0; obtain ⟨v1, hvv1, h0⟩ := h0
  refine sjv (fun v1_ : Bool => ({ nt := 192, env := [(0, .d (.slice (rowsF (iRow .i64) a0))), (3, .d (.int .i64 a3)), (4, .d (.slice (rowsF api_Step_row a4))), (6, .ptr 6 0), (7, .ptr 7 0), (49, .d (.bool v1_))], box := [(6, [.d (.int .i64 a1.Slots), .d (.slice (rowsF api_Consumer_row a1.Consumers))]), (7, [.d (.int .i64 a2.Known), .d (.int .i64 a2.Valid), .d (.slice (rowsF api_Unit_row a2.Units))])], vec := [] } : St)) (fun v1_ => v1 = v1_) (fun v1_ e => ?_) ?_
  · subst e
    refine tr_cond (b := v1) (by simp) (fun c7 => ?_) (fun c7 => ?_)
    · rw [if_pos c7] at h0
      refine kc ?_
      replace h0 := bnd h0; obtain ⟨y2, hy2, h0⟩ := h0
      refine kcall [50] [] (law35_awake_ok hy2) rfl rfl rfl Try.call45 (by simp) (by simp; rfl) ?_
      refine ko [10] 1 (by simp; rfl) ?_
      refine tops_nil ?_
      cases h0
      exact tr_ret ⟨[], by simp, rfl, by simp⟩
    · rw [if_neg (by rw [c7]; decide)] at h0
      refine tr_skip ?_
      refine kr [3, 4, 6, 7, 11] (by simp; rfl) ?_
      refine tr_seq ?_
      refine kd [[], [0], [], [1, 2], [], [1, 3, 4], []] [1, 3] [(53, [1, 3])] none [] 7 fol (by decide +kernel) (by simp) ?_
      refine dr_go 0 1 rfl (by simp (maxSteps := 1000000); rfl) ?_
      replace h0 := bnd h0; obtain ⟨y3, hy3, h0⟩ := h0
      refine dr_call 1 [53] (make_FitFleet_ok hy3) rfl rfl rfl rfl rfl Try.call23 (by simp) ?_
      refine dr_go 2 1 rfl (by simp (maxSteps := 1000000); rfl) ?_
      replace h0 := bnd h0; obtain ⟨y4, hy4, h0⟩ := h0
      refine dr_call 3 [53] (make_Fleet_ok hy4) rfl rfl rfl rfl rfl Try.call17 (by simp) ?_
      refine dr_go 4 2 rfl (by simp (maxSteps := 1000000); rfl) ?_
      refine dr_go 6 1 rfl (by simp (maxSteps := 1000000); rfl) ?_
      refine dr_end rfl (tops_nil ?_)
      replace h0 := bnd h0; obtain ⟨l5, hl5, h0⟩ := h0
      replace hl5 := Option.some.inj hl5
      replace h0 := bnd h0; obtain ⟨e1, hI1, h0⟩ := h0
      refine tjv (fun v6 : Unit => ({ nt := 192, env := [], box := [], vec := [] } : St)) (fun v6 => .inl v6 = e1) (fun v6 hI1e _ W1 => ?_) ?_
      · subst hI1e
        dsimp only at h0
        refine tr_wk W1 ?_
        refine kc ?_
        replace h0 := bnd h0; obtain ⟨y7, hy7, h0⟩ := h0
        refine kcall [191] [] (law35_awake_ok hy7) rfl rfl rfl Try.call45 (by simp) (by simp; rfl) ?_
        refine ko [10] 1 (by simp; rfl) ?_
        refine tops_nil ?_
        cases h0
        exact tr_ret ⟨[], by simp, rfl, by simp⟩
      · refine tr_block (tr_iter (fun s8 : Int × (List Int) × Int => ({ nt := 192, env := [(3, .d (.int .i64 a3)), (4, .d (.slice (rowsF api_Step_row a4))), (7, .ptr 7 0), (11, .ptr 53 0), (59, .agg (arC api_Fleet_row l5)), (60, .d (.int .i64 s8.1))], box := [(7, [.d (.int .i64 a2.Known), .d (.int .i64 a2.Valid), .d (.slice (rowsF api_Unit_row a2.Units))]), (53, [.d (.slice (rowsF (iRow .i64) s8.2.1)), .d (.int .i64 s8.2.2)])], vec := [] } : St)) hI1 (wk (by subst hl5; simp [weak_iff])) fun G1 s8 o1 h1 hg1 he1 => ?_)
        unfold law35_PlanExact_l0 at h1
        refine kr [3, 4, 7, 11, 59, 60, 61] (by simp; rfl) ?_
        refine tr_seq ?_
        refine tr_cond (b := (decide (s8.1 < 3))) (by simp) (fun c68 => ?_) (fun c68 => ?_)
        · rw [if_pos c68] at h1
          refine tr_skip ?_
          refine tr_seq ?_
          refine tr_block ?_
          replace h1 := bnd h1; obtain ⟨_, p101, h1⟩ := h1
          replace p101 := ck_some p101
          have p101' := p101; try simp at p101'
          replace h1 := bnd h1; obtain ⟨x9, p102, h1⟩ := h1
          replace p102 := idx_some p102
          have p102' := p102; try simp at p102'
          have ix103 : indexVA Try.prog 56 (.agg (arC api_Fleet_row l5)) s8.1 = some (.agg [.d (.int .i64 x9.Slots), .d (.slice (rowsF api_Consumer_row x9.Consumers))]) := indexVA_arC Try.underlying56 sz29 p102.1 p101 p102.2 (by simp) (by simp)
          refine kr [3, 4, 7, 11, 13, 59, 60] (by simp [p101, p102, ix103, -indexVA, p101', p102']; rfl) ?_
          refine kc ?_
          refine ko [3, 4, 7, 11, 13, 59, 60, 64] 1 (by simp; rfl) ?_
          replace h1 := bnd h1; obtain ⟨y10, hy10, h1⟩ := h1
          refine kcall [3, 4, 7, 11, 13, 59, 60, 65] [] (plan_Why_ok hy10) rfl rfl rfl Try.call47 (by simp) (by simp; rfl) ?_
          refine ko [3, 4, 7, 11, 13, 14, 15, 59, 60] 6 (by simp; rfl) ?_
          refine tops_nil ?_
          refine kc ?_
          refine ko [3, 4, 7, 11, 13, 14, 15, 59, 60, 69] 1 (by simp; rfl) ?_
          replace h1 := bnd h1; obtain ⟨y11, hy11, h1⟩ := h1
          refine kcall [3, 4, 7, 11, 13, 14, 15, 59, 60, 70] [] (ref35_Why_ok hy11) rfl rfl rfl Try.call49 (by simp) (by simp; rfl) ?_
          refine ko [3, 4, 7, 11, 13, 14, 15, 16, 17, 59, 60] 6 (by simp; rfl) ?_
          refine tops_nil ?_
          refine tr_seq ?_
          replace h1 := bnd h1; obtain ⟨v12, hvv12, h1⟩ := h1
          refine sjv (fun v12_ : Bool => ({ nt := 192, env := [(3, .d (.int .i64 a3)), (4, .d (.slice (rowsF api_Step_row a4))), (7, .ptr 7 0), (11, .ptr 53 0), (13, .ptr 13 0), (59, .agg (arC api_Fleet_row l5)), (60, .d (.int .i64 s8.1)), (87, .d (.bool v12_))], box := [(7, [.d (.int .i64 a2.Known), .d (.int .i64 a2.Valid), .d (.slice (rowsF api_Unit_row a2.Units))]), (13, [.d (.int .i64 x9.Slots), .d (.slice (rowsF api_Consumer_row x9.Consumers))]), (53, [.d (.slice (rowsF (iRow .i64) s8.2.1)), .d (.int .i64 s8.2.2)])], vec := [] } : St)) (fun v12_ => v12 = v12_) (fun v12_ e => ?_) ?_
          · subst e
            refine tr_cond (b := v12) (by simp) (fun c81 => ?_) (fun c81 => ?_)
            · rw [if_pos c81] at h1
              refine kr [10] (by simp; rfl) ?_
              have k1 := he1 _ (Option.some.inj h1)
              subst k1
              dsimp only at h0
              cases h0
              exact tr_ret ⟨[], by simp, rfl, by simp⟩
            · rw [if_neg (by rw [c81]; decide)] at h1
              refine tr_skip ?_
              refine tr_seq ?_
              refine kr [3, 4, 7, 11, 13, 59, 60, 89, 90] (by simp; rfl) ?_
              replace h1 := bnd h1; obtain ⟨l13, hl13, h1⟩ := h1
              replace hl13 := Option.some.inj hl13
              replace h1 := bnd h1; obtain ⟨e2, hI2, h1⟩ := h1
              refine tjv (fun v14 : Unit => ({ nt := 192, env := [(3, .d (.int .i64 a3)), (4, .d (.slice (rowsF api_Step_row a4))), (7, .ptr 7 0), (11, .ptr 53 0), (13, .ptr 13 0), (59, .agg (arC api_Fleet_row l5)), (60, .d (.int .i64 s8.1))], box := [(7, [.d (.int .i64 a2.Known), .d (.int .i64 a2.Valid), .d (.slice (rowsF api_Unit_row a2.Units))]), (13, [.d (.int .i64 x9.Slots), .d (.slice (rowsF api_Consumer_row x9.Consumers))]), (53, [.d (.slice (rowsF (iRow .i64) s8.2.1)), .d (.int .i64 s8.2.2)])], vec := [] } : St)) (fun v14 => .inl v14 = e2) (fun v14 hI2e _ W2 => ?_) ?_
              · subst hI2e
                dsimp only at h1
                refine tr_wk W2 ?_
                refine kc ?_
                refine ko [3, 4, 7, 11, 13, 59, 60, 102] 1 (by simp; rfl) ?_
                replace h1 := bnd h1; obtain ⟨y15, hy15, h1⟩ := h1
                refine kcall [3, 4, 7, 11, 13, 59, 60, 103] [] (plan_Make_ok hy15) rfl rfl rfl Try.call46 (by simp) (by simp; rfl) ?_
                refine ko [3, 4, 7, 11, 13, 20, 21, 59, 60] 5 (by simp; rfl) ?_
                refine tops_nil ?_
                refine tr_seq ?_
                replace h1 := bnd h1; obtain ⟨v16, hvv16, h1⟩ := h1
                refine sjv (fun v16_ : Bool => ({ nt := 192, env := [(3, .d (.int .i64 a3)), (4, .d (.slice (rowsF api_Step_row a4))), (7, .ptr 7 0), (11, .ptr 53 0), (13, .ptr 13 0), (20, .d (.slice (rowsF api_Step_row y15.1))), (21, .d (.int .i64 y15.2)), (59, .agg (arC api_Fleet_row l5)), (60, .d (.int .i64 s8.1)), (118, .d (.bool v16_))], box := [(7, [.d (.int .i64 a2.Known), .d (.int .i64 a2.Valid), .d (.slice (rowsF api_Unit_row a2.Units))]), (13, [.d (.int .i64 x9.Slots), .d (.slice (rowsF api_Consumer_row x9.Consumers))]), (53, [.d (.slice (rowsF (iRow .i64) s8.2.1)), .d (.int .i64 s8.2.2)])], vec := [] } : St)) (fun v16_ => v16 = v16_) (fun v16_ e => ?_) ?_
                · subst e
                  refine tr_cond (b := v16) (by simp) (fun c90 => ?_) (fun c90 => ?_)
                  · rw [if_pos c90] at h1
                    refine kr [10] (by simp; rfl) ?_
                    have k1 := he1 _ (Option.some.inj h1)
                    subst k1
                    dsimp only at h0
                    cases h0
                    exact tr_ret ⟨[], by simp, rfl, by simp⟩
                  · rw [if_neg (by rw [c90]; decide)] at h1
                    refine tr_skip ?_
                    refine kc ?_
                    refine ko [3, 4, 7, 11, 13, 20, 21, 59, 60, 120] 1 (by simp; rfl) ?_
                    replace h1 := bnd h1; obtain ⟨y17, hy17, h1⟩ := h1
                    refine kcall [3, 4, 7, 11, 13, 20, 21, 59, 60, 121] [] (ref32_Start_ok hy17) rfl rfl rfl Try.call30 (by simp) (by simp; rfl) ?_
                    refine ko [3, 4, 7, 11, 13, 20, 21, 22, 59, 60] 6 (by simp; rfl) ?_
                    refine tops_nil ?_
                    refine tr_seq ?_
                    replace h1 := bnd h1; obtain ⟨v18, hvv18, h1⟩ := h1
                    refine sjv (fun v18_ : Bool => ({ nt := 192, env := [(3, .d (.int .i64 a3)), (4, .d (.slice (rowsF api_Step_row a4))), (7, .ptr 7 0), (11, .ptr 53 0), (13, .ptr 13 0), (20, .d (.slice (rowsF api_Step_row y15.1))), (22, .ptr 22 0), (59, .agg (arC api_Fleet_row l5)), (60, .d (.int .i64 s8.1)), (139, .d (.bool v18_))], box := [(7, [.d (.int .i64 a2.Known), .d (.int .i64 a2.Valid), .d (.slice (rowsF api_Unit_row a2.Units))]), (13, [.d (.int .i64 x9.Slots), .d (.slice (rowsF api_Consumer_row x9.Consumers))]), (22, [.d (.int .i64 y17.1.Known), .d (.int .i64 y17.1.Valid), .d (.slice (rowsF api_Unit_row y17.1.Units))]), (53, [.d (.slice (rowsF (iRow .i64) s8.2.1)), .d (.int .i64 s8.2.2)])], vec := [] } : St)) (fun v18_ => v18 = v18_) (fun v18_ e => ?_) ?_
                    · subst e
                      refine tr_cond (b := v18) (by simp) (fun c95 => ?_) (fun c95 => ?_)
                      · rw [if_pos c95] at h1
                        refine kr [10] (by simp; rfl) ?_
                        have k1 := he1 _ (Option.some.inj h1)
                        subst k1
                        dsimp only at h0
                        cases h0
                        exact tr_ret ⟨[], by simp, rfl, by simp⟩
                      · rw [if_neg (by rw [c95]; decide)] at h1
                        refine tr_skip ?_
                        replace h1 := bnd h1; obtain ⟨_, p110, h1⟩ := h1
                        replace p110 := ck_some p110
                        have p110' := p110; try simp at p110'
                        refine kr [3, 4, 7, 11, 13, 20, 22, 24, 59, 60] (by simp [p110, p110']; rfl) ?_
                        refine sjv (fun v19 : (List Int) × Int × (List api_Step) => ({ nt := 192, env := [(3, .d (.int .i64 a3)), (4, .d (.slice (rowsF api_Step_row a4))), (7, .ptr 7 0), (11, .ptr 53 0), (13, .ptr 13 0), (20, .d (.slice (rowsF api_Step_row y15.1))), (22, .ptr 22 0), (24, .vec 159), (59, .agg (arC api_Fleet_row l5)), (60, .d (.int .i64 s8.1))], box := [(7, [.d (.int .i64 a2.Known), .d (.int .i64 a2.Valid), .d (.slice (rowsF api_Unit_row a2.Units))]), (13, [.d (.int .i64 x9.Slots), .d (.slice (rowsF api_Consumer_row x9.Consumers))]), (22, [.d (.int .i64 y17.1.Known), .d (.int .i64 y17.1.Valid), .d (.slice (rowsF api_Unit_row y17.1.Units))]), (53, [.d (.slice (rowsF (iRow .i64) v19.1)), .d (.int .i64 v19.2.1)])], vec := [(159, ⟨43, 2, rowsF api_Step_row v19.2.2⟩)] } : St)) (fun v19 => law35_PlanExact_j2 y17 a2 y15 a4 x9 s8 v19 = some o1) (fun v19 h1 => ?_) ?_
                        · unfold law35_PlanExact_j2 at h1
                          refine kr [3, 4, 7, 11, 13, 20, 24, 59, 60, 168, 169] (by simp; rfl) ?_
                          replace h1 := bnd h1; obtain ⟨l20, hl20, h1⟩ := h1
                          replace hl20 := Option.some.inj hl20
                          replace h1 := bnd h1; obtain ⟨e3, hI3, h1⟩ := h1
                          refine tjv (fun v21 : Unit => ({ nt := 192, env := [(3, .d (.int .i64 a3)), (4, .d (.slice (rowsF api_Step_row a4))), (7, .ptr 7 0), (11, .ptr 53 0), (59, .agg (arC api_Fleet_row l5)), (60, .d (.int .i64 s8.1))], box := [(7, [.d (.int .i64 a2.Known), .d (.int .i64 a2.Valid), .d (.slice (rowsF api_Unit_row a2.Units))]), (53, [.d (.slice (rowsF (iRow .i64) v19.1)), .d (.int .i64 v19.2.1)])], vec := [] } : St)) (fun v21 => .inl v21 = e3) (fun v21 hI3e _ W3 => ?_) ?_
                          · subst hI3e
                            dsimp only at h1
                            refine tr_wk W3 ?_
                            refine lr (by simp; rfl) ?_
                            exact ⟨_, hg1 _ (Option.some.inj h1), wk (by simp [weak_iff])⟩
                          · refine tr_block (tr_iter (fun s22 : Int => ({ nt := 192, env := [(3, .d (.int .i64 a3)), (4, .d (.slice (rowsF api_Step_row a4))), (7, .ptr 7 0), (11, .ptr 53 0), (13, .ptr 13 0), (20, .d (.slice (rowsF api_Step_row y15.1))), (24, .d (.slice (rowsF api_Step_row v19.2.2))), (59, .agg (arC api_Fleet_row l5)), (60, .d (.int .i64 s8.1)), (168, .agg (arC api_Rotation_row l20)), (169, .d (.int .i64 s22))], box := [(7, [.d (.int .i64 a2.Known), .d (.int .i64 a2.Valid), .d (.slice (rowsF api_Unit_row a2.Units))]), (13, [.d (.int .i64 x9.Slots), .d (.slice (rowsF api_Consumer_row x9.Consumers))]), (53, [.d (.slice (rowsF (iRow .i64) v19.1)), .d (.int .i64 v19.2.1)])], vec := [] } : St)) hI3 ((wk_frz 159).trans (wk (by subst hl20; simp [weak_iff]))) fun G3 s22 o3 h3 hg3 he3 => ?_)
                            unfold law35_PlanExact_l3 at h3
                            refine kr [3, 4, 7, 11, 13, 20, 24, 59, 60, 168, 169, 170] (by simp; rfl) ?_
                            refine tr_seq ?_
                            refine tr_cond (b := (decide (s22 < 2))) (by simp) (fun c108 => ?_) (fun c108 => ?_)
                            · rw [if_pos c108] at h3
                              refine tr_skip ?_
                              refine tr_seq ?_
                              refine tr_block ?_
                              replace h3 := bnd h3; obtain ⟨_, p151, h3⟩ := h3
                              replace p151 := ck_some p151
                              have p151' := p151; try simp at p151'
                              replace h3 := bnd h3; obtain ⟨x23, p152, h3⟩ := h3
                              replace p152 := idx_some p152
                              have p152' := p152; try simp at p152'
                              have ix153 : indexVA Try.prog 83 (.agg (arC api_Rotation_row l20)) s22 = some (.agg [.d (.int .i64 x23.Known), .d (.int .i64 x23.Valid), .d (.slice (rowsF api_Unit_row x23.Units))]) := indexVA_arC Try.underlying83 sz33 p152.1 p151 p152.2 (by simp) (by simp)
                              refine kr [3, 4, 7, 11, 13, 20, 24, 27, 59, 60, 168, 169] (by simp [p151, p152, ix153, -indexVA, p151', p152']; rfl) ?_
                              refine kr [3, 4, 7, 11, 13, 20, 24, 27, 59, 60, 168, 169, 175, 176] (by simp; rfl) ?_
                              replace h3 := bnd h3; obtain ⟨l24, hl24, h3⟩ := h3
                              replace hl24 := Option.some.inj hl24
                              replace h3 := bnd h3; obtain ⟨e4, hI4, h3⟩ := h3
                              refine tjv (fun v25 : Unit => ({ nt := 192, env := [(3, .d (.int .i64 a3)), (4, .d (.slice (rowsF api_Step_row a4))), (7, .ptr 7 0), (11, .ptr 53 0), (13, .ptr 13 0), (20, .d (.slice (rowsF api_Step_row y15.1))), (24, .d (.slice (rowsF api_Step_row v19.2.2))), (59, .agg (arC api_Fleet_row l5)), (60, .d (.int .i64 s8.1)), (168, .agg (arC api_Rotation_row l20)), (169, .d (.int .i64 s22))], box := [(7, [.d (.int .i64 a2.Known), .d (.int .i64 a2.Valid), .d (.slice (rowsF api_Unit_row a2.Units))]), (13, [.d (.int .i64 x9.Slots), .d (.slice (rowsF api_Consumer_row x9.Consumers))]), (53, [.d (.slice (rowsF (iRow .i64) v19.1)), .d (.int .i64 v19.2.1)])], vec := [] } : St)) (fun v25 => .inl v25 = e4) (fun v25 hI4e _ W4 => ?_) ?_
                              · subst hI4e
                                dsimp only at h3
                                refine tr_wk W4 ?_
                                refine lr (by simp; rfl) ?_
                                exact ⟨_, hg3 _ (Option.some.inj h3), wk (by simp [weak_iff])⟩
                              · refine tr_block (tr_iter (fun s26 : Int => ({ nt := 192, env := [(3, .d (.int .i64 a3)), (4, .d (.slice (rowsF api_Step_row a4))), (7, .ptr 7 0), (11, .ptr 53 0), (13, .ptr 13 0), (20, .d (.slice (rowsF api_Step_row y15.1))), (24, .d (.slice (rowsF api_Step_row v19.2.2))), (27, .ptr 27 0), (59, .agg (arC api_Fleet_row l5)), (60, .d (.int .i64 s8.1)), (168, .agg (arC api_Rotation_row l20)), (169, .d (.int .i64 s22)), (175, .agg (arC (slRow api_Step_row) l24)), (176, .d (.int .i64 s26))], box := [(7, [.d (.int .i64 a2.Known), .d (.int .i64 a2.Valid), .d (.slice (rowsF api_Unit_row a2.Units))]), (13, [.d (.int .i64 x9.Slots), .d (.slice (rowsF api_Consumer_row x9.Consumers))]), (27, [.d (.int .i64 x23.Known), .d (.int .i64 x23.Valid), .d (.slice (rowsF api_Unit_row x23.Units))]), (53, [.d (.slice (rowsF (iRow .i64) v19.1)), .d (.int .i64 v19.2.1)])], vec := [] } : St)) hI4 (wk (by subst hl24; simp [weak_iff])) fun G4 s26 o4 h4 hg4 he4 => ?_)
                                unfold law35_PlanExact_l4 at h4
                                refine kr [3, 4, 7, 11, 13, 20, 24, 27, 59, 60, 168, 169, 175, 176, 177] (by simp; rfl) ?_
                                refine tr_seq ?_
                                refine tr_cond (b := (decide (s26 < 3))) (by simp) (fun c113 => ?_) (fun c113 => ?_)
                                · rw [if_pos c113] at h4
                                  refine tr_skip ?_
                                  refine tr_seq ?_
                                  refine tr_block ?_
                                  replace h4 := bnd h4; obtain ⟨_, p160, h4⟩ := h4
                                  replace p160 := ck_some p160
                                  have p160' := p160; try simp at p160'
                                  replace h4 := bnd h4; obtain ⟨x27, p161, h4⟩ := h4
                                  replace p161 := idx_some p161
                                  have p161' := p161; try simp at p161'
                                  have ix162 : indexVA Try.prog 84 (.agg (arC (slRow api_Step_row) l24)) s26 = some (.d (.slice (rowsF api_Step_row x27))) := indexVA_arC Try.underlying84 sz38 p161.1 p160 p161.2 (by simp) (by simp)
                                  refine kr [3, 4, 7, 11, 13, 20, 24, 27, 29, 59, 60, 168, 169, 175, 176] (by simp [p160, p161, ix162, -indexVA, p160', p161']; rfl) ?_
                                  refine kd [[], [], [], [0, 1, 2], [], [], [], [4, 5, 6], [3, 7]] [] [] none [] 9 fol (by decide +kernel) (by simp) ?_
                                  refine dr_go 0 2 rfl (by simp (maxSteps := 1000000); rfl) ?_
                                  refine dr_go 2 1 rfl (by simp (maxSteps := 1000000); rfl) ?_
                                  replace h4 := bnd h4; obtain ⟨y28, hy28, h4⟩ := h4
                                  refine dr_call 3 [] (plan_Check_ok hy28) rfl rfl rfl rfl rfl Try.call54 (by simp) ?_
                                  refine dr_go 4 2 rfl (by simp (maxSteps := 1000000); rfl) ?_
                                  refine dr_go 6 1 rfl (by simp (maxSteps := 1000000); rfl) ?_
                                  replace h4 := bnd h4; obtain ⟨y29, hy29, h4⟩ := h4
                                  refine dr_call 7 [] (ref35_Check_ok hy29) rfl rfl rfl rfl rfl Try.call37 (by simp) ?_
                                  refine dr_go 8 1 rfl (by simp (maxSteps := 1000000); rfl) ?_
                                  refine dr_end rfl (tops_nil ?_)
                                  refine tr_cond (b := (y28 != y29)) (by simp) (fun c114 => ?_) (fun c114 => ?_)
                                  · rw [if_pos c114] at h4
                                    refine kr [10] (by simp; rfl) ?_
                                    have k3 := he4 _ (Option.some.inj h4)
                                    subst k3
                                    dsimp only at h3
                                    have k2 := he3 _ (Option.some.inj h3)
                                    subst k2
                                    dsimp only at h1
                                    have k1 := he1 _ (Option.some.inj h1)
                                    subst k1
                                    dsimp only at h0
                                    cases h0
                                    exact tr_ret ⟨[], by simp, rfl, by simp⟩
                                  · rw [if_neg (by rw [c114]; decide)] at h4
                                    refine tr_skip ?_
                                    refine lr (by simp; rfl) ?_
                                    exact ⟨_, hg4 _ (Option.some.inj h4), wk (by simp [weak_iff])⟩
                                · rw [if_neg (by rw [c113]; decide)] at h4
                                  refine tr_exit ?_
                                  exact ⟨_, he4 _ (Option.some.inj h4), wk (by simp [weak_iff])⟩
                            · rw [if_neg (by rw [c108]; decide)] at h3
                              refine tr_exit ?_
                              exact ⟨_, he3 _ (Option.some.inj h3), wk (by simp [weak_iff])⟩
                        · refine kr [3, 4, 7, 11, 13, 20, 22, 24, 59, 60, 144] (by simp; rfl) ?_
                          refine tr_cond (b := (decide (0 < ((y15.1).length : Int)))) (by simp) (fun c115 => ?_) (fun c115 => ?_)
                          · rw [if_pos c115] at h1
                            refine kc ?_
                            refine ko [3, 4, 7, 11, 13, 20, 22, 24, 59, 60, 145, 147] 3 (by simp; rfl) ?_
                            replace h1 := bnd h1; obtain ⟨y34, hy34, h1⟩ := h1
                            refine kcall [3, 4, 7, 11, 13, 20, 22, 24, 59, 60, 148] [53] (make_Tape_Next_ok hy34) rfl rfl rfl Try.call22 (by simp) (by simp; rfl) ?_
                            refine ko [3, 4, 7, 11, 13, 20, 22, 24, 25, 59, 60] 1 (by simp; rfl) ?_
                            refine tops_nil ?_
                            refine kc ?_
                            refine ko [3, 4, 7, 11, 13, 20, 22, 24, 25, 59, 60, 149] 1 (by simp; rfl) ?_
                            replace h1 := bnd h1; obtain ⟨y35, hy35, h1⟩ := h1
                            refine kcall [3, 4, 7, 11, 13, 20, 22, 24, 25, 59, 60, 150] [53] (make_Tape_Next_ok hy35) rfl rfl rfl Try.call22 (by simp) (by simp; rfl) ?_
                            refine ko [3, 4, 7, 11, 13, 20, 22, 24, 25, 59, 60, 151] 1 (by simp; rfl) ?_
                            refine tops_nil ?_
                            refine tr_cond (b := (y35.1 == 0)) (by simp) (fun c116 => ?_) (fun c116 => ?_)
                            · rw [if_pos c116] at h1
                              refine kd1 [[], [], [0, 1], [], [], [4], [3, 4, 5], [0, 1, 2, 3, 4, 5, 6], [0, 1, 2, 3, 4, 5, 6]] [] [] none [] 7 fol (by decide +kernel) (by simp) ?_
                              replace h1 := bnd h1; obtain ⟨_, p178, h1⟩ := h1
                              replace p178 := ck_some p178
                              have p178' := p178; try simp at p178'
                              replace h1 := bnd h1; obtain ⟨_, p179, h1⟩ := h1
                              replace p179 := ck_some p179
                              have p179' := p179; try simp at p179'
                              refine dr_go 0 2 rfl (by simp (maxSteps := 1000000) [p178, p179, p178', p179']; rfl) ?_
                              refine dr_go 2 2 rfl (by simp (maxSteps := 1000000) [p178, p179, p178', p179']; rfl) ?_
                              refine dr_go 4 2 rfl (by simp (maxSteps := 1000000) [p178, p179, p178', p179']; rfl) ?_
                              refine dr_go 6 1 rfl (by simp (maxSteps := 1000000) [p178, p179, p178', p179']; rfl) ?_
                              refine dr_end rfl ?_
                              replace h1 := bnd h1; obtain ⟨_, p180, h1⟩ := h1
                              replace p180 := ck_some p180
                              have p180' := p180; try simp at p180'
                              replace h1 := bnd h1; obtain ⟨_, p181, h1⟩ := h1
                              replace p181 := ck_some p181
                              have p181' := p181; try simp at p181'
                              replace h1 := bnd h1; obtain ⟨_, p182, h1⟩ := h1
                              replace p182 := ck_some p182
                              have p182' := p182; try simp at p182'
                              refine ko [3, 4, 7, 11, 13, 20, 22, 24, 59, 60] 2 (by simp [p180, p181, p182, p180', p181', p182']; rfl) ?_
                              refine tops_nil ?_
                              exact ⟨_, h1, wk (by simp [weak_iff])⟩
                            · rw [if_neg (by rw [c116]; decide)] at h1
                              refine kc1 ?_
                              refine ko [3, 4, 7, 11, 13, 20, 22, 24, 59, 60, 160, 161, 162, 163] 4 (by simp; rfl) ?_
                              replace h1 := bnd h1; obtain ⟨y36, hy36, h1⟩ := h1
                              refine kcall [3, 4, 7, 11, 13, 20, 22, 24, 59, 60, 160, 161, 164] [53] (make_Step_ok hy36) rfl rfl rfl Try.call53 (by simp) (by simp; rfl) ?_
                              replace h1 := bnd h1; obtain ⟨_, p183, h1⟩ := h1
                              replace p183 := ck_some p183
                              have p183' := p183; try simp at p183'
                              have p183o : y34.1 < (((y15.1)).length : Int) := by omega
                              replace h1 := bnd h1; obtain ⟨x37, p184, h1⟩ := h1
                              replace p184 := idx_some p184
                              have p184' := p184; try simp at p184'
                              refine ko [3, 4, 7, 11, 13, 20, 22, 24, 59, 60] 2 (by simp [-getElem?_pos, List.getElem?_cons_zero, List.getElem?_cons_succ, p183, p183o, p184, (List.getElem?_eq_some_iff.1 p184.2).1, p183', p184']; rfl) ?_
                              refine tops_nil ?_
                              exact ⟨_, h1, (wk_ren 141 159).trans (wk (by simp [weak_iff]))⟩
                          · rw [if_neg (by rw [c115]; decide)] at h1
                            refine tr_skip ?_
                            exact ⟨_, h1, (wk_ren 141 159).trans (wk (by simp [weak_iff]))⟩
                    · refine kc1 ?_
                      refine ko [3, 4, 7, 11, 13, 20, 22, 59, 60, 126] 3 (by simp; rfl) ?_
                      refine tops_split 126 (y15.2 == 0) (by simp) (fun c117 => ?_) (fun c117 => ?_)
                      · rw [if_pos c117] at hvv18
                        refine ko [3, 4, 7, 11, 13, 20, 22, 59, 60, 126, 127, 128, 129] 3 (by simp; rfl) ?_
                        replace hvv18 := bnd hvv18; obtain ⟨y38, hy38, hvv18⟩ := hvv18
                        refine kcall [3, 4, 7, 11, 13, 20, 22, 59, 60, 126, 127, 128, 129, 130] [] (ref35_Check_ok hy38) rfl rfl rfl Try.call37 (by simp) (by simp; rfl) ?_
                        refine ko [3, 4, 7, 11, 13, 20, 22, 59, 60, 126, 127, 128, 129, 130, 131, 132] 2 (by simp; rfl) ?_
                        refine tops_split 132 (!y38) (by simp) (fun c118 => ?_) (fun c118 => ?_)
                        · rw [if_pos c118] at hvv18
                          refine kskip 5 [] (by kernel_rfl) ?_
                          refine ko [3, 4, 7, 11, 13, 20, 22, 59, 60, 127, 128, 129, 130, 131, 132, 138, 139] 2 (by simp; rfl) ?_
                          refine tops_nil ?_
                          cases hvv18
                          exact ⟨_, rfl, wk (by simp [weak_iff])⟩
                        · rw [if_neg (by rw [c118]; decide)] at hvv18
                          refine ko [3, 4, 7, 11, 13, 20, 22, 59, 60, 126, 127, 128, 129, 130, 131, 132, 133, 134, 135] 3 (by simp; rfl) ?_
                          replace hvv18 := bnd hvv18; obtain ⟨y39, hy39, hvv18⟩ := hvv18
                          refine kcall [3, 4, 7, 11, 13, 20, 22, 59, 60, 126, 127, 128, 129, 130, 131, 132, 133, 134, 135, 136] [] (ref35_Bound_ok hy39) rfl rfl rfl Try.call38 (by simp) (by simp; rfl) ?_
                          refine ko [3, 4, 7, 11, 13, 20, 22, 59, 60, 127, 128, 129, 130, 131, 132, 133, 134, 135, 136, 137, 138, 139] 3 (by simp; rfl) ?_
                          refine tops_nil ?_
                          cases hvv18
                          exact ⟨_, rfl, wk (by simp [weak_iff])⟩
                      · rw [if_neg (by rw [c117]; decide)] at hvv18
                        refine kskip 12 [] (by kernel_rfl) ?_
                        refine ko [3, 4, 7, 11, 13, 20, 22, 59, 60, 139] 1 (by simp; rfl) ?_
                        refine tops_nil ?_
                        cases hvv18
                        exact ⟨_, rfl, wk (by simp [weak_iff])⟩
                · refine kc1 ?_
                  refine ko [3, 4, 7, 11, 13, 20, 21, 59, 60, 106, 107] 2 (by simp; rfl) ?_
                  replace hvv16 := bnd hvv16; obtain ⟨y40, hy40, hvv16⟩ := hvv16
                  refine kcall [3, 4, 7, 11, 13, 20, 21, 59, 60, 106, 108] [] (ref35_Make_ok hy40) rfl rfl rfl Try.call52 (by simp) (by simp; rfl) ?_
                  refine ko [3, 4, 7, 11, 13, 20, 21, 59, 60, 110] 2 (by simp; rfl) ?_
                  refine tops_split 110 (y15.2 != y40) (by simp) (fun c119 => ?_) (fun c119 => ?_)
                  · rw [if_pos c119] at hvv16
                    refine kskip 7 [] (by kernel_rfl) ?_
                    refine ko [3, 4, 7, 11, 13, 20, 21, 59, 60, 118] 1 (by simp; rfl) ?_
                    refine tops_nil ?_
                    cases hvv16
                    exact ⟨_, rfl, wk (by simp [weak_iff])⟩
                  · rw [if_neg (by rw [c119]; decide)] at hvv16
                    refine ko [3, 4, 7, 11, 13, 20, 21, 59, 60, 110, 111, 112, 113] 3 (by simp; rfl) ?_
                    refine tops_split 113 (y15.2 != 0) (by simp) (fun c120 => ?_) (fun c120 => ?_)
                    · rw [if_pos c120] at hvv16
                      refine ko [3, 4, 7, 11, 13, 20, 21, 59, 60, 111, 112, 113, 114, 115, 116, 117, 118] 5 (by simp; rfl) ?_
                      refine tops_nil ?_
                      cases hvv16
                      exact ⟨_, rfl, wk (by simp [weak_iff])⟩
                    · rw [if_neg (by rw [c120]; decide)] at hvv16
                      refine kskip 3 [] (by kernel_rfl) ?_
                      refine ko [3, 4, 7, 11, 13, 20, 21, 59, 60, 111, 112, 113, 117, 118] 2 (by simp; rfl) ?_
                      refine tops_nil ?_
                      cases hvv16
                      exact ⟨_, rfl, wk (by simp [weak_iff])⟩
              · refine tr_block (tr_iter (fun s41 : Int => ({ nt := 192, env := [(3, .d (.int .i64 a3)), (4, .d (.slice (rowsF api_Step_row a4))), (7, .ptr 7 0), (11, .ptr 53 0), (13, .ptr 13 0), (59, .agg (arC api_Fleet_row l5)), (60, .d (.int .i64 s8.1)), (89, .agg (arC (iRow .i64) l13)), (90, .d (.int .i64 s41))], box := [(7, [.d (.int .i64 a2.Known), .d (.int .i64 a2.Valid), .d (.slice (rowsF api_Unit_row a2.Units))]), (13, [.d (.int .i64 x9.Slots), .d (.slice (rowsF api_Consumer_row x9.Consumers))]), (53, [.d (.slice (rowsF (iRow .i64) s8.2.1)), .d (.int .i64 s8.2.2)])], vec := [] } : St)) hI2 (wk (by subst hl13; simp [weak_iff])) fun G4 s41 o4 h4 hg4 he4 => ?_)
                unfold law35_PlanExact_l1 at h4
                refine kr [3, 4, 7, 11, 13, 59, 60, 89, 90, 91] (by simp; rfl) ?_
                refine tr_seq ?_
                refine tr_cond (b := (decide (s41 < 3))) (by simp) (fun c121 => ?_) (fun c121 => ?_)
                · rw [if_pos c121] at h4
                  refine tr_skip ?_
                  refine tr_seq ?_
                  refine tr_block ?_
                  replace h4 := bnd h4; obtain ⟨_, p185, h4⟩ := h4
                  replace p185 := ck_some p185
                  have p185' := p185; try simp at p185'
                  replace h4 := bnd h4; obtain ⟨x42, p186, h4⟩ := h4
                  replace p186 := idx_some p186
                  have p186' := p186; try simp at p186'
                  have ix187 : indexVA Try.prog 80 (.agg (arC (iRow .i64) l13)) s41 = some (.d (.int .i64 x42)) := indexVA_arC Try.underlying80 sz3 p186.1 p185 p186.2 (by simp) (by simp)
                  refine kr [3, 4, 7, 11, 13, 19, 59, 60, 89, 90] (by simp [p185, p186, ix187, -indexVA, p185', p186']; rfl) ?_
                  refine kd [[], [], [0, 1], [], [], [3, 4], [2, 5]] [] [] none [] 7 fol (by decide +kernel) (by simp) ?_
                  refine dr_go 0 2 rfl (by simp (maxSteps := 1000000); rfl) ?_
                  replace h4 := bnd h4; obtain ⟨y43, hy43, h4⟩ := h4
                  refine dr_call 2 [] (plan_Fit_ok hy43) rfl rfl rfl rfl rfl Try.call48 (by simp) ?_
                  refine dr_go 3 2 rfl (by simp (maxSteps := 1000000); rfl) ?_
                  replace h4 := bnd h4; obtain ⟨y44, hy44, h4⟩ := h4
                  refine dr_call 5 [] (ref35_Fit_ok hy44) rfl rfl rfl rfl rfl Try.call51 (by simp) ?_
                  refine dr_go 6 1 rfl (by simp (maxSteps := 1000000); rfl) ?_
                  refine dr_end rfl (tops_nil ?_)
                  refine tr_cond (b := (y43 != y44)) (by simp) (fun c122 => ?_) (fun c122 => ?_)
                  · rw [if_pos c122] at h4
                    refine kr [10] (by simp; rfl) ?_
                    have k2 := he4 _ (Option.some.inj h4)
                    subst k2
                    dsimp only at h1
                    have k1 := he1 _ (Option.some.inj h1)
                    subst k1
                    dsimp only at h0
                    cases h0
                    exact tr_ret ⟨[], by simp, rfl, by simp⟩
                  · rw [if_neg (by rw [c122]; decide)] at h4
                    refine tr_skip ?_
                    refine lr (by simp; rfl) ?_
                    exact ⟨_, hg4 _ (Option.some.inj h4), wk (by simp [weak_iff])⟩
                · rw [if_neg (by rw [c121]; decide)] at h4
                  refine tr_exit ?_
                  exact ⟨_, he4 _ (Option.some.inj h4), wk (by simp [weak_iff])⟩
          · refine kd1 [[], [], [0, 1], [2], [3], [3], [3, 4, 5], [3, 6], [7], [8], [8, 9], [8], [8, 11], [8, 10, 12], [8, 13]] [] [] none [] 15 fol (by decide +kernel) (by simp) ?_
            refine dr_go 0 2 rfl (by simp (maxSteps := 1000000); rfl) ?_
            refine dr_go 2 2 rfl (by simp (maxSteps := 1000000); rfl) ?_
            refine dr_split 3 76 (!(y10.1.Pool == y11.1.Pool)) (by simp) (fun c127 => ?_) (fun c127 => ?_)
            · rw [if_pos c127] at hvv12
              refine dr_skip 4 192 [some 77, some 78, some 79] rfl rfl (by decide) (by kernel_rfl) (by simp only [skEf, List.map_cons, List.map_nil, List.cons_append, List.nil_append]; rfl) ?_
              refine dr_go 7 2 rfl (by simp (maxSteps := 1000000); rfl) ?_
              refine dr_skip 9 192 [some 82, some 83, some 84, some 85, some 86] rfl rfl (by decide) (by kernel_rfl) (by simp only [skEf, List.map_cons, List.map_nil, List.cons_append, List.nil_append]; rfl) ?_
              refine dr_go 14 1 rfl (by simp (maxSteps := 1000000); rfl) ?_
              refine dr_end rfl (tops_nil ?_)
              cases hvv12
              exact ⟨_, rfl, wk (by simp [weak_iff])⟩
            · rw [if_neg (by rw [c127]; decide)] at hvv12
              refine dr_go 4 2 rfl (by simp (maxSteps := 1000000); rfl) ?_
              refine dr_go 6 2 rfl (by simp (maxSteps := 1000000); rfl) ?_
              refine dr_go 8 1 rfl (by simp (maxSteps := 1000000); rfl) ?_
              refine dr_split 8 81 (y10.2 != y11.2) (by simp) (fun c128 => ?_) (fun c128 => ?_)
              · rw [if_pos c128] at hvv12
                refine dr_skip 9 192 [some 82, some 83, some 84, some 85, some 86] rfl rfl (by decide) (by kernel_rfl) (by simp only [skEf, List.map_cons, List.map_nil, List.cons_append, List.nil_append]; rfl) ?_
                refine dr_go 14 1 rfl (by simp (maxSteps := 1000000); rfl) ?_
                refine dr_end rfl (tops_nil ?_)
                cases hvv12
                exact ⟨_, rfl, wk (by simp [weak_iff])⟩
              · rw [if_neg (by rw [c128]; decide)] at hvv12
                refine dr_go 9 1 rfl (by simp (maxSteps := 1000000); rfl) ?_
                replace hvv12 := bnd hvv12; obtain ⟨y47, hy47, hvv12⟩ := hvv12
                refine dr_call 10 [] (plan_Bound_ok hy47) rfl rfl rfl rfl rfl Try.call50 (by simp) ?_
                refine dr_go 11 1 rfl (by simp (maxSteps := 1000000); rfl) ?_
                replace hvv12 := bnd hvv12; obtain ⟨y48, hy48, hvv12⟩ := hvv12
                refine dr_call 12 [] (ref35_Bound_ok hy48) rfl rfl rfl rfl rfl Try.call38 (by simp) ?_
                refine dr_go 13 2 rfl (by simp (maxSteps := 1000000); rfl) ?_
                refine dr_end rfl (tops_nil ?_)
                cases hvv12
                exact ⟨_, rfl, wk (by simp [weak_iff])⟩
        · rw [if_neg (by rw [c68]; decide)] at h1
          refine tr_exit ?_
          exact ⟨_, he1 _ (Option.some.inj h1), wk (by simp [weak_iff])⟩
  · refine kc1 ?_
    refine ko [0, 3, 4, 6, 7, 33] 4 (by simp; rfl) ?_
    refine tops_split 33 (decide (300 < ((a0).length : Int))) (by simp) (fun c129 => ?_) (fun c129 => ?_)
    · rw [c129] at hvv1
      refine kskip 4 [] (by kernel_rfl) ?_
      refine ko [0, 3, 4, 6, 7, 39] 2 (by simp; rfl) ?_
      refine kskip 4 [] (by kernel_rfl) ?_
      refine ko [0, 3, 4, 6, 7, 45] 2 (by simp; rfl) ?_
      refine kskip 3 [] (by kernel_rfl) ?_
      refine ko [0, 3, 4, 6, 7, 49] 1 (by simp; rfl) ?_
      refine tops_nil ?_
      cases hvv1
      exact ⟨_, rfl, wk (by simp [weak_iff])⟩
    · rw [c129] at hvv1
      refine ko [0, 3, 4, 6, 7, 39] 6 (by simp; rfl) ?_
      refine tops_split 39 (decide (12 < ((a1.Consumers).length : Int))) (by simp) (fun c130 => ?_) (fun c130 => ?_)
      · rw [c130] at hvv1
        refine kskip 4 [] (by kernel_rfl) ?_
        refine ko [0, 3, 4, 6, 7, 45] 2 (by simp; rfl) ?_
        refine kskip 3 [] (by kernel_rfl) ?_
        refine ko [0, 3, 4, 6, 7, 49] 1 (by simp; rfl) ?_
        refine tops_nil ?_
        cases hvv1
        exact ⟨_, rfl, wk (by simp [weak_iff])⟩
      · rw [c130] at hvv1
        refine ko [0, 3, 4, 6, 7, 45] 6 (by simp; rfl) ?_
        refine tops_split 45 (decide (12 < ((a2.Units).length : Int))) (by simp) (fun c131 => ?_) (fun c131 => ?_)
        · rw [c131] at hvv1
          refine kskip 3 [] (by kernel_rfl) ?_
          refine ko [0, 3, 4, 6, 7, 49] 1 (by simp; rfl) ?_
          refine tops_nil ?_
          cases hvv1
          exact ⟨_, rfl, wk (by simp [weak_iff])⟩
        · rw [c131] at hvv1
          refine ko [0, 3, 4, 6, 7, 49] 4 (by simp; rfl) ?_
          refine tops_nil ?_
          cases hvv1
          exact ⟨_, rfl, wk (by simp [weak_iff])⟩
end Go.Vl
