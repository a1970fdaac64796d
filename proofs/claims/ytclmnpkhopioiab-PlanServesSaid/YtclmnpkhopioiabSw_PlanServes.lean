/- Walks: each function of the given program computes what its mirror says. Conditions: none. -/
import Derived.Test.YtclmnpkhopioiabSw3
set_option linter.unusedSimpArgs false
set_option linter.unusedVariables false
namespace Go.Vl
open Go Go.Proofs
set_option maxHeartbeats 1000000 in
theorem law35_PlanServes_ok {a0 : List Int} {r : Bool} (h0 : law35_PlanServes a0 = some r) : FnOK Try.prog 15 [] [.d (.slice (rowsF (iRow .i64) a0))] (.d (.bool r)) [] := by
  unfold law35_PlanServes at h0
  refine fn_ok (nt := 110) (rs := [.tmp 2]) Try.func15 rfl Try.ntmps15 rfl (by simp) (by decide) rfl fun K => ?_
  refine kr [0] (by simp; rfl) ?_
  refine tr_seq ?_
  refine kr [0, 17] (by simp; rfl) ?_
  refine tr_cond (b := (decide (200 < ((a0).length : Int)))) (by simp) (fun c1 => ?_) (fun c1 => ?_)
  · rw [if_pos c1] at h0
    refine kc ?_
    replace h0 := bnd h0; obtain ⟨y1, hy1, h0⟩ := h0
    refine kcall [18] [] (law35_awake_ok hy1) rfl rfl rfl Try.call45 (by simp) (by simp; rfl) ?_
    refine ko [2] 1 (by simp; rfl) ?_
    refine tops_nil ?_
    cases h0
    exact tr_ret ⟨[], by simp, rfl, by simp⟩
  · rw [if_neg (by rw [c1]; decide)] at h0
    refine tr_skip ?_
    refine kr [3] (by simp; rfl) ?_
    refine kc ?_
    refine ko [22] 1 (by simp; rfl) ?_
    replace h0 := bnd h0; obtain ⟨y2, hy2, h0⟩ := h0
    refine kcall [23] [21] (make_FitFleet_ok hy2) rfl rfl rfl Try.call23 (by simp) (by simp; rfl) ?_
    refine ko [4] 2 (by simp; rfl) ?_
    refine tops_nil ?_
    refine kc ?_
    refine ko [4, 25] 1 (by simp; rfl) ?_
    replace h0 := bnd h0; obtain ⟨y3, hy3, h0⟩ := h0
    refine kcall [4, 26] [] (ref32_Start_ok hy3) rfl rfl rfl Try.call30 (by simp) (by simp; rfl) ?_
    refine ko [4, 5] 6 (by simp; rfl) ?_
    refine tops_nil ?_
    refine kc ?_
    refine ko [4, 5, 30] 1 (by simp; rfl) ?_
    replace h0 := bnd h0; obtain ⟨y4, hy4, h0⟩ := h0
    refine kcall [4, 5, 31] [] (plan_Make_ok hy4) rfl rfl rfl Try.call46 (by simp) (by simp; rfl) ?_
    refine ko [4, 5, 7, 8] 5 (by simp; rfl) ?_
    refine tops_nil ?_
    refine kc ?_
    refine ko [4, 5, 7, 8, 35, 36, 37] 3 (by simp; rfl) ?_
    replace h0 := bnd h0; obtain ⟨y5, hy5, h0⟩ := h0
    refine kcall [4, 5, 7, 8, 38] [] (ref33_Run_ok hy5) rfl rfl rfl Try.call43 (by simp) (by simp; rfl) ?_
    refine ko [4, 5, 7, 8, 9, 10] 5 (by simp; rfl) ?_
    refine tops_nil ?_
    refine tr_seq ?_
    replace h0 := bnd h0; obtain ⟨v6, hvv6, h0⟩ := h0
    refine sjv (fun v6_ : Bool => ({ nt := 110, env := [(4, .ptr 4 0), (5, .ptr 5 0), (7, .d (.slice (rowsF api_Step_row y4.1))), (9, .d (.slice (rowsF api_Rotation_row y5.1))), (58, .d (.bool v6_))], box := [(4, [.d (.int .i64 y2.1.Slots), .d (.slice (rowsF api_Consumer_row y2.1.Consumers))]), (5, [.d (.int .i64 y3.1.Known), .d (.int .i64 y3.1.Valid), .d (.slice (rowsF api_Unit_row y3.1.Units))])], vec := [] } : St)) (fun v6_ => v6 = v6_) (fun v6_ e => ?_) ?_
    · subst e
      refine tr_cond (b := v6) (by simp) (fun c8 => ?_) (fun c8 => ?_)
      · rw [if_pos c8] at h0
        refine kr [2] (by simp; rfl) ?_
        cases h0
        exact tr_ret ⟨[], by simp, rfl, by simp⟩
      · rw [if_neg (by rw [c8]; decide)] at h0
        refine tr_skip ?_
        refine tr_seq ?_
        refine kr [4, 5, 7, 9, 59, 60, 61] (by simp; rfl) ?_
        replace h0 := bnd h0; obtain ⟨e1, hI1, h0⟩ := h0
        refine tjv (fun v7 : Unit => ({ nt := 110, env := [(4, .ptr 4 0), (5, .ptr 5 0), (7, .d (.slice (rowsF api_Step_row y4.1))), (9, .d (.slice (rowsF api_Rotation_row y5.1)))], box := [(4, [.d (.int .i64 y2.1.Slots), .d (.slice (rowsF api_Consumer_row y2.1.Consumers))]), (5, [.d (.int .i64 y3.1.Known), .d (.int .i64 y3.1.Valid), .d (.slice (rowsF api_Unit_row y3.1.Units))])], vec := [] } : St)) (fun v7 => .inl v7 = e1) (fun v7 hI1e _ W1 => ?_) ?_
        · subst hI1e
          dsimp only at h0
          refine tr_wk W1 ?_
          replace h0 := bnd h0; obtain ⟨x8, p3, h0⟩ := h0
          replace p3 := idx_some p3
          have p3' := p3; try simp at p3'
          refine kr [4, 5, 7, 13] (by simp [p3, p3']; rfl) ?_
          refine tr_seq ?_
          refine kr [4, 5, 7, 13, 82, 83] (by simp; rfl) ?_
          replace h0 := bnd h0; obtain ⟨e2, hI2, h0⟩ := h0
          refine tjv (fun v9 : Unit => ({ nt := 110, env := [(4, .ptr 4 0), (5, .ptr 5 0), (7, .d (.slice (rowsF api_Step_row y4.1))), (13, .ptr 13 0)], box := [(4, [.d (.int .i64 y2.1.Slots), .d (.slice (rowsF api_Consumer_row y2.1.Consumers))]), (5, [.d (.int .i64 y3.1.Known), .d (.int .i64 y3.1.Valid), .d (.slice (rowsF api_Unit_row y3.1.Units))]), (13, [.d (.int .i64 x8.Known), .d (.int .i64 x8.Valid), .d (.slice (rowsF api_Unit_row x8.Units))])], vec := [] } : St)) (fun v9 => .inl v9 = e2) (fun v9 hI2e _ W2 => ?_) ?_
          · subst hI2e
            dsimp only at h0
            refine tr_wk W2 ?_
            replace h0 := bnd h0; obtain ⟨v10, hvv10, h0⟩ := h0
            refine sjv (fun v10_ : Bool => ({ nt := 110, env := [(2, .d (.bool v10_))], box := [], vec := [] } : St)) (fun v10_ => v10 = v10_) (fun v10_ e => ?_) ?_
            · subst e
              cases h0
              exact tr_ret ⟨[], by simp, rfl, by simp⟩
            · refine kc1 ?_
              refine ko [4, 5, 7, 13, 92, 93] 2 (by simp; rfl) ?_
              replace hvv10 := bnd hvv10; obtain ⟨y11, hy11, hvv10⟩ := hvv10
              refine kcall [4, 5, 7, 13, 94] [] (ref32_Ended_ok hy11) rfl rfl rfl Try.call27 (by simp) (by simp; rfl) ?_
              refine ko [4, 5, 7, 13, 95] 1 (by simp; rfl) ?_
              refine tops_split 95 y11 (by simp) (fun c23 => ?_) (fun c23 => ?_)
              · rw [if_pos c23] at hvv10
                refine ko [4, 5, 7, 101] 6 (by simp; rfl) ?_
                refine tops_split 101 ((bAnd .i64 x8.Valid 1) == 0) (by simp) (fun c24 => ?_) (fun c24 => ?_)
                · rw [if_pos c24] at hvv10
                  refine ko [101, 102, 103, 104] 3 (by simp; rfl) ?_
                  replace hvv10 := bnd hvv10; obtain ⟨y12, hy12, hvv10⟩ := hvv10
                  refine kcall [101, 105] [] (plan_Check_ok hy12) rfl rfl rfl Try.call54 (by simp) (by simp; rfl) ?_
                  refine ko [107] 2 (by simp; rfl) ?_
                  refine tops_split 107 y12 (by simp) (fun c25 => ?_) (fun c25 => ?_)
                  · rw [if_pos c25] at hvv10
                    replace hvv10 := bnd hvv10; obtain ⟨y13, hy13, hvv10⟩ := hvv10
                    refine kcall [107, 108] [] (law35_awake_ok hy13) rfl rfl rfl Try.call45 (by simp) (by simp; rfl) ?_
                    refine ko [2] 2 (by simp; rfl) ?_
                    refine tops_nil ?_
                    cases hvv10
                    exact ⟨_, rfl, wk (by simp [weak_iff])⟩
                  · rw [if_neg (by rw [c25]; decide)] at hvv10
                    refine ko [2] 3 (by simp; rfl) ?_
                    refine tops_nil ?_
                    cases hvv10
                    exact ⟨_, rfl, wk (by simp [weak_iff])⟩
                · rw [if_neg (by rw [c24]; decide)] at hvv10
                  refine kskip 4 [] (by kernel_rfl) ?_
                  refine ko [2] 5 (by simp; rfl) ?_
                  refine tops_nil ?_
                  cases hvv10
                  exact ⟨_, rfl, wk (by simp [weak_iff])⟩
              · rw [if_neg (by rw [c23]; decide)] at hvv10
                refine kskip 4 [] (by kernel_rfl) ?_
                refine ko [4, 5, 7, 101] 2 (by simp; rfl) ?_
                refine kskip 4 [] (by kernel_rfl) ?_
                refine ko [2] 5 (by simp; rfl) ?_
                refine tops_nil ?_
                cases hvv10
                exact ⟨_, rfl, wk (by simp [weak_iff])⟩
          · refine tr_block (tr_iter (fun s14 : Int => ({ nt := 110, env := [(4, .ptr 4 0), (5, .ptr 5 0), (7, .d (.slice (rowsF api_Step_row y4.1))), (13, .ptr 13 0), (82, .d (.int .i64 ((y2.1.Consumers).length : Int))), (83, .d (.int .i64 s14))], box := [(4, [.d (.int .i64 y2.1.Slots), .d (.slice (rowsF api_Consumer_row y2.1.Consumers))]), (5, [.d (.int .i64 y3.1.Known), .d (.int .i64 y3.1.Valid), .d (.slice (rowsF api_Unit_row y3.1.Units))]), (13, [.d (.int .i64 x8.Known), .d (.int .i64 x8.Valid), .d (.slice (rowsF api_Unit_row x8.Units))])], vec := [] } : St)) hI2 (wk (by simp [weak_iff])) fun G2 s14 o2 h2 hg2 he2 => ?_)
            unfold law35_PlanServes_l1 at h2
            refine kr [4, 5, 7, 13, 82, 83, 84] (by simp; rfl) ?_
            refine tr_seq ?_
            refine tr_cond (b := (decide (s14 < ((y2.1.Consumers).length : Int)))) (by simp) (fun c26 => ?_) (fun c26 => ?_)
            · rw [if_pos c26] at h2
              refine tr_skip ?_
              refine tr_seq ?_
              refine tr_block ?_
              refine kr [4, 5, 7, 13, 14, 82, 83] (by simp; rfl) ?_
              refine kc ?_
              refine ko [4, 5, 7, 13, 82, 83, 86, 87, 88] 3 (by simp; rfl) ?_
              replace h2 := bnd h2; obtain ⟨y15, hy15, h2⟩ := h2
              refine kcall [4, 5, 7, 13, 82, 83, 89] [] (ref32_Serves_ok hy15) rfl rfl rfl Try.call57 (by simp) (by simp; rfl) ?_
              refine ko [4, 5, 7, 13, 82, 83, 90] 1 (by simp; rfl) ?_
              refine tops_nil ?_
              refine tr_cond (b := (!y15)) (by simp) (fun c27 => ?_) (fun c27 => ?_)
              · rw [if_pos c27] at h2
                refine kr [2] (by simp; rfl) ?_
                have k1 := he2 _ (Option.some.inj h2)
                subst k1
                dsimp only at h0
                cases h0
                exact tr_ret ⟨[], by simp, rfl, by simp⟩
              · rw [if_neg (by rw [c27]; decide)] at h2
                refine tr_skip ?_
                refine lr (by simp; rfl) ?_
                exact ⟨_, hg2 _ (Option.some.inj h2), wk (by simp [weak_iff])⟩
            · rw [if_neg (by rw [c26]; decide)] at h2
              refine tr_exit ?_
              exact ⟨_, he2 _ (Option.some.inj h2), wk (by simp [weak_iff])⟩
        · refine tr_block (tr_iter (fun s18 : Int => ({ nt := 110, env := [(4, .ptr 4 0), (5, .ptr 5 0), (7, .d (.slice (rowsF api_Step_row y4.1))), (9, .d (.slice (rowsF api_Rotation_row y5.1))), (59, .d (.slice (rowsF api_Rotation_row y5.1))), (60, .d (.int .i64 ((y5.1).length : Int))), (61, .d (.int .i64 s18))], box := [(4, [.d (.int .i64 y2.1.Slots), .d (.slice (rowsF api_Consumer_row y2.1.Consumers))]), (5, [.d (.int .i64 y3.1.Known), .d (.int .i64 y3.1.Valid), .d (.slice (rowsF api_Unit_row y3.1.Units))])], vec := [] } : St)) hI1 (wk (by simp [weak_iff])) fun G2 s18 o2 h2 hg2 he2 => ?_)
          unfold law35_PlanServes_l0 at h2
          refine kr [4, 5, 7, 9, 59, 60, 61, 62] (by simp; rfl) ?_
          refine tr_seq ?_
          refine tr_cond (b := (decide (s18 < ((y5.1).length : Int)))) (by simp) (fun c28 => ?_) (fun c28 => ?_)
          · rw [if_pos c28] at h2
            refine tr_skip ?_
            refine tr_seq ?_
            refine tr_block ?_
            replace h2 := bnd h2; obtain ⟨x19, p4, h2⟩ := h2
            replace p4 := idx_some p4
            have p4' := p4; try simp at p4'
            refine kr [4, 5, 7, 9, 12, 59, 60, 61] (by simp [p4, p4']; rfl) ?_
            refine kd [[], [], [0, 1], [2], [], [4], [5], [3, 6]] [] [] none [] 8 fol (by decide +kernel) (by simp) ?_
            refine dr_go 0 2 rfl (by simp (maxSteps := 1000000); rfl) ?_
            replace h2 := bnd h2; obtain ⟨y20, hy20, h2⟩ := h2
            refine dr_call 2 [] (ref32_Served_ok hy20) rfl rfl rfl rfl rfl Try.call55 (by simp) ?_
            refine dr_go 3 2 rfl (by simp (maxSteps := 1000000); rfl) ?_
            replace h2 := bnd h2; obtain ⟨y21, hy21, h2⟩ := h2
            refine dr_call 5 [] (ref32_Pools_ok hy21) rfl rfl rfl rfl rfl Try.call56 (by simp) ?_
            refine dr_go 6 2 rfl (by simp (maxSteps := 1000000); rfl) ?_
            refine dr_end rfl (tops_nil ?_)
            refine tr_cond (b := (((y20).length : Int) != ((y21).length : Int))) (by simp) (fun c29 => ?_) (fun c29 => ?_)
            · rw [if_pos c29] at h2
              refine kr [2] (by simp; rfl) ?_
              have k1 := he2 _ (Option.some.inj h2)
              subst k1
              dsimp only at h0
              cases h0
              exact tr_ret ⟨[], by simp, rfl, by simp⟩
            · rw [if_neg (by rw [c29]; decide)] at h2
              refine tr_skip ?_
              refine lr (by simp; rfl) ?_
              exact ⟨_, hg2 _ (Option.some.inj h2), wk (by simp [weak_iff])⟩
          · rw [if_neg (by rw [c28]; decide)] at h2
            refine tr_exit ?_
            exact ⟨_, he2 _ (Option.some.inj h2), wk (by simp [weak_iff])⟩
    · refine kc1 ?_
      refine ko [4, 5, 7, 9, 10, 43] 3 (by simp; rfl) ?_
      refine tops_split 43 (y4.2 != 0) (by simp) (fun c30 => ?_) (fun c30 => ?_)
      · rw [if_pos c30] at hvv6
        refine ko [4, 5, 7, 9, 47] 4 (by simp; rfl) ?_
        refine kskip 3 [] (by kernel_rfl) ?_
        refine ko [4, 5, 7, 9, 52] 2 (by simp; rfl) ?_
        refine kskip 5 [] (by kernel_rfl) ?_
        refine ko [4, 5, 7, 9, 58] 1 (by simp; rfl) ?_
        refine tops_nil ?_
        cases hvv6
        exact ⟨_, rfl, wk (by simp [weak_iff])⟩
      · rw [if_neg (by rw [c30]; decide)] at hvv6
        refine ko [4, 5, 7, 9, 47] 4 (by simp; rfl) ?_
        refine tops_split 47 (y5.2 != 0) (by simp) (fun c31 => ?_) (fun c31 => ?_)
        · rw [if_pos c31] at hvv6
          refine kskip 3 [] (by kernel_rfl) ?_
          refine ko [4, 5, 7, 9, 52] 2 (by simp; rfl) ?_
          refine kskip 5 [] (by kernel_rfl) ?_
          refine ko [4, 5, 7, 9, 58] 1 (by simp; rfl) ?_
          refine tops_nil ?_
          cases hvv6
          exact ⟨_, rfl, wk (by simp [weak_iff])⟩
        · rw [if_neg (by rw [c31]; decide)] at hvv6
          refine ko [4, 5, 7, 9, 52] 5 (by simp; rfl) ?_
          refine tops_split 52 (((y5.1).length : Int) == 0) (by simp) (fun c32 => ?_) (fun c32 => ?_)
          · rw [if_pos c32] at hvv6
            refine kskip 5 [] (by kernel_rfl) ?_
            refine ko [4, 5, 7, 9, 58] 1 (by simp; rfl) ?_
            refine tops_nil ?_
            cases hvv6
            exact ⟨_, rfl, wk (by simp [weak_iff])⟩
          · rw [if_neg (by rw [c32]; decide)] at hvv6
            refine ko [4, 5, 7, 9, 52, 54, 55] 3 (by simp; rfl) ?_
            replace hvv6 := bnd hvv6; obtain ⟨y24, hy24, hvv6⟩ := hvv6
            refine kcall [4, 5, 7, 9, 52, 54, 56] [] (plan_Bound_ok hy24) rfl rfl rfl Try.call50 (by simp) (by simp; rfl) ?_
            refine ko [4, 5, 7, 9, 58] 2 (by simp; rfl) ?_
            refine tops_nil ?_
            cases hvv6
            exact ⟨_, rfl, wk (by simp [weak_iff])⟩
end Go.Vl
