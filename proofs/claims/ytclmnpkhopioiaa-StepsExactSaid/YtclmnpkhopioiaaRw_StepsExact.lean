/- Walks: each function of the given program computes what its mirror says. Conditions: none. -/
import Derived.Test.YtclmnpkhopioiaaRw2
set_option linter.unusedSimpArgs false
set_option linter.unusedVariables false
namespace Go.Vl
open Go Go.Proofs
set_option maxHeartbeats 1000000 in
theorem ref33_Possible_ok {a0 : api_Fleet} {a1 : api_Rotation} {a2 : api_Step} {r : Bool} (h0 : ref33_Possible a0 a1 a2 = some r) : FnOK Try.prog 55 [] [.agg (api_Fleet_av a0), .agg (api_Rotation_av a1), .agg (api_Step_av a2)] (.d (.bool r)) [] := by
  unfold ref33_Possible at h0
  refine fn_ok (nt := 18) (rs := [.tmp 6]) Try.func55 rfl Try.ntmps55 rfl (by simp) (by decide) rfl fun K => ?_
  refine kr [3, 4, 5] (by simp; rfl) ?_
  refine kc ?_
  refine ko [10, 11, 12] 3 (by simp; rfl) ?_
  replace h0 := bnd h0; obtain ⟨y1, hy1, h0⟩ := h0
  refine kcall [13] [] (ref33_Apply_ok hy1) rfl rfl rfl Try.call54 (by simp) (by simp; rfl) ?_
  refine ko [8] 6 (by simp; rfl) ?_
  refine tops_nil ?_
  refine kr [6] (by simp; rfl) ?_
  cases h0
  exact tr_ret ⟨[], by simp, rfl, by simp⟩
set_option maxHeartbeats 1000000 in
theorem ref33_Same_ok {a0 : List api_Step} {a1 : List api_Step} {r : Bool} (h0 : ref33_Same a0 a1 = some r) : FnOK Try.prog 57 [] [.d (.slice (rowsF api_Step_row a0)), .d (.slice (rowsF api_Step_row a1))] (.d (.bool r)) [] := by
  unfold ref33_Same at h0
  refine fn_ok (nt := 26) (rs := [.tmp 4]) Try.func57 rfl Try.ntmps57 rfl (by simp) (by decide) rfl fun K => ?_
  refine kr [0, 1] (by simp; rfl) ?_
  refine tr_seq ?_
  refine kr [0, 1, 10] (by simp; rfl) ?_
  refine tr_cond (b := (((a0).length : Int) != ((a1).length : Int))) (by simp) (fun c1 => ?_) (fun c1 => ?_)
  · rw [if_pos c1] at h0
    refine kr [4] (by simp; rfl) ?_
    cases h0
    exact tr_ret ⟨[], by simp, rfl, by simp⟩
  · rw [if_neg (by rw [c1]; decide)] at h0
    refine tr_skip ?_
    refine tr_seq ?_
    refine kr [0, 1, 12, 13] (by simp; rfl) ?_
    replace h0 := bnd h0; obtain ⟨e1, hI1, h0⟩ := h0
    refine tjv (fun v1 : Unit => ({ nt := 26, env := [], box := [], vec := [] } : St)) (fun v1 => .inl v1 = e1) (fun v1 hI1e _ W1 => ?_) ?_
    · subst hI1e
      dsimp only at h0
      refine tr_wk W1 ?_
      refine kr [4] (by simp; rfl) ?_
      cases h0
      exact tr_ret ⟨[], by simp, rfl, by simp⟩
    · refine tr_block (tr_iter (fun s2 : Int => ({ nt := 26, env := [(0, .d (.slice (rowsF api_Step_row a0))), (1, .d (.slice (rowsF api_Step_row a1))), (12, .d (.int .i64 ((a0).length : Int))), (13, .d (.int .i64 s2))], box := [], vec := [] } : St)) hI1 (wk (by simp [weak_iff])) fun G1 s2 o1 h1 hg1 he1 => ?_)
      unfold ref33_Same_l0 at h1
      refine kr [0, 1, 12, 13, 14] (by simp; rfl) ?_
      refine tr_seq ?_
      refine tr_cond (b := (decide (s2 < ((a0).length : Int)))) (by simp) (fun c6 => ?_) (fun c6 => ?_)
      · rw [if_pos c6] at h1
        refine tr_skip ?_
        refine tr_seq ?_
        refine tr_block ?_
        refine kr [0, 1, 5, 12, 13] (by simp; rfl) ?_
        refine kd [[], [], [0, 1], [2], [], [], [4, 5], [6], [3, 7]] [] [] none [] 9 fol (by decide +kernel) (by simp) ?_
        replace h1 := bnd h1; obtain ⟨x3, p11, h1⟩ := h1
        replace p11 := idx_some p11
        have p11' := p11; try simp at p11'
        replace h1 := bnd h1; obtain ⟨x4, p12, h1⟩ := h1
        replace p12 := idx_some p12
        have p12' := p12; try simp at p12'
        refine dr_go 0 2 rfl (by simp (maxSteps := 1000000) [p11, p12, p11', p12']; rfl) ?_
        refine dr_go 2 2 rfl (by simp (maxSteps := 1000000) [p11, p12, p11', p12']; rfl) ?_
        refine dr_go 4 2 rfl (by simp (maxSteps := 1000000) [p11, p12, p11', p12']; rfl) ?_
        refine dr_go 6 2 rfl (by simp (maxSteps := 1000000) [p11, p12, p11', p12']; rfl) ?_
        refine dr_go 8 1 rfl (by simp (maxSteps := 1000000) [p11, p12, p11', p12']; rfl) ?_
        refine dr_end rfl (tops_nil ?_)
        refine tr_cond (b := (!((x3.Kind == x4.Kind) && (x3.Unit == x4.Unit)))) (by simp) (fun c7 => ?_) (fun c7 => ?_)
        · rw [if_pos c7] at h1
          refine kr [4] (by simp; rfl) ?_
          have k1 := he1 _ (Option.some.inj h1)
          subst k1
          dsimp only at h0
          cases h0
          exact tr_ret ⟨[], by simp, rfl, by simp⟩
        · rw [if_neg (by rw [c7]; decide)] at h1
          refine tr_skip ?_
          refine lr (by simp; rfl) ?_
          exact ⟨_, hg1 _ (Option.some.inj h1), wk (by simp [weak_iff])⟩
      · rw [if_neg (by rw [c6]; decide)] at h1
        refine tr_exit ?_
        exact ⟨_, he1 _ (Option.some.inj h1), wk (by simp [weak_iff])⟩
set_option maxHeartbeats 1000000 in
theorem ref33_Fault_ok {a0 : api_Fleet} {a1 : api_Rotation} {a2 : List api_Step} {r : Int × Int} (h0 : ref33_Fault a0 a1 a2 = some r) : FnOK Try.prog 60 [] [.agg (api_Fleet_av a0), .agg (api_Rotation_av a1), .d (.slice (rowsF api_Step_row a2))] (.tup [.d (.int .i64 r.1), .d (.int .i64 r.2)]) [] := by
  unfold ref33_Fault at h0
  refine fn_ok (nt := 47) (rs := [.tmp 6, .tmp 7]) Try.func60 rfl Try.ntmps60 rfl (by simp) (by decide) rfl fun K => ?_
  refine kr [2, 3, 4] (by simp; rfl) ?_
  refine tr_seq ?_
  refine kc ?_
  refine ko [2, 3, 4, 12, 13] 2 (by simp; rfl) ?_
  replace h0 := bnd h0; obtain ⟨y1, hy1, h0⟩ := h0
  refine kcall [2, 3, 4, 14] [] (ref32_Right_ok hy1) rfl rfl rfl Try.call22 (by simp) (by simp; rfl) ?_
  refine ko [2, 3, 4, 15] 1 (by simp; rfl) ?_
  refine tops_nil ?_
  refine tr_cond (b := (!y1)) (by simp) (fun c1 => ?_) (fun c1 => ?_)
  · rw [if_pos c1] at h0
    refine kr [6, 7] (by simp; rfl) ?_
    cases h0
    exact tr_ret ⟨[], by simp, rfl, by simp⟩
  · rw [if_neg (by rw [c1]; decide)] at h0
    refine tr_skip ?_
    refine tr_seq ?_
    refine kr [2, 3, 4, 18] (by simp; rfl) ?_
    refine tr_cond (b := (decide (120 < ((a2).length : Int)))) (by simp) (fun c2 => ?_) (fun c2 => ?_)
    · rw [if_pos c2] at h0
      refine kr [6, 7] (by simp; rfl) ?_
      cases h0
      exact tr_ret ⟨[], by simp, rfl, by simp⟩
    · rw [if_neg (by rw [c2]; decide)] at h0
      refine tr_skip ?_
      refine tr_seq ?_
      refine kr [2, 3, 4, 19, 20, 21] (by simp; rfl) ?_
      replace h0 := bnd h0; obtain ⟨e1, hI1, h0⟩ := h0
      refine tjv (fun v2 : Unit => ({ nt := 47, env := [(2, .d (.slice (rowsF api_Step_row a2)))], box := [], vec := [] } : St)) (fun v2 => .inl v2 = e1) (fun v2 hI1e _ W1 => ?_) ?_
      · subst hI1e
        dsimp only at h0
        refine tr_wk W1 ?_
        refine kr [6, 7] (by simp; rfl) ?_
        cases h0
        exact tr_ret ⟨[], by simp, rfl, by simp⟩
      · refine tr_block (tr_iter (fun s3 : Int × Int × Int × (List api_Unit) => ({ nt := 47, env := [(2, .d (.slice (rowsF api_Step_row a2))), (3, .ptr 3 0), (4, .ptr 4 0), (19, .d (.slice (rowsF api_Step_row a2))), (20, .d (.int .i64 ((a2).length : Int))), (21, .d (.int .i64 s3.1))], box := [(3, [.d (.int .i64 a0.Slots), .d (.slice (rowsF api_Consumer_row a0.Consumers))]), (4, [.d (.int .i64 s3.2.1), .d (.int .i64 s3.2.2.1), .d (.slice (rowsF api_Unit_row s3.2.2.2))])], vec := [] } : St)) hI1 (wk (by simp [weak_iff])) fun G1 s3 o1 h1 hg1 he1 => ?_)
        unfold ref33_Fault_l0 at h1
        refine kr [2, 3, 4, 19, 20, 21, 22] (by simp; rfl) ?_
        refine tr_seq ?_
        refine tr_cond (b := (decide (s3.1 < ((a2).length : Int)))) (by simp) (fun c9 => ?_) (fun c9 => ?_)
        · rw [if_pos c9] at h1
          refine tr_skip ?_
          refine tr_seq ?_
          refine tr_block ?_
          replace h1 := bnd h1; obtain ⟨x4, p3, h1⟩ := h1
          replace p3 := idx_some p3
          have p3' := p3; try simp at p3'
          refine kr [2, 3, 4, 8, 9, 19, 20, 21] (by simp [p3, p3']; rfl) ?_
          refine kc ?_
          refine ko [2, 3, 4, 8, 19, 20, 21, 27, 28, 29] 3 (by simp; rfl) ?_
          replace h1 := bnd h1; obtain ⟨y5, hy5, h1⟩ := h1
          refine kcall [2, 3, 4, 8, 19, 20, 21, 30] [] (ref33_Apply_ok hy5) rfl rfl rfl Try.call54 (by simp) (by simp; rfl) ?_
          refine ko [2, 3, 4, 8, 10, 11, 19, 20, 21] 6 (by simp; rfl) ?_
          refine tops_nil ?_
          refine tr_seq ?_
          refine kr [2, 3, 4, 8, 10, 11, 19, 20, 21, 34] (by simp; rfl) ?_
          refine tr_cond (b := (y5.2 != 0)) (by simp) (fun c10 => ?_) (fun c10 => ?_)
          · rw [if_pos c10] at h1
            refine kr [6, 7] (by simp; rfl) ?_
            have k1 := he1 _ (Option.some.inj h1)
            subst k1
            dsimp only at h0
            cases h0
            exact tr_ret ⟨[], by simp, rfl, by simp⟩
          · rw [if_neg (by rw [c10]; decide)] at h1
            refine tr_skip ?_
            refine tr_seq ?_
            refine kc ?_
            refine ko [2, 3, 4, 8, 10, 19, 20, 21, 37, 38, 39] 3 (by simp; rfl) ?_
            replace h1 := bnd h1; obtain ⟨y6, hy6, h1⟩ := h1
            refine kcall [2, 3, 4, 8, 10, 19, 20, 21, 40] [] (ref33_safe_ok hy6) rfl rfl rfl Try.call89 (by simp) (by simp; rfl) ?_
            refine ko [2, 3, 4, 8, 10, 19, 20, 21, 41] 1 (by simp; rfl) ?_
            refine tops_nil ?_
            refine tr_cond (b := (!y6)) (by simp) (fun c11 => ?_) (fun c11 => ?_)
            · rw [if_pos c11] at h1
              refine kr [6, 7] (by simp; rfl) ?_
              have k1 := he1 _ (Option.some.inj h1)
              subst k1
              dsimp only at h0
              cases h0
              exact tr_ret ⟨[], by simp, rfl, by simp⟩
            · rw [if_neg (by rw [c11]; decide)] at h1
              refine tr_skip ?_
              refine lr (by simp; rfl) ?_
              refine lr (by simp; rfl) ?_
              exact ⟨_, hg1 _ (Option.some.inj h1), wk (by simp [weak_iff])⟩
        · rw [if_neg (by rw [c9]; decide)] at h1
          refine tr_exit ?_
          exact ⟨_, he1 _ (Option.some.inj h1), wk (by simp [weak_iff])⟩
set_option maxHeartbeats 1000000 in
theorem law33_StepsExact_ok {a0 : List Int} {a1 : api_Fleet} {a2 : api_Rotation} {a3 : api_Step} {a4 : List api_Step} {r : Bool} (h0 : law33_StepsExact a0 a1 a2 a3 a4 = some r) : FnOK Try.prog 11 [] [.d (.slice (rowsF (iRow .i64) a0)), .agg (api_Fleet_av a1), .agg (api_Rotation_av a2), .agg (api_Step_av a3), .d (.slice (rowsF api_Step_row a4))] (.d (.bool r)) [] := by
  unfold law33_StepsExact at h0
  refine fn_ok (nt := 239) (rs := [.tmp 10]) Try.func11 rfl Try.ntmps11 rfl (by simp) (by decide) rfl fun K => ?_
  refine kr [0, 4, 6, 7, 8] (by simp; rfl) ?_
  refine tr_seq ?_
  replace h0 := bnd h0; obtain ⟨v1, hvv1, h0⟩ := h0
  refine sjv (fun v1_ : Bool => ({ nt := 239, env := [(0, .d (.slice (rowsF (iRow .i64) a0))), (4, .d (.slice (rowsF api_Step_row a4))), (6, .ptr 6 0), (7, .ptr 7 0), (8, .ptr 8 0), (59, .d (.bool v1_))], box := [(6, [.d (.int .i64 a1.Slots), .d (.slice (rowsF api_Consumer_row a1.Consumers))]), (7, [.d (.int .i64 a2.Known), .d (.int .i64 a2.Valid), .d (.slice (rowsF api_Unit_row a2.Units))]), (8, [.d (.int .i64 a3.Kind), .d (.int .i64 a3.Unit)])], vec := [] } : St)) (fun v1_ => v1 = v1_) (fun v1_ e => ?_) ?_
  · subst e
    refine tr_cond (b := v1) (by simp) (fun c7 => ?_) (fun c7 => ?_)
    · rw [if_pos c7] at h0
      refine kc ?_
      replace h0 := bnd h0; obtain ⟨y2, hy2, h0⟩ := h0
      refine kcall [60] [] (law33_awake_ok hy2) rfl rfl rfl Try.call43 (by simp) (by simp; rfl) ?_
      refine ko [10] 1 (by simp; rfl) ?_
      refine tops_nil ?_
      cases h0
      exact tr_ret ⟨[], by simp, rfl, by simp⟩
    · rw [if_neg (by rw [c7]; decide)] at h0
      refine tr_skip ?_
      refine kr [4, 6, 7, 8, 11] (by simp; rfl) ?_
      refine kc ?_
      refine ko [4, 6, 7, 8, 11, 64] 1 (by simp; rfl) ?_
      replace h0 := bnd h0; obtain ⟨y3, hy3, h0⟩ := h0
      refine kcall [4, 6, 7, 8, 11, 65] [63] (make_Fleet_ok hy3) rfl rfl rfl Try.call18 (by simp) (by simp; rfl) ?_
      refine ko [4, 6, 7, 8, 11, 12] 2 (by simp; rfl) ?_
      refine tops_nil ?_
      refine kc ?_
      refine ko [4, 6, 7, 8, 11, 12, 66, 67] 2 (by simp; rfl) ?_
      replace h0 := bnd h0; obtain ⟨y4, hy4, h0⟩ := h0
      refine kcall [4, 6, 7, 8, 11, 12, 68] [63] (make_State_ok hy4) rfl rfl rfl Try.call19 (by simp) (by simp; rfl) ?_
      refine ko [4, 6, 7, 8, 11, 12, 13] 2 (by simp; rfl) ?_
      refine tops_nil ?_
      refine kc ?_
      refine ko [4, 6, 7, 8, 11, 12, 13, 69, 70, 71] 3 (by simp; rfl) ?_
      replace h0 := bnd h0; obtain ⟨y5, hy5, h0⟩ := h0
      refine kcall [4, 6, 7, 8, 11, 12, 13, 72] [63] (make_Steps_ok hy5) rfl rfl rfl Try.call49 (by simp) (by simp; rfl) ?_
      refine ko [4, 6, 7, 8, 11, 12, 13, 14] 1 (by simp; rfl) ?_
      refine tops_nil ?_
      refine tr_seq ?_
      refine kr [4, 7, 8, 11, 13, 14, 75, 76] (by simp; rfl) ?_
      replace h0 := bnd h0; obtain ⟨l6, hl6, h0⟩ := h0
      replace hl6 := Option.some.inj hl6
      replace h0 := bnd h0; obtain ⟨e1, hI1, h0⟩ := h0
      refine tjv (fun v7 : Unit => ({ nt := 239, env := [], box := [], vec := [] } : St)) (fun v7 => .inl v7 = e1) (fun v7 hI1e _ W1 => ?_) ?_
      · subst hI1e
        dsimp only at h0
        refine tr_wk W1 ?_
        refine kc ?_
        replace h0 := bnd h0; obtain ⟨y8, hy8, h0⟩ := h0
        refine kcall [238] [] (law33_awake_ok hy8) rfl rfl rfl Try.call43 (by simp) (by simp; rfl) ?_
        refine ko [10] 1 (by simp; rfl) ?_
        refine tops_nil ?_
        cases h0
        exact tr_ret ⟨[], by simp, rfl, by simp⟩
      · refine tr_block (tr_iter (fun s9 : Int × (List Int) × Int => ({ nt := 239, env := [(4, .d (.slice (rowsF api_Step_row a4))), (7, .ptr 7 0), (8, .ptr 8 0), (11, .ptr 63 0), (13, .ptr 13 0), (14, .d (.slice (rowsF api_Step_row y5.1))), (75, .agg (arC api_Fleet_row l6)), (76, .d (.int .i64 s9.1))], box := [(7, [.d (.int .i64 a2.Known), .d (.int .i64 a2.Valid), .d (.slice (rowsF api_Unit_row a2.Units))]), (8, [.d (.int .i64 a3.Kind), .d (.int .i64 a3.Unit)]), (13, [.d (.int .i64 y4.1.Known), .d (.int .i64 y4.1.Valid), .d (.slice (rowsF api_Unit_row y4.1.Units))]), (63, [.d (.slice (rowsF (iRow .i64) s9.2.1)), .d (.int .i64 s9.2.2)])], vec := [] } : St)) hI1 (wk (by subst hl6; simp [weak_iff])) fun G1 s9 o1 h1 hg1 he1 => ?_)
        unfold law33_StepsExact_l0 at h1
        refine kr [4, 7, 8, 11, 13, 14, 75, 76, 77] (by simp; rfl) ?_
        refine tr_seq ?_
        refine tr_cond (b := (decide (s9.1 < 2))) (by simp) (fun c210 => ?_) (fun c210 => ?_)
        · rw [if_pos c210] at h1
          refine tr_skip ?_
          refine tr_seq ?_
          refine tr_block ?_
          replace h1 := bnd h1; obtain ⟨_, p91, h1⟩ := h1
          replace p91 := ck_some p91
          have p91' := p91; try simp at p91'
          replace h1 := bnd h1; obtain ⟨x10, p92, h1⟩ := h1
          replace p92 := idx_some p92
          have p92' := p92; try simp at p92'
          have ix93 : indexVA Try.prog 76 (.agg (arC api_Fleet_row l6)) s9.1 = some (.agg [.d (.int .i64 x10.Slots), .d (.slice (rowsF api_Consumer_row x10.Consumers))]) := indexVA_arC Try.underlying76 sz29 p92.1 p91 p92.2 (by simp) (by simp)
          refine kr [4, 7, 8, 11, 13, 14, 16, 75, 76] (by simp [p91, p92, ix93, -indexVA, p91', p92']; rfl) ?_
          refine kr [4, 7, 8, 11, 13, 14, 16, 75, 76, 81, 82] (by simp; rfl) ?_
          replace h1 := bnd h1; obtain ⟨l11, hl11, h1⟩ := h1
          replace hl11 := Option.some.inj hl11
          replace h1 := bnd h1; obtain ⟨e2, hI2, h1⟩ := h1
          refine tjv (fun v12 : (List Int) × Int => ({ nt := 239, env := [(4, .d (.slice (rowsF api_Step_row a4))), (7, .ptr 7 0), (8, .ptr 8 0), (11, .ptr 63 0), (13, .ptr 13 0), (14, .d (.slice (rowsF api_Step_row y5.1))), (75, .agg (arC api_Fleet_row l6)), (76, .d (.int .i64 s9.1))], box := [(7, [.d (.int .i64 a2.Known), .d (.int .i64 a2.Valid), .d (.slice (rowsF api_Unit_row a2.Units))]), (8, [.d (.int .i64 a3.Kind), .d (.int .i64 a3.Unit)]), (13, [.d (.int .i64 y4.1.Known), .d (.int .i64 y4.1.Valid), .d (.slice (rowsF api_Unit_row y4.1.Units))]), (63, [.d (.slice (rowsF (iRow .i64) v12.1)), .d (.int .i64 v12.2)])], vec := [] } : St)) (fun v12 => .inl v12 = e2) (fun v12 hI2e _ W2 => ?_) ?_
          · subst hI2e
            dsimp only at h1
            refine tr_wk W2 ?_
            refine lr (by simp; rfl) ?_
            exact ⟨_, hg1 _ (Option.some.inj h1), wk (by simp [weak_iff])⟩
          · refine tr_block (tr_iter (fun s13 : Int × (List Int) × Int => ({ nt := 239, env := [(4, .d (.slice (rowsF api_Step_row a4))), (7, .ptr 7 0), (8, .ptr 8 0), (11, .ptr 63 0), (13, .ptr 13 0), (14, .d (.slice (rowsF api_Step_row y5.1))), (16, .ptr 16 0), (75, .agg (arC api_Fleet_row l6)), (76, .d (.int .i64 s9.1)), (81, .agg (arC api_Rotation_row l11)), (82, .d (.int .i64 s13.1))], box := [(7, [.d (.int .i64 a2.Known), .d (.int .i64 a2.Valid), .d (.slice (rowsF api_Unit_row a2.Units))]), (8, [.d (.int .i64 a3.Kind), .d (.int .i64 a3.Unit)]), (13, [.d (.int .i64 y4.1.Known), .d (.int .i64 y4.1.Valid), .d (.slice (rowsF api_Unit_row y4.1.Units))]), (16, [.d (.int .i64 x10.Slots), .d (.slice (rowsF api_Consumer_row x10.Consumers))]), (63, [.d (.slice (rowsF (iRow .i64) s13.2.1)), .d (.int .i64 s13.2.2)])], vec := [] } : St)) hI2 (wk (by subst hl11; simp [weak_iff])) fun G2 s13 o2 h2 hg2 he2 => ?_)
            unfold law33_StepsExact_l1 at h2
            refine kr [4, 7, 8, 11, 13, 14, 16, 75, 76, 81, 82, 83] (by simp; rfl) ?_
            refine tr_seq ?_
            refine tr_cond (b := (decide (s13.1 < 2))) (by simp) (fun c311 => ?_) (fun c311 => ?_)
            · rw [if_pos c311] at h2
              refine tr_skip ?_
              refine tr_seq ?_
              refine tr_block ?_
              replace h2 := bnd h2; obtain ⟨_, p136, h2⟩ := h2
              replace p136 := ck_some p136
              have p136' := p136; try simp at p136'
              replace h2 := bnd h2; obtain ⟨x14, p137, h2⟩ := h2
              replace p137 := idx_some p137
              have p137' := p137; try simp at p137'
              have ix138 : indexVA Try.prog 77 (.agg (arC api_Rotation_row l11)) s13.1 = some (.agg [.d (.int .i64 x14.Known), .d (.int .i64 x14.Valid), .d (.slice (rowsF api_Unit_row x14.Units))]) := indexVA_arC Try.underlying77 sz33 p137.1 p136 p137.2 (by simp) (by simp)
              refine kr [4, 7, 8, 11, 13, 14, 16, 18, 75, 76, 81, 82] (by simp [p136, p137, ix138, -indexVA, p136', p137']; rfl) ?_
              refine tr_seq ?_
              refine kr [4, 7, 8, 11, 13, 14, 16, 18, 19, 75, 76, 81, 82] (by simp; rfl) ?_
              replace h2 := bnd h2; obtain ⟨e3, hI3, h2⟩ := h2
              refine tjv (fun v15 : (List Int) × Int => ({ nt := 239, env := [(4, .d (.slice (rowsF api_Step_row a4))), (7, .ptr 7 0), (8, .ptr 8 0), (11, .ptr 63 0), (13, .ptr 13 0), (14, .d (.slice (rowsF api_Step_row y5.1))), (16, .ptr 16 0), (18, .ptr 18 0), (75, .agg (arC api_Fleet_row l6)), (76, .d (.int .i64 s9.1)), (81, .agg (arC api_Rotation_row l11)), (82, .d (.int .i64 s13.1))], box := [(7, [.d (.int .i64 a2.Known), .d (.int .i64 a2.Valid), .d (.slice (rowsF api_Unit_row a2.Units))]), (8, [.d (.int .i64 a3.Kind), .d (.int .i64 a3.Unit)]), (13, [.d (.int .i64 y4.1.Known), .d (.int .i64 y4.1.Valid), .d (.slice (rowsF api_Unit_row y4.1.Units))]), (16, [.d (.int .i64 x10.Slots), .d (.slice (rowsF api_Consumer_row x10.Consumers))]), (18, [.d (.int .i64 x14.Known), .d (.int .i64 x14.Valid), .d (.slice (rowsF api_Unit_row x14.Units))]), (63, [.d (.slice (rowsF (iRow .i64) v15.1)), .d (.int .i64 v15.2)])], vec := [] } : St)) (fun v15 => .inl v15 = e3) (fun v15 hI3e _ W3 => ?_) ?_
              · subst hI3e
                dsimp only at h2
                refine tr_wk W3 ?_
                refine kc ?_
                refine ko [4, 7, 8, 11, 13, 14, 16, 18, 75, 76, 81, 82, 146, 147, 148] 3 (by simp; rfl) ?_
                replace h2 := bnd h2; obtain ⟨y16, hy16, h2⟩ := h2
                refine kcall [4, 7, 8, 11, 13, 14, 16, 18, 75, 76, 81, 82, 149] [] (steps_Apply_ok hy16) rfl rfl rfl Try.call45 (by simp) (by simp; rfl) ?_
                refine ko [4, 7, 8, 11, 13, 14, 16, 18, 26, 27, 75, 76, 81, 82] 6 (by simp; rfl) ?_
                refine tops_nil ?_
                refine kc ?_
                refine ko [4, 7, 8, 11, 13, 14, 16, 18, 26, 27, 75, 76, 81, 82, 153, 154, 155] 3 (by simp; rfl) ?_
                replace h2 := bnd h2; obtain ⟨y17, hy17, h2⟩ := h2
                refine kcall [4, 7, 8, 11, 13, 14, 16, 18, 26, 27, 75, 76, 81, 82, 156] [] (ref33_Apply_ok hy17) rfl rfl rfl Try.call54 (by simp) (by simp; rfl) ?_
                refine ko [4, 7, 8, 11, 13, 14, 16, 18, 26, 27, 28, 29, 75, 76, 81, 82] 6 (by simp; rfl) ?_
                refine tops_nil ?_
                refine tr_seq ?_
                replace h2 := bnd h2; obtain ⟨v18, hvv18, h2⟩ := h2
                refine sjv (fun v18_ : Bool => ({ nt := 239, env := [(4, .d (.slice (rowsF api_Step_row a4))), (7, .ptr 7 0), (8, .ptr 8 0), (11, .ptr 63 0), (13, .ptr 13 0), (14, .d (.slice (rowsF api_Step_row y5.1))), (16, .ptr 16 0), (18, .ptr 18 0), (75, .agg (arC api_Fleet_row l6)), (76, .d (.int .i64 s9.1)), (81, .agg (arC api_Rotation_row l11)), (82, .d (.int .i64 s13.1)), (177, .d (.bool v18_))], box := [(7, [.d (.int .i64 a2.Known), .d (.int .i64 a2.Valid), .d (.slice (rowsF api_Unit_row a2.Units))]), (8, [.d (.int .i64 a3.Kind), .d (.int .i64 a3.Unit)]), (13, [.d (.int .i64 y4.1.Known), .d (.int .i64 y4.1.Valid), .d (.slice (rowsF api_Unit_row y4.1.Units))]), (16, [.d (.int .i64 x10.Slots), .d (.slice (rowsF api_Consumer_row x10.Consumers))]), (18, [.d (.int .i64 x14.Known), .d (.int .i64 x14.Valid), .d (.slice (rowsF api_Unit_row x14.Units))]), (63, [.d (.slice (rowsF (iRow .i64) v15.1)), .d (.int .i64 v15.2)])], vec := [] } : St)) (fun v18_ => v18 = v18_) (fun v18_ e => ?_) ?_
                · subst e
                  refine tr_cond (b := v18) (by simp) (fun c354 => ?_) (fun c354 => ?_)
                  · rw [if_pos c354] at h2
                    refine kr [10] (by simp; rfl) ?_
                    have k2 := he2 _ (Option.some.inj h2)
                    subst k2
                    dsimp only at h1
                    have k1 := he1 _ (Option.some.inj h1)
                    subst k1
                    dsimp only at h0
                    cases h0
                    exact tr_ret ⟨[], by simp, rfl, by simp⟩
                  · rw [if_neg (by rw [c354]; decide)] at h2
                    refine tr_skip ?_
                    refine kc ?_
                    refine ko [4, 7, 8, 11, 13, 14, 16, 18, 75, 76, 81, 82, 178, 179, 180, 181, 182] 5 (by simp; rfl) ?_
                    replace h2 := bnd h2; obtain ⟨y19, hy19, h2⟩ := h2
                    refine kcall [4, 7, 8, 11, 13, 14, 16, 18, 75, 76, 81, 82, 178, 179, 183] [63] (make_SafeSteps_ok hy19) rfl rfl rfl Try.call52 (by simp) (by simp; rfl) ?_
                    refine ko [4, 7, 8, 11, 13, 14, 16, 18, 75, 76, 81, 82, 184, 185] 2 (by simp; rfl) ?_
                    refine tops_nil ?_
                    replace h2 := bnd h2; obtain ⟨l20, hl20, h2⟩ := h2
                    replace hl20 := Option.some.inj hl20
                    replace h2 := bnd h2; obtain ⟨e4, hI4, h2⟩ := h2
                    refine tjv (fun v21 : Unit => ({ nt := 239, env := [(4, .d (.slice (rowsF api_Step_row a4))), (7, .ptr 7 0), (8, .ptr 8 0), (11, .ptr 63 0), (13, .ptr 13 0), (14, .d (.slice (rowsF api_Step_row y5.1))), (16, .ptr 16 0), (75, .agg (arC api_Fleet_row l6)), (76, .d (.int .i64 s9.1)), (81, .agg (arC api_Rotation_row l11)), (82, .d (.int .i64 s13.1))], box := [(7, [.d (.int .i64 a2.Known), .d (.int .i64 a2.Valid), .d (.slice (rowsF api_Unit_row a2.Units))]), (8, [.d (.int .i64 a3.Kind), .d (.int .i64 a3.Unit)]), (13, [.d (.int .i64 y4.1.Known), .d (.int .i64 y4.1.Valid), .d (.slice (rowsF api_Unit_row y4.1.Units))]), (16, [.d (.int .i64 x10.Slots), .d (.slice (rowsF api_Consumer_row x10.Consumers))]), (63, [.d (.slice (rowsF (iRow .i64) y19.2.L)), .d (.int .i64 y19.2.at_)])], vec := [] } : St)) (fun v21 => .inl v21 = e4) (fun v21 hI4e _ W4 => ?_) ?_
                    · subst hI4e
                      dsimp only at h2
                      refine tr_wk W4 ?_
                      refine lr (by simp; rfl) ?_
                      exact ⟨_, hg2 _ (Option.some.inj h2), wk (by simp [weak_iff])⟩
                    · refine tr_block (tr_iter (fun s22 : Int => ({ nt := 239, env := [(4, .d (.slice (rowsF api_Step_row a4))), (7, .ptr 7 0), (8, .ptr 8 0), (11, .ptr 63 0), (13, .ptr 13 0), (14, .d (.slice (rowsF api_Step_row y5.1))), (16, .ptr 16 0), (18, .ptr 18 0), (75, .agg (arC api_Fleet_row l6)), (76, .d (.int .i64 s9.1)), (81, .agg (arC api_Rotation_row l11)), (82, .d (.int .i64 s13.1)), (184, .agg (arC (slRow api_Step_row) l20)), (185, .d (.int .i64 s22))], box := [(7, [.d (.int .i64 a2.Known), .d (.int .i64 a2.Valid), .d (.slice (rowsF api_Unit_row a2.Units))]), (8, [.d (.int .i64 a3.Kind), .d (.int .i64 a3.Unit)]), (13, [.d (.int .i64 y4.1.Known), .d (.int .i64 y4.1.Valid), .d (.slice (rowsF api_Unit_row y4.1.Units))]), (16, [.d (.int .i64 x10.Slots), .d (.slice (rowsF api_Consumer_row x10.Consumers))]), (18, [.d (.int .i64 x14.Known), .d (.int .i64 x14.Valid), .d (.slice (rowsF api_Unit_row x14.Units))]), (63, [.d (.slice (rowsF (iRow .i64) y19.2.L)), .d (.int .i64 y19.2.at_)])], vec := [] } : St)) hI4 (wk (by subst hl20; simp [weak_iff])) fun G4 s22 o4 h4 hg4 he4 => ?_)
                      unfold law33_StepsExact_l3 at h4
                      refine kr [4, 7, 8, 11, 13, 14, 16, 18, 75, 76, 81, 82, 184, 185, 186] (by simp; rfl) ?_
                      refine tr_seq ?_
                      refine tr_cond (b := (decide (s22 < 3))) (by simp) (fun c365 => ?_) (fun c365 => ?_)
                      · rw [if_pos c365] at h4
                        refine tr_skip ?_
                        refine tr_seq ?_
                        refine tr_block ?_
                        replace h4 := bnd h4; obtain ⟨_, p157, h4⟩ := h4
                        replace p157 := ck_some p157
                        have p157' := p157; try simp at p157'
                        replace h4 := bnd h4; obtain ⟨x23, p158, h4⟩ := h4
                        replace p158 := idx_some p158
                        have p158' := p158; try simp at p158'
                        have ix159 : indexVA Try.prog 80 (.agg (arC (slRow api_Step_row) l20)) s22 = some (.d (.slice (rowsF api_Step_row x23))) := indexVA_arC Try.underlying80 sz67 p158.1 p157 p158.2 (by simp) (by simp)
                        refine kr [4, 7, 8, 11, 13, 14, 16, 18, 31, 75, 76, 81, 82, 184, 185] (by simp [p157, p158, ix159, -indexVA, p157', p158']; rfl) ?_
                        refine kc ?_
                        refine ko [4, 7, 8, 11, 13, 14, 16, 18, 31, 75, 76, 81, 82, 184, 185, 189, 190, 191] 3 (by simp; rfl) ?_
                        replace h4 := bnd h4; obtain ⟨y24, hy24, h4⟩ := h4
                        refine kcall [4, 7, 8, 11, 13, 14, 16, 18, 31, 75, 76, 81, 82, 184, 185, 192] [] (steps_Run_ok hy24) rfl rfl rfl Try.call50 (by simp) (by simp; rfl) ?_
                        refine ko [4, 7, 8, 11, 13, 14, 16, 18, 31, 32, 33, 75, 76, 81, 82, 184, 185] 5 (by simp; rfl) ?_
                        refine tops_nil ?_
                        refine kc ?_
                        refine ko [4, 7, 8, 11, 13, 14, 16, 18, 31, 32, 33, 75, 76, 81, 82, 184, 185, 196, 197, 198] 3 (by simp; rfl) ?_
                        replace h4 := bnd h4; obtain ⟨y25, hy25, h4⟩ := h4
                        refine kcall [4, 7, 8, 11, 13, 14, 16, 18, 31, 32, 33, 75, 76, 81, 82, 184, 185, 199] [] (ref33_Run_ok hy25) rfl rfl rfl Try.call59 (by simp) (by simp; rfl) ?_
                        refine ko [4, 7, 8, 11, 13, 14, 16, 18, 31, 32, 33, 34, 35, 75, 76, 81, 82, 184, 185] 5 (by simp; rfl) ?_
                        refine tops_nil ?_
                        refine kc ?_
                        refine ko [4, 7, 8, 11, 13, 14, 16, 18, 31, 32, 33, 34, 35, 75, 76, 81, 82, 184, 185, 203, 204, 205] 3 (by simp; rfl) ?_
                        replace h4 := bnd h4; obtain ⟨y26, hy26, h4⟩ := h4
                        refine kcall [4, 7, 8, 11, 13, 14, 16, 18, 31, 32, 33, 34, 35, 75, 76, 81, 82, 184, 185, 206] [] (steps_Fault_ok hy26) rfl rfl rfl Try.call53 (by simp) (by simp; rfl) ?_
                        refine ko [4, 7, 8, 11, 13, 14, 16, 18, 31, 32, 33, 34, 35, 36, 37, 75, 76, 81, 82, 184, 185] 5 (by simp; rfl) ?_
                        refine tops_nil ?_
                        refine kc ?_
                        refine ko [4, 7, 8, 11, 13, 14, 16, 18, 32, 33, 34, 35, 36, 37, 75, 76, 81, 82, 184, 185, 210, 211, 212] 3 (by simp; rfl) ?_
                        replace h4 := bnd h4; obtain ⟨y27, hy27, h4⟩ := h4
                        refine kcall [4, 7, 8, 11, 13, 14, 16, 18, 32, 33, 34, 35, 36, 37, 75, 76, 81, 82, 184, 185, 213] [] (ref33_Fault_ok hy27) rfl rfl rfl Try.call60 (by simp) (by simp; rfl) ?_
                        refine ko [4, 7, 8, 11, 13, 14, 16, 18, 32, 33, 34, 35, 36, 37, 38, 39, 75, 76, 81, 82, 184, 185] 5 (by simp; rfl) ?_
                        refine tops_nil ?_
                        replace h4 := bnd h4; obtain ⟨v28, hvv28, h4⟩ := h4
                        refine sjv (fun v28_ : Bool => ({ nt := 239, env := [(4, .d (.slice (rowsF api_Step_row a4))), (7, .ptr 7 0), (8, .ptr 8 0), (11, .ptr 63 0), (13, .ptr 13 0), (14, .d (.slice (rowsF api_Step_row y5.1))), (16, .ptr 16 0), (18, .ptr 18 0), (75, .agg (arC api_Fleet_row l6)), (76, .d (.int .i64 s9.1)), (81, .agg (arC api_Rotation_row l11)), (82, .d (.int .i64 s13.1)), (184, .agg (arC (slRow api_Step_row) l20)), (185, .d (.int .i64 s22)), (234, .d (.bool v28_))], box := [(7, [.d (.int .i64 a2.Known), .d (.int .i64 a2.Valid), .d (.slice (rowsF api_Unit_row a2.Units))]), (8, [.d (.int .i64 a3.Kind), .d (.int .i64 a3.Unit)]), (13, [.d (.int .i64 y4.1.Known), .d (.int .i64 y4.1.Valid), .d (.slice (rowsF api_Unit_row y4.1.Units))]), (16, [.d (.int .i64 x10.Slots), .d (.slice (rowsF api_Consumer_row x10.Consumers))]), (18, [.d (.int .i64 x14.Known), .d (.int .i64 x14.Valid), .d (.slice (rowsF api_Unit_row x14.Units))]), (63, [.d (.slice (rowsF (iRow .i64) y19.2.L)), .d (.int .i64 y19.2.at_)])], vec := [] } : St)) (fun v28_ => v28 = v28_) (fun v28_ e => ?_) ?_
                        · subst e
                          refine tr_cond (b := v28) (by simp) (fun c372 => ?_) (fun c372 => ?_)
                          · rw [if_pos c372] at h4
                            refine kr [10] (by simp; rfl) ?_
                            have k3 := he4 _ (Option.some.inj h4)
                            subst k3
                            dsimp only at h2
                            have k2 := he2 _ (Option.some.inj h2)
                            subst k2
                            dsimp only at h1
                            have k1 := he1 _ (Option.some.inj h1)
                            subst k1
                            dsimp only at h0
                            cases h0
                            exact tr_ret ⟨[], by simp, rfl, by simp⟩
                          · rw [if_neg (by rw [c372]; decide)] at h4
                            refine tr_skip ?_
                            refine lr (by simp; rfl) ?_
                            exact ⟨_, hg4 _ (Option.some.inj h4), wk (by simp [weak_iff])⟩
                        · refine kc1 ?_
                          refine ko [4, 7, 8, 11, 13, 14, 16, 18, 32, 34, 36, 37, 38, 39, 75, 76, 81, 82, 184, 185, 219] 4 (by simp; rfl) ?_
                          refine tops_split 219 (y24.2 != y25.2) (by simp) (fun c373 => ?_) (fun c373 => ?_)
                          · rw [if_pos c373] at hvv28
                            refine kskip 4 [] (by kernel_rfl) ?_
                            refine ko [4, 7, 8, 11, 13, 14, 16, 18, 36, 37, 38, 39, 75, 76, 81, 82, 184, 185, 225] 2 (by simp; rfl) ?_
                            refine kskip 3 [] (by kernel_rfl) ?_
                            refine ko [4, 7, 8, 11, 13, 14, 16, 18, 37, 39, 75, 76, 81, 82, 184, 185, 230] 2 (by simp; rfl) ?_
                            refine kskip 3 [] (by kernel_rfl) ?_
                            refine ko [4, 7, 8, 11, 13, 14, 16, 18, 75, 76, 81, 82, 184, 185, 234] 1 (by simp; rfl) ?_
                            refine tops_nil ?_
                            cases hvv28
                            exact ⟨_, rfl, wk (by simp [weak_iff])⟩
                          · rw [if_neg (by rw [c373]; decide)] at hvv28
                            refine ko [4, 7, 8, 11, 13, 14, 16, 18, 36, 37, 38, 39, 75, 76, 81, 82, 184, 185, 219, 220, 221] 2 (by simp; rfl) ?_
                            replace hvv28 := bnd hvv28; obtain ⟨y29, hy29, hvv28⟩ := hvv28
                            refine kcall [4, 7, 8, 11, 13, 14, 16, 18, 36, 37, 38, 39, 75, 76, 81, 82, 184, 185, 219, 220, 221, 222] [] (ref32_All_ok hy29) rfl rfl rfl Try.call51 (by simp) (by simp; rfl) ?_
                            refine ko [4, 7, 8, 11, 13, 14, 16, 18, 36, 37, 38, 39, 75, 76, 81, 82, 184, 185, 220, 221, 222, 223, 225] 3 (by simp; rfl) ?_
                            refine tops_split 225 (!y29) (by simp) (fun c374 => ?_) (fun c374 => ?_)
                            · rw [if_pos c374] at hvv28
                              refine kskip 3 [] (by kernel_rfl) ?_
                              refine ko [4, 7, 8, 11, 13, 14, 16, 18, 37, 39, 75, 76, 81, 82, 184, 185, 220, 221, 222, 223, 230] 2 (by simp; rfl) ?_
                              refine kskip 3 [] (by kernel_rfl) ?_
                              refine ko [4, 7, 8, 11, 13, 14, 16, 18, 75, 76, 81, 82, 184, 185, 220, 221, 222, 223, 234] 1 (by simp; rfl) ?_
                              refine tops_nil ?_
                              cases hvv28
                              exact ⟨_, rfl, wk (by simp [weak_iff])⟩
                            · rw [if_neg (by rw [c374]; decide)] at hvv28
                              refine ko [4, 7, 8, 11, 13, 14, 16, 18, 37, 39, 75, 76, 81, 82, 184, 185, 220, 221, 222, 223, 226, 227, 228, 230] 5 (by simp; rfl) ?_
                              refine tops_split 230 (y26.1 != y27.1) (by simp) (fun c375 => ?_) (fun c375 => ?_)
                              · rw [if_pos c375] at hvv28
                                refine kskip 3 [] (by kernel_rfl) ?_
                                refine ko [4, 7, 8, 11, 13, 14, 16, 18, 75, 76, 81, 82, 184, 185, 220, 221, 222, 223, 226, 227, 228, 234] 1 (by simp; rfl) ?_
                                refine tops_nil ?_
                                cases hvv28
                                exact ⟨_, rfl, wk (by simp [weak_iff])⟩
                              · rw [if_neg (by rw [c375]; decide)] at hvv28
                                refine ko [4, 7, 8, 11, 13, 14, 16, 18, 75, 76, 81, 82, 184, 185, 220, 221, 222, 223, 226, 227, 228, 231, 232, 233, 234] 4 (by simp; rfl) ?_
                                refine tops_nil ?_
                                cases hvv28
                                exact ⟨_, rfl, wk (by simp [weak_iff])⟩
                      · rw [if_neg (by rw [c365]; decide)] at h4
                        refine tr_exit ?_
                        exact ⟨_, he4 _ (Option.some.inj h4), wk (by simp [weak_iff])⟩
                · refine kd1 [[], [], [0, 1], [2], [3], [3], [3, 4, 5], [3, 6], [3, 7], [8], [9], [9], [9, 10, 11], [9], [9], [9, 13, 14], [9, 12, 15], [9, 16], [9, 17]] [] [] none [] 19 fol (by decide +kernel) (by simp) ?_
                  refine dr_go 0 2 rfl (by simp (maxSteps := 1000000); rfl) ?_
                  refine dr_go 2 2 rfl (by simp (maxSteps := 1000000); rfl) ?_
                  refine dr_split 3 162 (y16.2 != y17.2) (by simp) (fun c378 => ?_) (fun c378 => ?_)
                  · rw [if_pos c378] at hvv18
                    refine dr_skip 4 239 [some 163, some 164, some 165, some 166] rfl rfl (by decide) (by kernel_rfl) (by simp only [skEf, List.map_cons, List.map_nil, List.cons_append, List.nil_append]; rfl) ?_
                    refine dr_go 8 2 rfl (by simp (maxSteps := 1000000); rfl) ?_
                    refine dr_skip 10 239 [some 169, some 170, some 171, some 172, some 173, some 174, some 175, some 176] rfl rfl (by decide) (by kernel_rfl) (by simp only [skEf, List.map_cons, List.map_nil, List.cons_append, List.nil_append]; rfl) ?_
                    refine dr_go 18 1 rfl (by simp (maxSteps := 1000000); rfl) ?_
                    refine dr_end rfl (tops_nil ?_)
                    cases hvv18
                    exact ⟨_, rfl, wk (by simp [weak_iff])⟩
                  · rw [if_neg (by rw [c378]; decide)] at hvv18
                    refine dr_go 4 2 rfl (by simp (maxSteps := 1000000); rfl) ?_
                    replace hvv18 := bnd hvv18; obtain ⟨y32, hy32, hvv18⟩ := hvv18
                    refine dr_call 6 [] (ref32_Same_ok hy32) rfl rfl rfl rfl rfl Try.call30 (by simp) ?_
                    refine dr_go 7 2 rfl (by simp (maxSteps := 1000000); rfl) ?_
                    refine dr_go 9 1 rfl (by simp (maxSteps := 1000000); rfl) ?_
                    refine dr_split 9 168 (!y32) (by simp) (fun c379 => ?_) (fun c379 => ?_)
                    · rw [if_pos c379] at hvv18
                      refine dr_skip 10 239 [some 169, some 170, some 171, some 172, some 173, some 174, some 175, some 176] rfl rfl (by decide) (by kernel_rfl) (by simp only [skEf, List.map_cons, List.map_nil, List.cons_append, List.nil_append]; rfl) ?_
                      refine dr_go 18 1 rfl (by simp (maxSteps := 1000000); rfl) ?_
                      refine dr_end rfl (tops_nil ?_)
                      cases hvv18
                      exact ⟨_, rfl, wk (by simp [weak_iff])⟩
                    · rw [if_neg (by rw [c379]; decide)] at hvv18
                      refine dr_go 10 2 rfl (by simp (maxSteps := 1000000); rfl) ?_
                      replace hvv18 := bnd hvv18; obtain ⟨y33, hy33, hvv18⟩ := hvv18
                      refine dr_call 12 [] (steps_Choices_ok hy33) rfl rfl rfl rfl rfl Try.call47 (by simp) ?_
                      refine dr_go 13 2 rfl (by simp (maxSteps := 1000000); rfl) ?_
                      replace hvv18 := bnd hvv18; obtain ⟨y34, hy34, hvv18⟩ := hvv18
                      refine dr_call 15 [] (ref33_Choices_ok hy34) rfl rfl rfl rfl rfl Try.call58 (by simp) ?_
                      replace hvv18 := bnd hvv18; obtain ⟨y35, hy35, hvv18⟩ := hvv18
                      refine dr_call 16 [] (ref33_Same_ok hy35) rfl rfl rfl rfl rfl Try.call57 (by simp) ?_
                      refine dr_go 17 2 rfl (by simp (maxSteps := 1000000); rfl) ?_
                      refine dr_end rfl (tops_nil ?_)
                      cases hvv18
                      exact ⟨_, rfl, wk (by simp [weak_iff])⟩
              · refine tr_block (tr_iter (fun s36 : Int × (List Int) × Int => ({ nt := 239, env := [(4, .d (.slice (rowsF api_Step_row a4))), (7, .ptr 7 0), (8, .ptr 8 0), (11, .ptr 63 0), (13, .ptr 13 0), (14, .d (.slice (rowsF api_Step_row y5.1))), (16, .ptr 16 0), (18, .ptr 18 0), (19, .d (.int .i64 s36.1)), (75, .agg (arC api_Fleet_row l6)), (76, .d (.int .i64 s9.1)), (81, .agg (arC api_Rotation_row l11)), (82, .d (.int .i64 s13.1))], box := [(7, [.d (.int .i64 a2.Known), .d (.int .i64 a2.Valid), .d (.slice (rowsF api_Unit_row a2.Units))]), (8, [.d (.int .i64 a3.Kind), .d (.int .i64 a3.Unit)]), (13, [.d (.int .i64 y4.1.Known), .d (.int .i64 y4.1.Valid), .d (.slice (rowsF api_Unit_row y4.1.Units))]), (16, [.d (.int .i64 x10.Slots), .d (.slice (rowsF api_Consumer_row x10.Consumers))]), (18, [.d (.int .i64 x14.Known), .d (.int .i64 x14.Valid), .d (.slice (rowsF api_Unit_row x14.Units))]), (63, [.d (.slice (rowsF (iRow .i64) s36.2.1)), .d (.int .i64 s36.2.2)])], vec := [] } : St)) hI3 (wk (by simp [weak_iff])) fun G4 s36 o4 h4 hg4 he4 => ?_)
                unfold law33_StepsExact_l2 at h4
                refine tr_seq ?_
                refine kr [4, 7, 8, 11, 13, 14, 16, 18, 19, 75, 76, 81, 82, 86] (by simp; rfl) ?_
                refine tr_cond (b := (decide (s36.1 ≤ 9))) (by simp) (fun c380 => ?_) (fun c380 => ?_)
                · rw [if_pos c380] at h4
                  refine tr_skip ?_
                  refine tr_seq ?_
                  refine tr_block ?_
                  refine kc ?_
                  refine ko [4, 7, 8, 11, 13, 14, 16, 18, 19, 75, 76, 81, 82, 89, 90] 2 (by simp; rfl) ?_
                  replace h4 := bnd h4; obtain ⟨y37, hy37, h4⟩ := h4
                  refine kcall [4, 7, 8, 11, 13, 14, 16, 18, 19, 75, 76, 81, 82, 89, 91] [63] (make_Tape_Between_ok hy37) rfl rfl rfl Try.call25 (by simp) (by simp; rfl) ?_
                  refine ko [4, 7, 8, 11, 13, 14, 16, 18, 19, 75, 76, 81, 82, 95, 96] 5 (by simp; rfl) ?_
                  refine tops_nil ?_
                  replace h4 := bnd h4; obtain ⟨l38, hl38, h4⟩ := h4
                  replace hl38 := Option.some.inj hl38
                  replace h4 := bnd h4; obtain ⟨e5, hI5, h4⟩ := h4
                  refine tjv (fun v39 : Unit => ({ nt := 239, env := [(4, .d (.slice (rowsF api_Step_row a4))), (7, .ptr 7 0), (8, .ptr 8 0), (11, .ptr 63 0), (13, .ptr 13 0), (14, .d (.slice (rowsF api_Step_row y5.1))), (16, .ptr 16 0), (18, .ptr 18 0), (19, .d (.int .i64 s36.1)), (75, .agg (arC api_Fleet_row l6)), (76, .d (.int .i64 s9.1)), (81, .agg (arC api_Rotation_row l11)), (82, .d (.int .i64 s13.1))], box := [(7, [.d (.int .i64 a2.Known), .d (.int .i64 a2.Valid), .d (.slice (rowsF api_Unit_row a2.Units))]), (8, [.d (.int .i64 a3.Kind), .d (.int .i64 a3.Unit)]), (13, [.d (.int .i64 y4.1.Known), .d (.int .i64 y4.1.Valid), .d (.slice (rowsF api_Unit_row y4.1.Units))]), (16, [.d (.int .i64 x10.Slots), .d (.slice (rowsF api_Consumer_row x10.Consumers))]), (18, [.d (.int .i64 x14.Known), .d (.int .i64 x14.Valid), .d (.slice (rowsF api_Unit_row x14.Units))]), (63, [.d (.slice (rowsF (iRow .i64) y37.2.L)), .d (.int .i64 y37.2.at_)])], vec := [] } : St)) (fun v39 => .inl v39 = e5) (fun v39 hI5e _ W5 => ?_) ?_
                  · subst hI5e
                    dsimp only at h4
                    refine tr_wk W5 ?_
                    refine lr (by simp; rfl) ?_
                    exact ⟨_, hg4 _ (Option.some.inj h4), wk (by simp [weak_iff])⟩
                  · refine tr_block (tr_iter (fun s40 : Int => ({ nt := 239, env := [(4, .d (.slice (rowsF api_Step_row a4))), (7, .ptr 7 0), (8, .ptr 8 0), (11, .ptr 63 0), (13, .ptr 13 0), (14, .d (.slice (rowsF api_Step_row y5.1))), (16, .ptr 16 0), (18, .ptr 18 0), (19, .d (.int .i64 s36.1)), (75, .agg (arC api_Fleet_row l6)), (76, .d (.int .i64 s9.1)), (81, .agg (arC api_Rotation_row l11)), (82, .d (.int .i64 s13.1)), (95, .agg (arC api_Step_row l38)), (96, .d (.int .i64 s40))], box := [(7, [.d (.int .i64 a2.Known), .d (.int .i64 a2.Valid), .d (.slice (rowsF api_Unit_row a2.Units))]), (8, [.d (.int .i64 a3.Kind), .d (.int .i64 a3.Unit)]), (13, [.d (.int .i64 y4.1.Known), .d (.int .i64 y4.1.Valid), .d (.slice (rowsF api_Unit_row y4.1.Units))]), (16, [.d (.int .i64 x10.Slots), .d (.slice (rowsF api_Consumer_row x10.Consumers))]), (18, [.d (.int .i64 x14.Known), .d (.int .i64 x14.Valid), .d (.slice (rowsF api_Unit_row x14.Units))]), (63, [.d (.slice (rowsF (iRow .i64) y37.2.L)), .d (.int .i64 y37.2.at_)])], vec := [] } : St)) hI5 (wk (by subst hl38; simp [weak_iff])) fun G5 s40 o5 h5 hg5 he5 => ?_)
                    unfold law33_StepsExact_l4 at h5
                    refine kr [4, 7, 8, 11, 13, 14, 16, 18, 19, 75, 76, 81, 82, 95, 96, 97] (by simp; rfl) ?_
                    refine tr_seq ?_
                    refine tr_cond (b := (decide (s40 < 2))) (by simp) (fun c397 => ?_) (fun c397 => ?_)
                    · rw [if_pos c397] at h5
                      refine tr_skip ?_
                      refine tr_seq ?_
                      refine tr_block ?_
                      replace h5 := bnd h5; obtain ⟨_, p166, h5⟩ := h5
                      replace p166 := ck_some p166
                      have p166' := p166; try simp at p166'
                      replace h5 := bnd h5; obtain ⟨x41, p167, h5⟩ := h5
                      replace p167 := idx_some p167
                      have p167' := p167; try simp at p167'
                      have ix168 : indexVA Try.prog 78 (.agg (arC api_Step_row l38)) s40 = some (.agg [.d (.int .i64 x41.Kind), .d (.int .i64 x41.Unit)]) := indexVA_arC Try.underlying78 sz63 p167.1 p166 p167.2 (by simp) (by simp)
                      refine kr [4, 7, 8, 11, 13, 14, 16, 18, 19, 21, 75, 76, 81, 82, 95, 96] (by simp [p166, p167, ix168, -indexVA, p166', p167']; rfl) ?_
                      refine kc ?_
                      refine ko [4, 7, 8, 11, 13, 14, 16, 18, 19, 21, 75, 76, 81, 82, 95, 96, 100, 101, 102] 3 (by simp; rfl) ?_
                      replace h5 := bnd h5; obtain ⟨y42, hy42, h5⟩ := h5
                      refine kcall [4, 7, 8, 11, 13, 14, 16, 18, 19, 21, 75, 76, 81, 82, 95, 96, 103] [] (steps_Apply_ok hy42) rfl rfl rfl Try.call45 (by simp) (by simp; rfl) ?_
                      refine ko [4, 7, 8, 11, 13, 14, 16, 18, 19, 21, 22, 23, 75, 76, 81, 82, 95, 96] 6 (by simp; rfl) ?_
                      refine tops_nil ?_
                      refine kc ?_
                      refine ko [4, 7, 8, 11, 13, 14, 16, 18, 19, 21, 22, 23, 75, 76, 81, 82, 95, 96, 107, 108, 109] 3 (by simp; rfl) ?_
                      replace h5 := bnd h5; obtain ⟨y43, hy43, h5⟩ := h5
                      refine kcall [4, 7, 8, 11, 13, 14, 16, 18, 19, 21, 22, 23, 75, 76, 81, 82, 95, 96, 110] [] (ref33_Apply_ok hy43) rfl rfl rfl Try.call54 (by simp) (by simp; rfl) ?_
                      refine ko [4, 7, 8, 11, 13, 14, 16, 18, 19, 21, 22, 23, 24, 25, 75, 76, 81, 82, 95, 96] 6 (by simp; rfl) ?_
                      refine tops_nil ?_
                      replace h5 := bnd h5; obtain ⟨v44, hvv44, h5⟩ := h5
                      refine sjv (fun v44_ : Bool => ({ nt := 239, env := [(4, .d (.slice (rowsF api_Step_row a4))), (7, .ptr 7 0), (8, .ptr 8 0), (11, .ptr 63 0), (13, .ptr 13 0), (14, .d (.slice (rowsF api_Step_row y5.1))), (16, .ptr 16 0), (18, .ptr 18 0), (19, .d (.int .i64 s36.1)), (75, .agg (arC api_Fleet_row l6)), (76, .d (.int .i64 s9.1)), (81, .agg (arC api_Rotation_row l11)), (82, .d (.int .i64 s13.1)), (95, .agg (arC api_Step_row l38)), (96, .d (.int .i64 s40)), (143, .d (.bool v44_))], box := [(7, [.d (.int .i64 a2.Known), .d (.int .i64 a2.Valid), .d (.slice (rowsF api_Unit_row a2.Units))]), (8, [.d (.int .i64 a3.Kind), .d (.int .i64 a3.Unit)]), (13, [.d (.int .i64 y4.1.Known), .d (.int .i64 y4.1.Valid), .d (.slice (rowsF api_Unit_row y4.1.Units))]), (16, [.d (.int .i64 x10.Slots), .d (.slice (rowsF api_Consumer_row x10.Consumers))]), (18, [.d (.int .i64 x14.Known), .d (.int .i64 x14.Valid), .d (.slice (rowsF api_Unit_row x14.Units))]), (63, [.d (.slice (rowsF (iRow .i64) y37.2.L)), .d (.int .i64 y37.2.at_)])], vec := [] } : St)) (fun v44_ => v44 = v44_) (fun v44_ e => ?_) ?_
                      · subst e
                        refine tr_cond (b := v44) (by simp) (fun c410 => ?_) (fun c410 => ?_)
                        · rw [if_pos c410] at h5
                          refine kr [10] (by simp; rfl) ?_
                          have k4 := he5 _ (Option.some.inj h5)
                          subst k4
                          dsimp only at h4
                          have k3 := he4 _ (Option.some.inj h4)
                          subst k3
                          dsimp only at h2
                          have k2 := he2 _ (Option.some.inj h2)
                          subst k2
                          dsimp only at h1
                          have k1 := he1 _ (Option.some.inj h1)
                          subst k1
                          dsimp only at h0
                          cases h0
                          exact tr_ret ⟨[], by simp, rfl, by simp⟩
                        · rw [if_neg (by rw [c410]; decide)] at h5
                          refine tr_skip ?_
                          refine lr (by simp; rfl) ?_
                          exact ⟨_, hg5 _ (Option.some.inj h5), wk (by simp [weak_iff])⟩
                      · refine kd1 [[], [], [0, 1], [2], [3], [3], [3, 4, 5], [3, 6], [3, 7], [8], [9], [9], [9], [9, 10, 11, 12], [9], [9], [9], [9, 14, 15, 16], [9, 13, 17], [9, 18], [19], [20], [20], [20], [20, 21, 22, 23], [20], [20], [20], [20, 25, 26, 27], [20, 24, 28], [20, 29]] [] [] none [] 31 fol (by decide +kernel) (by simp) ?_
                        refine dr_go 0 2 rfl (by simp (maxSteps := 1000000); rfl) ?_
                        refine dr_go 2 2 rfl (by simp (maxSteps := 1000000); rfl) ?_
                        refine dr_split 3 116 (y42.2 != y43.2) (by simp) (fun c414 => ?_) (fun c414 => ?_)
                        · rw [if_pos c414] at hvv44
                          refine dr_skip 4 239 [some 117, some 118, some 119, some 120] rfl rfl (by decide) (by kernel_rfl) (by simp only [skEf, List.map_cons, List.map_nil, List.cons_append, List.nil_append]; rfl) ?_
                          refine dr_go 8 2 rfl (by simp (maxSteps := 1000000); rfl) ?_
                          refine dr_skip 10 239 [some 123, some 124, some 125, some 126, some 127, some 128, some 129, some 130, some 131] rfl rfl (by decide) (by kernel_rfl) (by simp only [skEf, List.map_cons, List.map_nil, List.cons_append, List.nil_append]; rfl) ?_
                          refine dr_go 19 2 rfl (by simp (maxSteps := 1000000); rfl) ?_
                          refine dr_skip 21 239 [some 134, some 135, some 136, some 137, some 138, some 139, some 140, some 141, some 142] rfl rfl (by decide) (by kernel_rfl) (by simp only [skEf, List.map_cons, List.map_nil, List.cons_append, List.nil_append]; rfl) ?_
                          refine dr_go 30 1 rfl (by simp (maxSteps := 1000000); rfl) ?_
                          refine dr_end rfl (tops_nil ?_)
                          cases hvv44
                          exact ⟨_, rfl, wk (by simp [weak_iff])⟩
                        · rw [if_neg (by rw [c414]; decide)] at hvv44
                          refine dr_go 4 2 rfl (by simp (maxSteps := 1000000); rfl) ?_
                          replace hvv44 := bnd hvv44; obtain ⟨y45, hy45, hvv44⟩ := hvv44
                          refine dr_call 6 [] (ref32_Same_ok hy45) rfl rfl rfl rfl rfl Try.call30 (by simp) ?_
                          refine dr_go 7 2 rfl (by simp (maxSteps := 1000000); rfl) ?_
                          refine dr_go 9 1 rfl (by simp (maxSteps := 1000000); rfl) ?_
                          refine dr_split 9 122 (!y45) (by simp) (fun c415 => ?_) (fun c415 => ?_)
                          · rw [if_pos c415] at hvv44
                            refine dr_skip 10 239 [some 123, some 124, some 125, some 126, some 127, some 128, some 129, some 130, some 131] rfl rfl (by decide) (by kernel_rfl) (by simp only [skEf, List.map_cons, List.map_nil, List.cons_append, List.nil_append]; rfl) ?_
                            refine dr_go 19 2 rfl (by simp (maxSteps := 1000000); rfl) ?_
                            refine dr_skip 21 239 [some 134, some 135, some 136, some 137, some 138, some 139, some 140, some 141, some 142] rfl rfl (by decide) (by kernel_rfl) (by simp only [skEf, List.map_cons, List.map_nil, List.cons_append, List.nil_append]; rfl) ?_
                            refine dr_go 30 1 rfl (by simp (maxSteps := 1000000); rfl) ?_
                            refine dr_end rfl (tops_nil ?_)
                            cases hvv44
                            exact ⟨_, rfl, wk (by simp [weak_iff])⟩
                          · rw [if_neg (by rw [c415]; decide)] at hvv44
                            refine dr_go 10 2 rfl (by simp (maxSteps := 1000000); rfl) ?_
                            refine dr_go 12 1 rfl (by simp (maxSteps := 1000000); rfl) ?_
                            replace hvv44 := bnd hvv44; obtain ⟨y46, hy46, hvv44⟩ := hvv44
                            refine dr_call 13 [] (steps_Possible_ok hy46) rfl rfl rfl rfl rfl Try.call46 (by simp) ?_
                            refine dr_go 14 2 rfl (by simp (maxSteps := 1000000); rfl) ?_
                            refine dr_go 16 1 rfl (by simp (maxSteps := 1000000); rfl) ?_
                            replace hvv44 := bnd hvv44; obtain ⟨y47, hy47, hvv44⟩ := hvv44
                            refine dr_call 17 [] (ref33_Possible_ok hy47) rfl rfl rfl rfl rfl Try.call55 (by simp) ?_
                            refine dr_go 18 2 rfl (by simp (maxSteps := 1000000); rfl) ?_
                            refine dr_go 20 1 rfl (by simp (maxSteps := 1000000); rfl) ?_
                            refine dr_split 20 133 (y46 != y47) (by simp) (fun c416 => ?_) (fun c416 => ?_)
                            · rw [if_pos c416] at hvv44
                              refine dr_skip 21 239 [some 134, some 135, some 136, some 137, some 138, some 139, some 140, some 141, some 142] rfl rfl (by decide) (by kernel_rfl) (by simp only [skEf, List.map_cons, List.map_nil, List.cons_append, List.nil_append]; rfl) ?_
                              refine dr_go 30 1 rfl (by simp (maxSteps := 1000000); rfl) ?_
                              refine dr_end rfl (tops_nil ?_)
                              cases hvv44
                              exact ⟨_, rfl, wk (by simp [weak_iff])⟩
                            · rw [if_neg (by rw [c416]; decide)] at hvv44
                              refine dr_go 21 2 rfl (by simp (maxSteps := 1000000); rfl) ?_
                              refine dr_go 23 1 rfl (by simp (maxSteps := 1000000); rfl) ?_
                              replace hvv44 := bnd hvv44; obtain ⟨y48, hy48, hvv44⟩ := hvv44
                              refine dr_call 24 [] (steps_Safe_ok hy48) rfl rfl rfl rfl rfl Try.call48 (by simp) ?_
                              refine dr_go 25 2 rfl (by simp (maxSteps := 1000000); rfl) ?_
                              refine dr_go 27 1 rfl (by simp (maxSteps := 1000000); rfl) ?_
                              replace hvv44 := bnd hvv44; obtain ⟨y49, hy49, hvv44⟩ := hvv44
                              refine dr_call 28 [] (ref33_Safe_ok hy49) rfl rfl rfl rfl rfl Try.call56 (by simp) ?_
                              refine dr_go 29 2 rfl (by simp (maxSteps := 1000000); rfl) ?_
                              refine dr_end rfl (tops_nil ?_)
                              cases hvv44
                              exact ⟨_, rfl, wk (by simp [weak_iff])⟩
                    · rw [if_neg (by rw [c397]; decide)] at h5
                      refine tr_exit ?_
                      exact ⟨_, he5 _ (Option.some.inj h5), wk (by simp [weak_iff])⟩
                · rw [if_neg (by rw [c380]; decide)] at h4
                  refine tr_exit ?_
                  exact ⟨_, he4 _ (Option.some.inj h4), wk (by simp [weak_iff])⟩
            · rw [if_neg (by rw [c311]; decide)] at h2
              refine tr_exit ?_
              exact ⟨_, he2 _ (Option.some.inj h2), wk (by simp [weak_iff])⟩
        · rw [if_neg (by rw [c210]; decide)] at h1
          refine tr_exit ?_
          exact ⟨_, he1 _ (Option.some.inj h1), wk (by simp [weak_iff])⟩
  · refine kc1 ?_
    refine ko [0, 4, 6, 7, 8, 43] 4 (by simp; rfl) ?_
    refine tops_split 43 (decide (300 < ((a0).length : Int))) (by simp) (fun c417 => ?_) (fun c417 => ?_)
    · rw [c417] at hvv1
      refine kskip 4 [] (by kernel_rfl) ?_
      refine ko [0, 4, 6, 7, 8, 49] 2 (by simp; rfl) ?_
      refine kskip 4 [] (by kernel_rfl) ?_
      refine ko [0, 4, 6, 7, 8, 55] 2 (by simp; rfl) ?_
      refine kskip 3 [] (by kernel_rfl) ?_
      refine ko [0, 4, 6, 7, 8, 59] 1 (by simp; rfl) ?_
      refine tops_nil ?_
      cases hvv1
      exact ⟨_, rfl, wk (by simp [weak_iff])⟩
    · rw [c417] at hvv1
      refine ko [0, 4, 6, 7, 8, 49] 6 (by simp; rfl) ?_
      refine tops_split 49 (decide (10 < ((a1.Consumers).length : Int))) (by simp) (fun c418 => ?_) (fun c418 => ?_)
      · rw [c418] at hvv1
        refine kskip 4 [] (by kernel_rfl) ?_
        refine ko [0, 4, 6, 7, 8, 55] 2 (by simp; rfl) ?_
        refine kskip 3 [] (by kernel_rfl) ?_
        refine ko [0, 4, 6, 7, 8, 59] 1 (by simp; rfl) ?_
        refine tops_nil ?_
        cases hvv1
        exact ⟨_, rfl, wk (by simp [weak_iff])⟩
      · rw [c418] at hvv1
        refine ko [0, 4, 6, 7, 8, 55] 6 (by simp; rfl) ?_
        refine tops_split 55 (decide (10 < ((a2.Units).length : Int))) (by simp) (fun c419 => ?_) (fun c419 => ?_)
        · rw [c419] at hvv1
          refine kskip 3 [] (by kernel_rfl) ?_
          refine ko [0, 4, 6, 7, 8, 59] 1 (by simp; rfl) ?_
          refine tops_nil ?_
          cases hvv1
          exact ⟨_, rfl, wk (by simp [weak_iff])⟩
        · rw [c419] at hvv1
          refine ko [0, 4, 6, 7, 8, 59] 4 (by simp; rfl) ?_
          refine tops_nil ?_
          cases hvv1
          exact ⟨_, rfl, wk (by simp [weak_iff])⟩
end Go.Vl
