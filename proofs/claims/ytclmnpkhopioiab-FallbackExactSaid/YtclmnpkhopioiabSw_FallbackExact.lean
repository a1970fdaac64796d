/- Walks: each function of the given program computes what its mirror says. Conditions: none. -/
import Derived.Test.YtclmnpkhopioiabSw3
set_option linter.unusedSimpArgs false
set_option linter.unusedVariables false
namespace Go.Vl
open Go Go.Proofs
set_option maxHeartbeats 1000000 in
theorem ref39_Hold_ok {a0 : api_Fleet} {a1 : api_Rotation} {r : Bool} (h0 : ref39_Hold a0 a1 = some r) : FnOK Try.prog 40 [] [.agg (api_Fleet_av a0), .agg (api_Rotation_av a1)] (.d (.bool r)) [] := by
  unfold ref39_Hold at h0
  refine fn_ok (nt := 18) (rs := [.tmp 4]) Try.func40 rfl Try.ntmps40 rfl (by simp) (by decide) rfl fun K => ?_
  refine kr [2, 3] (by simp; rfl) ?_
  replace h0 := bnd h0; obtain ⟨v1, hvv1, h0⟩ := h0
  refine sjv (fun v1_ : Bool => ({ nt := 18, env := [(4, .d (.bool v1_))], box := [], vec := [] } : St)) (fun v1_ => v1 = v1_) (fun v1_ e => ?_) ?_
  · subst e
    cases h0
    exact tr_ret ⟨[], by simp, rfl, by simp⟩
  · refine kd1 [[], [], [0, 1], [2], [3], [3], [3, 4, 5], [3, 6], [3], [3, 8], [3, 9], [3, 7, 10], [3, 7, 10, 11], [7, 10, 12]] [] [] none [] 14 fol (by decide +kernel) (by simp) ?_
    refine dr_go 0 2 rfl (by simp (maxSteps := 1000000); rfl) ?_
    replace hvv1 := bnd hvv1; obtain ⟨y2, hy2, hvv1⟩ := hvv1
    refine dr_call 2 [] (ref32_Right_ok hy2) rfl rfl rfl rfl rfl Try.call61 (by simp) ?_
    refine dr_go 3 1 rfl (by simp (maxSteps := 1000000); rfl) ?_
    refine dr_split 3 8 y2 (by simp) (fun c9 => ?_) (fun c9 => ?_)
    · rw [if_pos c9] at hvv1
      refine dr_go 4 2 rfl (by simp (maxSteps := 1000000); rfl) ?_
      replace hvv1 := bnd hvv1; obtain ⟨y3, hy3, hvv1⟩ := hvv1
      refine dr_call 6 [] (ref32_Served_ok hy3) rfl rfl rfl rfl rfl Try.call55 (by simp) ?_
      refine dr_go 7 2 rfl (by simp (maxSteps := 1000000); rfl) ?_
      replace hvv1 := bnd hvv1; obtain ⟨y4, hy4, hvv1⟩ := hvv1
      refine dr_call 9 [] (ref32_Pools_ok hy4) rfl rfl rfl rfl rfl Try.call56 (by simp) ?_
      refine dr_go 10 2 rfl (by simp (maxSteps := 1000000); rfl) ?_
      refine dr_go 12 2 rfl (by simp (maxSteps := 1000000); rfl) ?_
      refine dr_end rfl (tops_nil ?_)
      cases hvv1
      exact ⟨_, rfl, wk (by simp [weak_iff])⟩
    · rw [if_neg (by rw [c9]; decide)] at hvv1
      refine dr_skip 4 18 [some 9, some 10, some 11, some 12, some 13, some 14, some 15, some 16] rfl rfl (by decide) (by kernel_rfl) (by simp only [skEf, List.map_cons, List.map_nil, List.cons_append, List.nil_append]; rfl) ?_
      refine dr_go 12 2 rfl (by simp (maxSteps := 1000000); rfl) ?_
      refine dr_end rfl (tops_nil ?_)
      cases hvv1
      exact ⟨_, rfl, wk (by simp [weak_iff])⟩
set_option maxHeartbeats 1000000 in
theorem ref39_Make_ok {a0 : api_Fleet} {a1 : api_Rotation} {r : Int} (h0 : ref39_Make a0 a1 = some r) : FnOK Try.prog 36 [] [.agg (api_Fleet_av a0), .agg (api_Rotation_av a1)] (.d (.int .i64 r)) [] := by
  unfold ref39_Make at h0
  refine fn_ok (nt := 23) (rs := [.tmp 4]) Try.func36 rfl Try.ntmps36 rfl (by simp) (by decide) rfl fun K => ?_
  refine kr [2, 3] (by simp; rfl) ?_
  refine tr_seq ?_
  refine kc ?_
  refine ko [2, 3, 7, 8] 2 (by simp; rfl) ?_
  replace h0 := bnd h0; obtain ⟨y1, hy1, h0⟩ := h0
  refine kcall [2, 3, 9] [] (ref32_Right_ok hy1) rfl rfl rfl Try.call61 (by simp) (by simp; rfl) ?_
  refine ko [2, 3, 10] 1 (by simp; rfl) ?_
  refine tops_nil ?_
  refine tr_cond (b := (!y1)) (by simp) (fun c1 => ?_) (fun c1 => ?_)
  · rw [if_pos c1] at h0
    refine kr [4] (by simp; rfl) ?_
    cases h0
    exact tr_ret ⟨[], by simp, rfl, by simp⟩
  · rw [if_neg (by rw [c1]; decide)] at h0
    refine tr_skip ?_
    refine tr_seq ?_
    refine kc ?_
    refine ko [2, 3, 12] 1 (by simp; rfl) ?_
    replace h0 := bnd h0; obtain ⟨y2, hy2, h0⟩ := h0
    refine kcall [2, 3, 13] [] (ref35_Why_ok hy2) rfl rfl rfl Try.call49 (by simp) (by simp; rfl) ?_
    refine ko [2, 3, 6] 6 (by simp; rfl) ?_
    refine tops_nil ?_
    replace h0 := bnd h0; obtain ⟨v3, hvv3, h0⟩ := h0
    refine sjv (fun v3_ : Bool => ({ nt := 23, env := [(22, .d (.bool v3_))], box := [], vec := [] } : St)) (fun v3_ => v3 = v3_) (fun v3_ e => ?_) ?_
    · subst e
      refine tr_cond (b := v3) (by simp) (fun c4 => ?_) (fun c4 => ?_)
      · rw [if_pos c4] at h0
        refine kr [4] (by simp; rfl) ?_
        cases h0
        exact tr_ret ⟨[], by simp, rfl, by simp⟩
      · rw [if_neg (by rw [c4]; decide)] at h0
        refine tr_skip ?_
        refine kr [4] (by simp; rfl) ?_
        cases h0
        exact tr_ret ⟨[], by simp, rfl, by simp⟩
    · refine kc1 ?_
      refine ko [2, 3, 17] 2 (by simp; rfl) ?_
      refine tops_split 17 y2.2 (by simp) (fun c5 => ?_) (fun c5 => ?_)
      · rw [if_pos c5] at hvv3
        refine kskip 4 [] (by kernel_rfl) ?_
        refine ko [22] 1 (by simp; rfl) ?_
        refine tops_nil ?_
        cases hvv3
        exact ⟨_, rfl, wk (by simp [weak_iff])⟩
      · rw [if_neg (by rw [c5]; decide)] at hvv3
        refine ko [17, 18, 19] 2 (by simp; rfl) ?_
        replace hvv3 := bnd hvv3; obtain ⟨y4, hy4, hvv3⟩ := hvv3
        refine kcall [17, 20] [] (ref39_Hold_ok hy4) rfl rfl rfl Try.call40 (by simp) (by simp; rfl) ?_
        refine ko [22] 2 (by simp; rfl) ?_
        refine tops_nil ?_
        cases hvv3
        exact ⟨_, rfl, wk (by simp [weak_iff])⟩
set_option maxHeartbeats 1000000 in
theorem ref39_Forward_ok {a0 : api_Fleet} {a1 : api_Rotation} {a2 : api_Rotation} {r : Bool} (h0 : ref39_Forward a0 a1 a2 = some r) : FnOK Try.prog 42 [] [.agg (api_Fleet_av a0), .agg (api_Rotation_av a1), .agg (api_Rotation_av a2)] (.d (.bool r)) [] := by
  unfold ref39_Forward at h0
  refine fn_ok (nt := 45) (rs := [.tmp 6]) Try.func42 rfl Try.ntmps42 rfl (by simp) (by decide) rfl fun K => ?_
  refine kr [3, 4, 5] (by simp; rfl) ?_
  refine tr_seq ?_
  replace h0 := bnd h0; obtain ⟨v1, hvv1, h0⟩ := h0
  refine sjv (fun v1_ : Bool => ({ nt := 45, env := [(4, .ptr 4 0), (5, .ptr 5 0), (24, .d (.bool v1_))], box := [(4, [.d (.int .i64 a1.Known), .d (.int .i64 a1.Valid), .d (.slice (rowsF api_Unit_row a1.Units))]), (5, [.d (.int .i64 a2.Known), .d (.int .i64 a2.Valid), .d (.slice (rowsF api_Unit_row a2.Units))])], vec := [] } : St)) (fun v1_ => v1 = v1_) (fun v1_ e => ?_) ?_
  · subst e
    refine tr_cond (b := v1) (by simp) (fun c5 => ?_) (fun c5 => ?_)
    · rw [if_pos c5] at h0
      refine kr [6] (by simp; rfl) ?_
      cases h0
      exact tr_ret ⟨[], by simp, rfl, by simp⟩
    · rw [if_neg (by rw [c5]; decide)] at h0
      refine tr_skip ?_
      refine tr_seq ?_
      replace h0 := bnd h0; obtain ⟨v2, hvv2, h0⟩ := h0
      refine sjv (fun v2_ : Bool => ({ nt := 45, env := [(4, .ptr 4 0), (5, .ptr 5 0), (34, .d (.bool v2_))], box := [(4, [.d (.int .i64 a1.Known), .d (.int .i64 a1.Valid), .d (.slice (rowsF api_Unit_row a1.Units))]), (5, [.d (.int .i64 a2.Known), .d (.int .i64 a2.Valid), .d (.slice (rowsF api_Unit_row a2.Units))])], vec := [] } : St)) (fun v2_ => v2 = v2_) (fun v2_ e => ?_) ?_
      · subst e
        refine tr_cond (b := v2) (by simp) (fun c8 => ?_) (fun c8 => ?_)
        · rw [if_pos c8] at h0
          refine kr [6] (by simp; rfl) ?_
          cases h0
          exact tr_ret ⟨[], by simp, rfl, by simp⟩
        · rw [if_neg (by rw [c8]; decide)] at h0
          refine tr_skip ?_
          replace h0 := bnd h0; obtain ⟨v3, hvv3, h0⟩ := h0
          refine sjv (fun v3_ : Bool => ({ nt := 45, env := [(6, .d (.bool v3_))], box := [], vec := [] } : St)) (fun v3_ => v3 = v3_) (fun v3_ e => ?_) ?_
          · subst e
            cases h0
            exact tr_ret ⟨[], by simp, rfl, by simp⟩
          · refine kc1 ?_
            refine ko [5, 39] 5 (by simp; rfl) ?_
            refine tops_split 39 ((bAnd .i64 a1.Valid 1) != 0) (by simp) (fun c11 => ?_) (fun c11 => ?_)
            · rw [c11] at hvv3
              refine kskip 4 [] (by kernel_rfl) ?_
              refine ko [6] 2 (by simp; rfl) ?_
              refine tops_nil ?_
              cases hvv3
              exact ⟨_, rfl, wk (by simp [weak_iff])⟩
            · rw [c11] at hvv3
              refine ko [6] 6 (by simp; rfl) ?_
              refine tops_nil ?_
              cases hvv3
              exact ⟨_, rfl, wk (by simp [weak_iff])⟩
      · refine kc1 ?_
        refine ko [4, 5, 29] 5 (by simp; rfl) ?_
        refine tops_split 29 ((bAnd .i64 a1.Valid 2) != 0) (by simp) (fun c12 => ?_) (fun c12 => ?_)
        · rw [c12] at hvv2
          refine ko [4, 5, 34] 5 (by simp; rfl) ?_
          refine tops_nil ?_
          cases hvv2
          exact ⟨_, rfl, wk (by simp [weak_iff])⟩
        · rw [c12] at hvv2
          refine kskip 4 [] (by kernel_rfl) ?_
          refine ko [4, 5, 34] 1 (by simp; rfl) ?_
          refine tops_nil ?_
          cases hvv2
          exact ⟨_, rfl, wk (by simp [weak_iff])⟩
  · refine kc1 ?_
    refine ko [3, 4, 5, 7, 8] 2 (by simp; rfl) ?_
    replace hvv1 := bnd hvv1; obtain ⟨y4, hy4, hvv1⟩ := hvv1
    refine kcall [3, 4, 5, 9] [] (ref32_Right_ok hy4) rfl rfl rfl Try.call61 (by simp) (by simp; rfl) ?_
    refine ko [3, 4, 5, 11] 2 (by simp; rfl) ?_
    refine tops_split 11 (!y4) (by simp) (fun c13 => ?_) (fun c13 => ?_)
    · rw [if_pos c13] at hvv1
      refine kskip 4 [] (by kernel_rfl) ?_
      refine ko [4, 5, 17] 2 (by simp; rfl) ?_
      refine kskip 6 [] (by kernel_rfl) ?_
      refine ko [4, 5, 24] 1 (by simp; rfl) ?_
      refine tops_nil ?_
      cases hvv1
      exact ⟨_, rfl, wk (by simp [weak_iff])⟩
    · rw [if_neg (by rw [c13]; decide)] at hvv1
      refine ko [4, 5, 11, 12, 13] 2 (by simp; rfl) ?_
      replace hvv1 := bnd hvv1; obtain ⟨y5, hy5, hvv1⟩ := hvv1
      refine kcall [4, 5, 11, 14] [] (ref32_Right_ok hy5) rfl rfl rfl Try.call61 (by simp) (by simp; rfl) ?_
      refine ko [4, 5, 17] 3 (by simp; rfl) ?_
      refine tops_split 17 (!y5) (by simp) (fun c14 => ?_) (fun c14 => ?_)
      · rw [if_pos c14] at hvv1
        refine kskip 6 [] (by kernel_rfl) ?_
        refine ko [4, 5, 24] 1 (by simp; rfl) ?_
        refine tops_nil ?_
        cases hvv1
        exact ⟨_, rfl, wk (by simp [weak_iff])⟩
      · rw [if_neg (by rw [c14]; decide)] at hvv1
        refine ko [4, 5, 24] 7 (by simp; rfl) ?_
        refine tops_nil ?_
        cases hvv1
        exact ⟨_, rfl, wk (by simp [weak_iff])⟩
set_option maxHeartbeats 1000000 in
theorem law39_FallbackExact_ok {a0 : List Int} {a1 : api_Fleet} {a2 : api_Rotation} {a3 : api_Rotation} {r : Bool} (h0 : law39_FallbackExact a0 a1 a2 a3 = some r) : FnOK Try.prog 7 [] [.d (.slice (rowsF (iRow .i64) a0)), .agg (api_Fleet_av a1), .agg (api_Rotation_av a2), .agg (api_Rotation_av a3)] (.d (.bool r)) [] := by
  unfold law39_FallbackExact at h0
  refine fn_ok (nt := 149) (rs := [.tmp 8]) Try.func7 rfl Try.ntmps7 rfl (by simp) (by decide) rfl fun K => ?_
  refine kr [0, 5, 6, 7] (by simp; rfl) ?_
  refine tr_seq ?_
  replace h0 := bnd h0; obtain ⟨v1, hvv1, h0⟩ := h0
  refine sjv (fun v1_ : Bool => ({ nt := 149, env := [(0, .d (.slice (rowsF (iRow .i64) a0))), (5, .ptr 5 0), (6, .ptr 6 0), (7, .ptr 7 0), (39, .d (.bool v1_))], box := [(5, [.d (.int .i64 a1.Slots), .d (.slice (rowsF api_Consumer_row a1.Consumers))]), (6, [.d (.int .i64 a2.Known), .d (.int .i64 a2.Valid), .d (.slice (rowsF api_Unit_row a2.Units))]), (7, [.d (.int .i64 a3.Known), .d (.int .i64 a3.Valid), .d (.slice (rowsF api_Unit_row a3.Units))])], vec := [] } : St)) (fun v1_ => v1 = v1_) (fun v1_ e => ?_) ?_
  · subst e
    refine tr_cond (b := v1) (by simp) (fun c7 => ?_) (fun c7 => ?_)
    · rw [if_pos c7] at h0
      refine kc ?_
      replace h0 := bnd h0; obtain ⟨y2, hy2, h0⟩ := h0
      refine kcall [40] [] (law39_awake_ok hy2) rfl rfl rfl Try.call34 (by simp) (by simp; rfl) ?_
      refine ko [8] 1 (by simp; rfl) ?_
      refine tops_nil ?_
      cases h0
      exact tr_ret ⟨[], by simp, rfl, by simp⟩
    · rw [if_neg (by rw [c7]; decide)] at h0
      refine tr_skip ?_
      refine kr [5, 6, 7, 9] (by simp; rfl) ?_
      refine kc ?_
      refine ko [5, 6, 7, 9, 44] 1 (by simp; rfl) ?_
      replace h0 := bnd h0; obtain ⟨y3, hy3, h0⟩ := h0
      refine kcall [5, 6, 7, 9, 45] [43] (make_FitFleet_ok hy3) rfl rfl rfl Try.call23 (by simp) (by simp; rfl) ?_
      refine ko [5, 6, 7, 9, 45, 46] 1 (by simp; rfl) ?_
      replace h0 := bnd h0; obtain ⟨y4, hy4, h0⟩ := h0
      refine kcall [5, 6, 7, 9, 45, 47] [43] (make_Fleet_ok hy4) rfl rfl rfl Try.call17 (by simp) (by simp; rfl) ?_
      refine ko [5, 6, 7, 9, 10, 11] 4 (by simp; rfl) ?_
      refine tops_nil ?_
      refine tr_seq ?_
      refine kr [6, 7, 9, 10, 11, 52, 53] (by simp; rfl) ?_
      replace h0 := bnd h0; obtain ⟨l5, hl5, h0⟩ := h0
      replace hl5 := Option.some.inj hl5
      replace h0 := bnd h0; obtain ⟨e1, hI1, h0⟩ := h0
      refine tjv (fun v6 : Unit => ({ nt := 149, env := [], box := [], vec := [] } : St)) (fun v6 => .inl v6 = e1) (fun v6 hI1e _ W1 => ?_) ?_
      · subst hI1e
        dsimp only at h0
        refine tr_wk W1 ?_
        refine kc ?_
        replace h0 := bnd h0; obtain ⟨y7, hy7, h0⟩ := h0
        refine kcall [148] [] (law39_awake_ok hy7) rfl rfl rfl Try.call34 (by simp) (by simp; rfl) ?_
        refine ko [8] 1 (by simp; rfl) ?_
        refine tops_nil ?_
        cases h0
        exact tr_ret ⟨[], by simp, rfl, by simp⟩
      · refine tr_block (tr_iter (fun s8 : Int × (List Int) × Int => ({ nt := 149, env := [(6, .ptr 6 0), (7, .ptr 7 0), (9, .ptr 43 0), (10, .ptr 10 0), (11, .ptr 11 0), (52, .agg (arC api_Fleet_row l5)), (53, .d (.int .i64 s8.1))], box := [(6, [.d (.int .i64 a2.Known), .d (.int .i64 a2.Valid), .d (.slice (rowsF api_Unit_row a2.Units))]), (7, [.d (.int .i64 a3.Known), .d (.int .i64 a3.Valid), .d (.slice (rowsF api_Unit_row a3.Units))]), (10, [.d (.int .i64 y3.1.Slots), .d (.slice (rowsF api_Consumer_row y3.1.Consumers))]), (11, [.d (.int .i64 y4.1.Slots), .d (.slice (rowsF api_Consumer_row y4.1.Consumers))]), (43, [.d (.slice (rowsF (iRow .i64) s8.2.1)), .d (.int .i64 s8.2.2)])], vec := [] } : St)) hI1 (wk (by subst hl5; simp [weak_iff])) fun G1 s8 o1 h1 hg1 he1 => ?_)
        unfold law39_FallbackExact_l0 at h1
        refine kr [6, 7, 9, 10, 11, 52, 53, 54] (by simp; rfl) ?_
        refine tr_seq ?_
        refine tr_cond (b := (decide (s8.1 < 4))) (by simp) (fun c58 => ?_) (fun c58 => ?_)
        · rw [if_pos c58] at h1
          refine tr_skip ?_
          refine tr_seq ?_
          refine tr_block ?_
          replace h1 := bnd h1; obtain ⟨_, p31, h1⟩ := h1
          replace p31 := ck_some p31
          have p31' := p31; try simp at p31'
          replace h1 := bnd h1; obtain ⟨x9, p32, h1⟩ := h1
          replace p32 := idx_some p32
          have p32' := p32; try simp at p32'
          have ix33 : indexVA Try.prog 60 (.agg (arC api_Fleet_row l5)) s8.1 = some (.agg [.d (.int .i64 x9.Slots), .d (.slice (rowsF api_Consumer_row x9.Consumers))]) := indexVA_arC Try.underlying60 sz29 p32.1 p31 p32.2 (by simp) (by simp)
          refine kr [6, 7, 9, 10, 11, 12, 13, 52, 53] (by simp [p31, p32, ix33, -indexVA, p31', p32']; rfl) ?_
          refine kd [[], [], [0, 1], [], [], [2, 3, 4], [], [], [2, 5, 6, 7], [], [2, 5, 8, 9], [], [10, 11], [], [12, 13]] [2, 5, 8, 13, 14] [(14, [13, 14]), (43, [2, 5, 8])] none [] 15 fol (by decide +kernel) (by simp) ?_
          refine dr_go 0 2 rfl (by simp (maxSteps := 1000000); rfl) ?_
          replace h1 := bnd h1; obtain ⟨y10, hy10, h1⟩ := h1
          refine dr_call 2 [43] (make_Held_ok hy10) rfl rfl rfl rfl rfl Try.call24 (by simp) ?_
          refine dr_go 3 2 rfl (by simp (maxSteps := 1000000); rfl) ?_
          replace h1 := bnd h1; obtain ⟨y11, hy11, h1⟩ := h1
          refine dr_call 5 [43] (make_State_ok hy11) rfl rfl rfl rfl rfl Try.call18 (by simp) ?_
          refine dr_go 6 2 rfl (by simp (maxSteps := 1000000); rfl) ?_
          replace h1 := bnd h1; obtain ⟨y12, hy12, h1⟩ := h1
          refine dr_call 8 [43] (make_State_ok hy12) rfl rfl rfl rfl rfl Try.call18 (by simp) ?_
          replace h1 := bnd h1; obtain ⟨l13, p42, h1⟩ := h1
          replace p42 := Option.some.inj p42
          replace h1 := bnd h1; obtain ⟨_, p43, h1⟩ := h1
          replace p43 := ck_some p43
          have p43' := p43; try simp at p43'
          replace h1 := bnd h1; obtain ⟨x14, p44, h1⟩ := h1
          replace p44 := idx_some p44
          have p44' := p44; try simp at p44'
          have ix45 : indexVA Try.prog 61 (.agg [.d (.int .i64 y10.1.Known), .d (.int .i64 y10.1.Valid), .d (.slice (rowsF api_Unit_row y10.1.Units)), .d (.int .i64 y11.1.Known), .d (.int .i64 y11.1.Valid), .d (.slice (rowsF api_Unit_row y11.1.Units)), .d (.int .i64 y12.1.Known), .d (.int .i64 y12.1.Valid), .d (.slice (rowsF api_Unit_row y12.1.Units)), .d (.int .i64 a2.Known), .d (.int .i64 a2.Valid), .d (.slice (rowsF api_Unit_row a2.Units))]) s8.1 = some (.agg [.d (.int .i64 x14.Known), .d (.int .i64 x14.Valid), .d (.slice (rowsF api_Unit_row x14.Units))]) := by subst p42; exact indexVA_arC (f := api_Rotation_row) (l := [y10.1, y11.1, y12.1, a2]) Try.underlying61 sz33 p44.1 p43 p44.2 (by simp) (by simp)
          refine dr_go 9 2 rfl (by simp (maxSteps := 1000000) [p43, p44, ix45, -indexVA, p43', p44']; rfl) ?_
          refine dr_go 11 2 rfl (by simp (maxSteps := 1000000) [p43, p44, ix45, -indexVA, p43', p44']; rfl) ?_
          refine dr_go 13 2 rfl (by simp (maxSteps := 1000000) [p43, p44, ix45, -indexVA, p43', p44']; rfl) ?_
          refine dr_end rfl (tops_nil ?_)
          refine kc ?_
          refine ko [6, 7, 9, 10, 11, 13, 14, 52, 53, 71, 72] 2 (by simp; rfl) ?_
          replace h1 := bnd h1; obtain ⟨y15, hy15, h1⟩ := h1
          refine kcall [6, 7, 9, 10, 11, 13, 14, 52, 53, 73] [] (fallback_Make_ok hy15) rfl rfl rfl Try.call35 (by simp) (by simp; rfl) ?_
          refine ko [6, 7, 9, 10, 11, 13, 14, 15, 16, 52, 53] 5 (by simp; rfl) ?_
          refine tops_nil ?_
          refine tr_seq ?_
          replace h1 := bnd h1; obtain ⟨v16, hvv16, h1⟩ := h1
          refine sjv (fun v16_ : Bool => ({ nt := 149, env := [(6, .ptr 6 0), (7, .ptr 7 0), (9, .ptr 43 0), (10, .ptr 10 0), (11, .ptr 11 0), (13, .ptr 13 0), (14, .ptr 14 0), (52, .agg (arC api_Fleet_row l5)), (53, .d (.int .i64 s8.1)), (107, .d (.bool v16_))], box := [(6, [.d (.int .i64 a2.Known), .d (.int .i64 a2.Valid), .d (.slice (rowsF api_Unit_row a2.Units))]), (7, [.d (.int .i64 a3.Known), .d (.int .i64 a3.Valid), .d (.slice (rowsF api_Unit_row a3.Units))]), (10, [.d (.int .i64 y3.1.Slots), .d (.slice (rowsF api_Consumer_row y3.1.Consumers))]), (11, [.d (.int .i64 y4.1.Slots), .d (.slice (rowsF api_Consumer_row y4.1.Consumers))]), (13, [.d (.int .i64 x9.Slots), .d (.slice (rowsF api_Consumer_row x9.Consumers))]), (14, [.d (.int .i64 x14.Known), .d (.int .i64 x14.Valid), .d (.slice (rowsF api_Unit_row x14.Units))]), (43, [.d (.slice (rowsF (iRow .i64) y12.2.L)), .d (.int .i64 y12.2.at_)])], vec := [] } : St)) (fun v16_ => v16 = v16_) (fun v16_ e => ?_) ?_
          · subst e
            refine tr_cond (b := v16) (by simp) (fun c73 => ?_) (fun c73 => ?_)
            · rw [if_pos c73] at h1
              refine kr [8] (by simp; rfl) ?_
              have k1 := he1 _ (Option.some.inj h1)
              subst k1
              dsimp only at h0
              cases h0
              exact tr_ret ⟨[], by simp, rfl, by simp⟩
            · rw [if_neg (by rw [c73]; decide)] at h1
              refine tr_skip ?_
              refine kd [[], [], [], [], [2, 3], [0, 1, 4], []] [4] [(43, [4])] none [] 7 fol (by decide +kernel) (by simp) ?_
              refine dr_go 0 2 rfl (by simp (maxSteps := 1000000); rfl) ?_
              refine dr_go 2 2 rfl (by simp (maxSteps := 1000000); rfl) ?_
              replace h1 := bnd h1; obtain ⟨y17, hy17, h1⟩ := h1
              refine dr_call 4 [43] (make_State_ok hy17) rfl rfl rfl rfl rfl Try.call18 (by simp) ?_
              refine dr_go 5 2 rfl (by simp (maxSteps := 1000000); rfl) ?_
              refine dr_end rfl (tops_nil ?_)
              replace h1 := bnd h1; obtain ⟨l18, hl18, h1⟩ := h1
              replace hl18 := Option.some.inj hl18
              replace h1 := bnd h1; obtain ⟨e2, hI2, h1⟩ := h1
              refine tjv (fun v19 : Unit => ({ nt := 149, env := [(6, .ptr 6 0), (7, .ptr 7 0), (9, .ptr 43 0), (10, .ptr 10 0), (11, .ptr 11 0), (52, .agg (arC api_Fleet_row l5)), (53, .d (.int .i64 s8.1))], box := [(6, [.d (.int .i64 a2.Known), .d (.int .i64 a2.Valid), .d (.slice (rowsF api_Unit_row a2.Units))]), (7, [.d (.int .i64 a3.Known), .d (.int .i64 a3.Valid), .d (.slice (rowsF api_Unit_row a3.Units))]), (10, [.d (.int .i64 y3.1.Slots), .d (.slice (rowsF api_Consumer_row y3.1.Consumers))]), (11, [.d (.int .i64 y4.1.Slots), .d (.slice (rowsF api_Consumer_row y4.1.Consumers))]), (43, [.d (.slice (rowsF (iRow .i64) y17.2.L)), .d (.int .i64 y17.2.at_)])], vec := [] } : St)) (fun v19 => .inl v19 = e2) (fun v19 hI2e _ W2 => ?_) ?_
              · subst hI2e
                dsimp only at h1
                refine tr_wk W2 ?_
                refine lr (by simp; rfl) ?_
                exact ⟨_, hg1 _ (Option.some.inj h1), wk (by simp [weak_iff])⟩
              · refine tr_block (tr_iter (fun s20 : Int => ({ nt := 149, env := [(6, .ptr 6 0), (7, .ptr 7 0), (9, .ptr 43 0), (10, .ptr 10 0), (11, .ptr 11 0), (13, .ptr 13 0), (14, .ptr 14 0), (52, .agg (arC api_Fleet_row l5)), (53, .d (.int .i64 s8.1)), (113, .agg (arC api_Rotation_row l18)), (114, .d (.int .i64 s20))], box := [(6, [.d (.int .i64 a2.Known), .d (.int .i64 a2.Valid), .d (.slice (rowsF api_Unit_row a2.Units))]), (7, [.d (.int .i64 a3.Known), .d (.int .i64 a3.Valid), .d (.slice (rowsF api_Unit_row a3.Units))]), (10, [.d (.int .i64 y3.1.Slots), .d (.slice (rowsF api_Consumer_row y3.1.Consumers))]), (11, [.d (.int .i64 y4.1.Slots), .d (.slice (rowsF api_Consumer_row y4.1.Consumers))]), (13, [.d (.int .i64 x9.Slots), .d (.slice (rowsF api_Consumer_row x9.Consumers))]), (14, [.d (.int .i64 x14.Known), .d (.int .i64 x14.Valid), .d (.slice (rowsF api_Unit_row x14.Units))]), (43, [.d (.slice (rowsF (iRow .i64) y17.2.L)), .d (.int .i64 y17.2.at_)])], vec := [] } : St)) hI2 (wk (by subst hl18; simp [weak_iff])) fun G2 s20 o2 h2 hg2 he2 => ?_)
                unfold law39_FallbackExact_l1 at h2
                refine kr [6, 7, 9, 10, 11, 13, 14, 52, 53, 113, 114, 115] (by simp; rfl) ?_
                refine tr_seq ?_
                refine tr_cond (b := (decide (s20 < 3))) (by simp) (fun c90 => ?_) (fun c90 => ?_)
                · rw [if_pos c90] at h2
                  refine tr_skip ?_
                  refine tr_seq ?_
                  refine tr_block ?_
                  replace h2 := bnd h2; obtain ⟨_, p52, h2⟩ := h2
                  replace p52 := ck_some p52
                  have p52' := p52; try simp at p52'
                  replace h2 := bnd h2; obtain ⟨x21, p53, h2⟩ := h2
                  replace p53 := idx_some p53
                  have p53' := p53; try simp at p53'
                  have ix54 : indexVA Try.prog 57 (.agg (arC api_Rotation_row l18)) s20 = some (.agg [.d (.int .i64 x21.Known), .d (.int .i64 x21.Valid), .d (.slice (rowsF api_Unit_row x21.Units))]) := indexVA_arC Try.underlying57 sz33 p53.1 p52 p53.2 (by simp) (by simp)
                  refine kr [6, 7, 9, 10, 11, 13, 14, 18, 52, 53, 113, 114] (by simp [p52, p53, ix54, -indexVA, p52', p53']; rfl) ?_
                  replace h2 := bnd h2; obtain ⟨v22, hvv22, h2⟩ := h2
                  refine sjv (fun v22_ : Bool => ({ nt := 149, env := [(6, .ptr 6 0), (7, .ptr 7 0), (9, .ptr 43 0), (10, .ptr 10 0), (11, .ptr 11 0), (13, .ptr 13 0), (14, .ptr 14 0), (52, .agg (arC api_Fleet_row l5)), (53, .d (.int .i64 s8.1)), (113, .agg (arC api_Rotation_row l18)), (114, .d (.int .i64 s20)), (145, .d (.bool v22_))], box := [(6, [.d (.int .i64 a2.Known), .d (.int .i64 a2.Valid), .d (.slice (rowsF api_Unit_row a2.Units))]), (7, [.d (.int .i64 a3.Known), .d (.int .i64 a3.Valid), .d (.slice (rowsF api_Unit_row a3.Units))]), (10, [.d (.int .i64 y3.1.Slots), .d (.slice (rowsF api_Consumer_row y3.1.Consumers))]), (11, [.d (.int .i64 y4.1.Slots), .d (.slice (rowsF api_Consumer_row y4.1.Consumers))]), (13, [.d (.int .i64 x9.Slots), .d (.slice (rowsF api_Consumer_row x9.Consumers))]), (14, [.d (.int .i64 x14.Known), .d (.int .i64 x14.Valid), .d (.slice (rowsF api_Unit_row x14.Units))]), (43, [.d (.slice (rowsF (iRow .i64) y17.2.L)), .d (.int .i64 y17.2.at_)])], vec := [] } : St)) (fun v22_ => v22 = v22_) (fun v22_ e => ?_) ?_
                  · subst e
                    refine tr_cond (b := v22) (by simp) (fun c103 => ?_) (fun c103 => ?_)
                    · rw [if_pos c103] at h2
                      refine kr [8] (by simp; rfl) ?_
                      have k2 := he2 _ (Option.some.inj h2)
                      subst k2
                      dsimp only at h1
                      have k1 := he1 _ (Option.some.inj h1)
                      subst k1
                      dsimp only at h0
                      cases h0
                      exact tr_ret ⟨[], by simp, rfl, by simp⟩
                    · rw [if_neg (by rw [c103]; decide)] at h2
                      refine tr_skip ?_
                      refine lr (by simp; rfl) ?_
                      exact ⟨_, hg2 _ (Option.some.inj h2), wk (by simp [weak_iff])⟩
                  · refine kd1 [[], [], [0, 1], [], [], [3, 4], [2, 5], [6], [7], [7], [7], [7, 8, 9, 10], [7], [7], [7], [7, 12, 13, 14], [7, 11, 15], [7, 16], [17], [18], [18], [18], [18, 19, 20, 21], [18], [18], [18], [18, 23, 24, 25], [18, 22, 26], [18, 27]] [] [] none [] 29 fol (by decide +kernel) (by simp) ?_
                    refine dr_go 0 2 rfl (by simp (maxSteps := 1000000); rfl) ?_
                    replace hvv22 := bnd hvv22; obtain ⟨y23, hy23, hvv22⟩ := hvv22
                    refine dr_call 2 [] (fallback_Hold_ok hy23) rfl rfl rfl rfl rfl Try.call39 (by simp) ?_
                    refine dr_go 3 2 rfl (by simp (maxSteps := 1000000); rfl) ?_
                    replace hvv22 := bnd hvv22; obtain ⟨y24, hy24, hvv22⟩ := hvv22
                    refine dr_call 5 [] (ref39_Hold_ok hy24) rfl rfl rfl rfl rfl Try.call40 (by simp) ?_
                    refine dr_go 6 2 rfl (by simp (maxSteps := 1000000); rfl) ?_
                    refine dr_split 7 124 (y23 != y24) (by simp) (fun c108 => ?_) (fun c108 => ?_)
                    · rw [if_pos c108] at hvv22
                      refine dr_skip 8 149 [some 125, some 126, some 127, some 128, some 129, some 130, some 131, some 132, some 133] rfl rfl (by decide) (by kernel_rfl) (by simp only [skEf, List.map_cons, List.map_nil, List.cons_append, List.nil_append]; rfl) ?_
                      refine dr_go 17 2 rfl (by simp (maxSteps := 1000000); rfl) ?_
                      refine dr_skip 19 149 [some 136, some 137, some 138, some 139, some 140, some 141, some 142, some 143, some 144] rfl rfl (by decide) (by kernel_rfl) (by simp only [skEf, List.map_cons, List.map_nil, List.cons_append, List.nil_append]; rfl) ?_
                      refine dr_go 28 1 rfl (by simp (maxSteps := 1000000); rfl) ?_
                      refine dr_end rfl (tops_nil ?_)
                      cases hvv22
                      exact ⟨_, rfl, wk (by simp [weak_iff])⟩
                    · rw [if_neg (by rw [c108]; decide)] at hvv22
                      refine dr_go 8 2 rfl (by simp (maxSteps := 1000000); rfl) ?_
                      refine dr_go 10 1 rfl (by simp (maxSteps := 1000000); rfl) ?_
                      replace hvv22 := bnd hvv22; obtain ⟨y25, hy25, hvv22⟩ := hvv22
                      refine dr_call 11 [] (fallback_Forward_ok hy25) rfl rfl rfl rfl rfl Try.call41 (by simp) ?_
                      refine dr_go 12 2 rfl (by simp (maxSteps := 1000000); rfl) ?_
                      refine dr_go 14 1 rfl (by simp (maxSteps := 1000000); rfl) ?_
                      replace hvv22 := bnd hvv22; obtain ⟨y26, hy26, hvv22⟩ := hvv22
                      refine dr_call 15 [] (ref39_Forward_ok hy26) rfl rfl rfl rfl rfl Try.call42 (by simp) ?_
                      refine dr_go 16 2 rfl (by simp (maxSteps := 1000000); rfl) ?_
                      refine dr_go 18 1 rfl (by simp (maxSteps := 1000000); rfl) ?_
                      refine dr_split 18 135 (y25 != y26) (by simp) (fun c109 => ?_) (fun c109 => ?_)
                      · rw [if_pos c109] at hvv22
                        refine dr_skip 19 149 [some 136, some 137, some 138, some 139, some 140, some 141, some 142, some 143, some 144] rfl rfl (by decide) (by kernel_rfl) (by simp only [skEf, List.map_cons, List.map_nil, List.cons_append, List.nil_append]; rfl) ?_
                        refine dr_go 28 1 rfl (by simp (maxSteps := 1000000); rfl) ?_
                        refine dr_end rfl (tops_nil ?_)
                        cases hvv22
                        exact ⟨_, rfl, wk (by simp [weak_iff])⟩
                      · rw [if_neg (by rw [c109]; decide)] at hvv22
                        refine dr_go 19 2 rfl (by simp (maxSteps := 1000000); rfl) ?_
                        refine dr_go 21 1 rfl (by simp (maxSteps := 1000000); rfl) ?_
                        replace hvv22 := bnd hvv22; obtain ⟨y27, hy27, hvv22⟩ := hvv22
                        refine dr_call 22 [] (fallback_Forward_ok hy27) rfl rfl rfl rfl rfl Try.call41 (by simp) ?_
                        refine dr_go 23 2 rfl (by simp (maxSteps := 1000000); rfl) ?_
                        refine dr_go 25 1 rfl (by simp (maxSteps := 1000000); rfl) ?_
                        replace hvv22 := bnd hvv22; obtain ⟨y28, hy28, hvv22⟩ := hvv22
                        refine dr_call 26 [] (ref39_Forward_ok hy28) rfl rfl rfl rfl rfl Try.call42 (by simp) ?_
                        refine dr_go 27 2 rfl (by simp (maxSteps := 1000000); rfl) ?_
                        refine dr_end rfl (tops_nil ?_)
                        cases hvv22
                        exact ⟨_, rfl, wk (by simp [weak_iff])⟩
                · rw [if_neg (by rw [c90]; decide)] at h2
                  refine tr_exit ?_
                  exact ⟨_, he2 _ (Option.some.inj h2), wk (by simp [weak_iff])⟩
          · refine kc1 ?_
            refine ko [6, 7, 9, 10, 11, 13, 14, 15, 16, 52, 53, 76, 77, 78] 3 (by simp; rfl) ?_
            replace hvv16 := bnd hvv16; obtain ⟨y31, hy31, hvv16⟩ := hvv16
            refine kcall [6, 7, 9, 10, 11, 13, 14, 15, 16, 52, 53, 76, 79] [] (ref39_Make_ok hy31) rfl rfl rfl Try.call36 (by simp) (by simp; rfl) ?_
            refine ko [6, 7, 9, 10, 11, 13, 14, 15, 16, 52, 53, 81] 2 (by simp; rfl) ?_
            refine tops_split 81 (y15.2 != y31) (by simp) (fun c110 => ?_) (fun c110 => ?_)
            · rw [if_pos c110] at hvv16
              refine kskip 7 [] (by kernel_rfl) ?_
              refine ko [6, 7, 9, 10, 11, 13, 14, 15, 16, 52, 53, 90] 2 (by simp; rfl) ?_
              refine kskip 16 [] (by kernel_rfl) ?_
              refine ko [6, 7, 9, 10, 11, 13, 14, 52, 53, 107] 1 (by simp; rfl) ?_
              refine tops_nil ?_
              cases hvv16
              exact ⟨_, rfl, wk (by simp [weak_iff])⟩
            · rw [if_neg (by rw [c110]; decide)] at hvv16
              refine ko [6, 7, 9, 10, 11, 13, 14, 15, 16, 52, 53, 81, 82, 83, 84] 3 (by simp; rfl) ?_
              refine tops_split 84 (y15.2 != 0) (by simp) (fun c111 => ?_) (fun c111 => ?_)
              · rw [if_pos c111] at hvv16
                refine ko [6, 7, 9, 10, 11, 13, 14, 15, 16, 52, 53, 82, 83, 84, 85, 86, 87, 88, 90] 6 (by simp; rfl) ?_
                refine tops_split 90 (decide (0 < ((y15.1).length : Int))) (by simp) (fun c112 => ?_) (fun c112 => ?_)
                · rw [if_pos c112] at hvv16
                  refine kskip 16 [] (by kernel_rfl) ?_
                  refine ko [6, 7, 9, 10, 11, 13, 14, 52, 53, 82, 83, 84, 85, 86, 87, 88, 107] 1 (by simp; rfl) ?_
                  refine tops_nil ?_
                  cases hvv16
                  exact ⟨_, rfl, wk (by simp [weak_iff])⟩
                · rw [if_neg (by rw [c112]; decide)] at hvv16
                  refine ko [6, 7, 9, 10, 11, 13, 14, 15, 52, 53, 82, 83, 84, 85, 86, 87, 88, 90, 91, 92, 93] 3 (by simp; rfl) ?_
                  refine tops_split 93 (y15.2 == 0) (by simp) (fun c113 => ?_) (fun c113 => ?_)
                  · rw [if_pos c113] at hvv16
                    refine ko [6, 7, 9, 10, 11, 13, 14, 15, 52, 53, 82, 83, 84, 85, 86, 87, 88, 90, 91, 92, 93, 94, 95, 96] 3 (by simp; rfl) ?_
                    replace hvv16 := bnd hvv16; obtain ⟨y32, hy32, hvv16⟩ := hvv16
                    refine kcall [6, 7, 9, 10, 11, 13, 14, 15, 52, 53, 82, 83, 84, 85, 86, 87, 88, 90, 91, 92, 93, 94, 95, 96, 97] [] (ref35_Check_ok hy32) rfl rfl rfl Try.call37 (by simp) (by simp; rfl) ?_
                    refine ko [6, 7, 9, 10, 11, 13, 14, 15, 52, 53, 82, 83, 84, 85, 86, 87, 88, 90, 91, 92, 93, 94, 95, 96, 97, 98, 99] 2 (by simp; rfl) ?_
                    refine tops_split 99 (!y32) (by simp) (fun c114 => ?_) (fun c114 => ?_)
                    · rw [if_pos c114] at hvv16
                      refine kskip 5 [] (by kernel_rfl) ?_
                      refine ko [6, 7, 9, 10, 11, 13, 14, 52, 53, 82, 83, 84, 85, 86, 87, 88, 91, 92, 93, 94, 95, 96, 97, 98, 99, 105, 106, 107] 3 (by simp; rfl) ?_
                      refine tops_nil ?_
                      cases hvv16
                      exact ⟨_, rfl, wk (by simp [weak_iff])⟩
                    · rw [if_neg (by rw [c114]; decide)] at hvv16
                      refine ko [6, 7, 9, 10, 11, 13, 14, 52, 53, 82, 83, 84, 85, 86, 87, 88, 90, 91, 92, 93, 94, 95, 96, 97, 98, 99, 100, 101, 102] 3 (by simp; rfl) ?_
                      replace hvv16 := bnd hvv16; obtain ⟨y33, hy33, hvv16⟩ := hvv16
                      refine kcall [6, 7, 9, 10, 11, 13, 14, 52, 53, 82, 83, 84, 85, 86, 87, 88, 90, 91, 92, 93, 94, 95, 96, 97, 98, 99, 100, 101, 102, 103] [] (ref35_Bound_ok hy33) rfl rfl rfl Try.call38 (by simp) (by simp; rfl) ?_
                      refine ko [6, 7, 9, 10, 11, 13, 14, 52, 53, 82, 83, 84, 85, 86, 87, 88, 91, 92, 93, 94, 95, 96, 97, 98, 99, 100, 101, 102, 103, 104, 105, 106, 107] 4 (by simp; rfl) ?_
                      refine tops_nil ?_
                      cases hvv16
                      exact ⟨_, rfl, wk (by simp [weak_iff])⟩
                  · rw [if_neg (by rw [c113]; decide)] at hvv16
                    refine kskip 12 [] (by kernel_rfl) ?_
                    refine ko [6, 7, 9, 10, 11, 13, 14, 52, 53, 82, 83, 84, 85, 86, 87, 88, 91, 92, 93, 106, 107] 2 (by simp; rfl) ?_
                    refine tops_nil ?_
                    cases hvv16
                    exact ⟨_, rfl, wk (by simp [weak_iff])⟩
              · rw [if_neg (by rw [c111]; decide)] at hvv16
                refine kskip 3 [] (by kernel_rfl) ?_
                refine ko [6, 7, 9, 10, 11, 13, 14, 15, 52, 53, 82, 83, 84, 88, 90, 91, 92, 93] 6 (by simp; rfl) ?_
                refine tops_split 93 (y15.2 == 0) (by simp) (fun c115 => ?_) (fun c115 => ?_)
                · rw [if_pos c115] at hvv16
                  refine ko [6, 7, 9, 10, 11, 13, 14, 15, 52, 53, 82, 83, 84, 88, 90, 91, 92, 93, 94, 95, 96] 3 (by simp; rfl) ?_
                  replace hvv16 := bnd hvv16; obtain ⟨y34, hy34, hvv16⟩ := hvv16
                  refine kcall [6, 7, 9, 10, 11, 13, 14, 15, 52, 53, 82, 83, 84, 88, 90, 91, 92, 93, 94, 95, 96, 97] [] (ref35_Check_ok hy34) rfl rfl rfl Try.call37 (by simp) (by simp; rfl) ?_
                  refine ko [6, 7, 9, 10, 11, 13, 14, 15, 52, 53, 82, 83, 84, 88, 90, 91, 92, 93, 94, 95, 96, 97, 98, 99] 2 (by simp; rfl) ?_
                  refine tops_split 99 (!y34) (by simp) (fun c116 => ?_) (fun c116 => ?_)
                  · rw [if_pos c116] at hvv16
                    refine kskip 5 [] (by kernel_rfl) ?_
                    refine ko [6, 7, 9, 10, 11, 13, 14, 52, 53, 82, 83, 84, 88, 91, 92, 93, 94, 95, 96, 97, 98, 99, 105, 106, 107] 3 (by simp; rfl) ?_
                    refine tops_nil ?_
                    cases hvv16
                    exact ⟨_, rfl, wk (by simp [weak_iff])⟩
                  · rw [if_neg (by rw [c116]; decide)] at hvv16
                    refine ko [6, 7, 9, 10, 11, 13, 14, 52, 53, 82, 83, 84, 88, 90, 91, 92, 93, 94, 95, 96, 97, 98, 99, 100, 101, 102] 3 (by simp; rfl) ?_
                    replace hvv16 := bnd hvv16; obtain ⟨y35, hy35, hvv16⟩ := hvv16
                    refine kcall [6, 7, 9, 10, 11, 13, 14, 52, 53, 82, 83, 84, 88, 90, 91, 92, 93, 94, 95, 96, 97, 98, 99, 100, 101, 102, 103] [] (ref35_Bound_ok hy35) rfl rfl rfl Try.call38 (by simp) (by simp; rfl) ?_
                    refine ko [6, 7, 9, 10, 11, 13, 14, 52, 53, 82, 83, 84, 88, 91, 92, 93, 94, 95, 96, 97, 98, 99, 100, 101, 102, 103, 104, 105, 106, 107] 4 (by simp; rfl) ?_
                    refine tops_nil ?_
                    cases hvv16
                    exact ⟨_, rfl, wk (by simp [weak_iff])⟩
                · rw [if_neg (by rw [c115]; decide)] at hvv16
                  refine kskip 12 [] (by kernel_rfl) ?_
                  refine ko [6, 7, 9, 10, 11, 13, 14, 52, 53, 82, 83, 84, 88, 91, 92, 93, 106, 107] 2 (by simp; rfl) ?_
                  refine tops_nil ?_
                  cases hvv16
                  exact ⟨_, rfl, wk (by simp [weak_iff])⟩
        · rw [if_neg (by rw [c58]; decide)] at h1
          refine tr_exit ?_
          exact ⟨_, he1 _ (Option.some.inj h1), wk (by simp [weak_iff])⟩
  · refine kc1 ?_
    refine ko [0, 5, 6, 7, 22] 4 (by simp; rfl) ?_
    refine tops_split 22 (decide (300 < ((a0).length : Int))) (by simp) (fun c117 => ?_) (fun c117 => ?_)
    · rw [c117] at hvv1
      refine kskip 4 [] (by kernel_rfl) ?_
      refine ko [0, 5, 6, 7, 28] 2 (by simp; rfl) ?_
      refine kskip 4 [] (by kernel_rfl) ?_
      refine ko [0, 5, 6, 7, 34] 2 (by simp; rfl) ?_
      refine kskip 4 [] (by kernel_rfl) ?_
      refine ko [0, 5, 6, 7, 39] 1 (by simp; rfl) ?_
      refine tops_nil ?_
      cases hvv1
      exact ⟨_, rfl, wk (by simp [weak_iff])⟩
    · rw [c117] at hvv1
      refine ko [0, 5, 6, 7, 28] 6 (by simp; rfl) ?_
      refine tops_split 28 (decide (10 < ((a1.Consumers).length : Int))) (by simp) (fun c118 => ?_) (fun c118 => ?_)
      · rw [c118] at hvv1
        refine kskip 4 [] (by kernel_rfl) ?_
        refine ko [0, 5, 6, 7, 34] 2 (by simp; rfl) ?_
        refine kskip 4 [] (by kernel_rfl) ?_
        refine ko [0, 5, 6, 7, 39] 1 (by simp; rfl) ?_
        refine tops_nil ?_
        cases hvv1
        exact ⟨_, rfl, wk (by simp [weak_iff])⟩
      · rw [c118] at hvv1
        refine ko [0, 5, 6, 7, 34] 6 (by simp; rfl) ?_
        refine tops_split 34 (decide (10 < ((a2.Units).length : Int))) (by simp) (fun c119 => ?_) (fun c119 => ?_)
        · rw [c119] at hvv1
          refine kskip 4 [] (by kernel_rfl) ?_
          refine ko [0, 5, 6, 7, 39] 1 (by simp; rfl) ?_
          refine tops_nil ?_
          cases hvv1
          exact ⟨_, rfl, wk (by simp [weak_iff])⟩
        · rw [c119] at hvv1
          refine ko [0, 5, 6, 7, 39] 5 (by simp; rfl) ?_
          refine tops_nil ?_
          cases hvv1
          exact ⟨_, rfl, wk (by simp [weak_iff])⟩
end Go.Vl
