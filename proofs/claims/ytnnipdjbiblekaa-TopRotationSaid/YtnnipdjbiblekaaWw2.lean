/- Walks: each function of the given program computes what its mirror says. Conditions: none. -/
import Derived.Test.YtnnipdjbiblekaaWw1
set_option linter.unusedSimpArgs false
set_option linter.unusedVariables false
namespace Go.Vl
open Go Go.Proofs
set_option maxHeartbeats 1000000 in
theorem fleet_Ended_ok {a0 : api_Fleet} {a1 : api_Rotation} {r : Bool} (h0 : fleet_Ended a0 a1 = some r) : FnOK Try.prog 17 [] [.agg (api_Fleet_av a0), .agg (api_Rotation_av a1)] (.d (.bool r)) [] := by
  unfold fleet_Ended at h0
  refine fn_ok (nt := 22) (rs := [.tmp 4]) Try.func17 rfl Try.ntmps17 rfl (by simp) (by decide) rfl fun K => ?_
  refine kr [2, 3] (by simp; rfl) ?_
  refine kr [2, 3, 5] (by simp; rfl) ?_
  replace h0 := bnd h0; obtain ⟨v1, hvv1, h0⟩ := h0
  refine sjv (fun v1_ : Bool => ({ nt := 22, env := [(4, .d (.bool v1_))], box := [], vec := [] } : St)) (fun v1_ => v1 = v1_) (fun v1_ e => ?_) ?_
  · subst e
    cases h0
    exact tr_ret ⟨[], by simp, rfl, by simp⟩
  · refine kc1 ?_
    refine ko [3, 5, 7, 8] 2 (by simp; rfl) ?_
    replace hvv1 := bnd hvv1; obtain ⟨y2, hy2, hvv1⟩ := hvv1
    refine kcall [3, 5, 9] [] (fleet_Right_ok hy2) rfl rfl rfl Try.call30 (by simp) (by simp; rfl) ?_
    refine ko [3, 5, 10] 1 (by simp; rfl) ?_
    refine tops_split 10 y2 (by simp) (fun c5 => ?_) (fun c5 => ?_)
    · rw [if_pos c5] at hvv1
      refine ko [3, 5, 15] 5 (by simp; rfl) ?_
      refine tops_split 15 (a1.Valid == 2) (by simp) (fun c6 => ?_) (fun c6 => ?_)
      · rw [if_pos c6] at hvv1
        refine ko [15, 17, 18] 3 (by simp; rfl) ?_
        replace hvv1 := bnd hvv1; obtain ⟨y3, hy3, hvv1⟩ := hvv1
        refine kcall [15, 19] [5] (slices_ContainsFunc_api_Unit_at_fleet_Ended_1_b_ok hy3) rfl rfl rfl Try.call33 (by simp) (by simp; rfl) ?_
        refine ko [4] 3 (by simp; rfl) ?_
        refine tops_nil ?_
        cases hvv1
        exact ⟨_, rfl, wk (by simp [weak_iff])⟩
      · rw [if_neg (by rw [c6]; decide)] at hvv1
        refine kskip 5 [] (by kernel_rfl) ?_
        refine ko [4] 2 (by simp; rfl) ?_
        refine tops_nil ?_
        cases hvv1
        exact ⟨_, rfl, wk (by simp [weak_iff])⟩
    · rw [if_neg (by rw [c5]; decide)] at hvv1
      refine kskip 3 [] (by kernel_rfl) ?_
      refine ko [3, 5, 15] 2 (by simp; rfl) ?_
      refine kskip 5 [] (by kernel_rfl) ?_
      refine ko [4] 2 (by simp; rfl) ?_
      refine tops_nil ?_
      cases hvv1
      exact ⟨_, rfl, wk (by simp [weak_iff])⟩
set_option maxHeartbeats 1000000 in
theorem plan_Check_ok {a0 : api_Fleet} {a1 : api_Rotation} {a2 : List api_Step} {r : Bool} (h0 : plan_Check a0 a1 a2 = some r) : FnOK Try.prog 18 [] [.agg (api_Fleet_av a0), .agg (api_Rotation_av a1), .d (.slice (rowsF api_Step_row a2))] (.d (.bool r)) [] := by
  unfold plan_Check at h0
  refine fn_ok (nt := 46) (rs := [.tmp 6]) Try.func18 rfl Try.ntmps18 rfl (by simp) (by decide) rfl fun K => ?_
  refine kr [2, 3, 4] (by simp; rfl) ?_
  refine kc ?_
  refine ko [2, 3, 4, 11, 12, 13] 3 (by simp; rfl) ?_
  replace h0 := bnd h0; obtain ⟨y1, hy1, h0⟩ := h0
  refine kcall [2, 3, 4, 14] [] (steps_Fault_ok hy1) rfl rfl rfl Try.call35 (by simp) (by simp; rfl) ?_
  refine ko [2, 3, 4, 7, 8] 5 (by simp; rfl) ?_
  refine tops_nil ?_
  refine tr_seq ?_
  replace h0 := bnd h0; obtain ⟨v2, hvv2, h0⟩ := h0
  refine sjv (fun v2_ : Bool => ({ nt := 46, env := [(2, .d (.slice (rowsF api_Step_row a2))), (3, .ptr 3 0), (4, .ptr 4 0), (24, .d (.bool v2_))], box := [(3, [.d (.int .i64 a0.Slots), .d (.slice (rowsF api_Consumer_row a0.Consumers))]), (4, [.d (.int .i64 a1.Known), .d (.int .i64 a1.Valid), .d (.slice (rowsF api_Unit_row a1.Units))])], vec := [] } : St)) (fun v2_ => v2 = v2_) (fun v2_ e => ?_) ?_
  · subst e
    refine tr_cond (b := v2) (by simp) (fun c3 => ?_) (fun c3 => ?_)
    · rw [if_pos c3] at h0
      refine kr [6] (by simp; rfl) ?_
      cases h0
      exact tr_ret ⟨[], by simp, rfl, by simp⟩
    · rw [if_neg (by rw [c3]; decide)] at h0
      refine tr_skip ?_
      refine kc ?_
      refine ko [3, 4, 26, 27, 28] 3 (by simp; rfl) ?_
      replace h0 := bnd h0; obtain ⟨y3, hy3, h0⟩ := h0
      refine kcall [3, 4, 29] [] (steps_Run_ok hy3) rfl rfl rfl Try.call36 (by simp) (by simp; rfl) ?_
      refine ko [3, 4, 8, 9] 5 (by simp; rfl) ?_
      refine tops_nil ?_
      refine tr_seq ?_
      refine kr [3, 4, 9, 33] (by simp; rfl) ?_
      refine tr_cond (b := (y3.2 != 0)) (by simp) (fun c4 => ?_) (fun c4 => ?_)
      · rw [if_pos c4] at h0
        refine kr [6] (by simp; rfl) ?_
        cases h0
        exact tr_ret ⟨[], by simp, rfl, by simp⟩
      · rw [if_neg (by rw [c4]; decide)] at h0
        refine tr_skip ?_
        refine sjv (fun v4 : Int × Int × (List api_Unit) => ({ nt := 46, env := [(3, .ptr 3 0), (4, .ptr 4 0)], box := [(3, [.d (.int .i64 a0.Slots), .d (.slice (rowsF api_Consumer_row a0.Consumers))]), (4, [.d (.int .i64 v4.1), .d (.int .i64 v4.2.1), .d (.slice (rowsF api_Unit_row v4.2.2))])], vec := [] } : St)) (fun v4 => plan_Check_j0 a0 v4 = some r) (fun v4 h0 => ?_) ?_
        · unfold plan_Check_j0 at h0
          refine kc ?_
          refine ko [43, 44] 2 (by simp; rfl) ?_
          replace h0 := bnd h0; obtain ⟨y5, hy5, h0⟩ := h0
          refine kcall [45] [] (fleet_Ended_ok hy5) rfl rfl rfl Try.call17 (by simp) (by simp; rfl) ?_
          refine ko [6] 1 (by simp; rfl) ?_
          refine tops_nil ?_
          cases h0
          exact tr_ret ⟨[], by simp, rfl, by simp⟩
        · refine kr [3, 4, 9, 36] (by simp; rfl) ?_
          refine tr_cond (b := (decide (0 < ((y3.1).length : Int)))) (by simp) (fun c6 => ?_) (fun c6 => ?_)
          · rw [if_pos c6] at h0
            replace h0 := bnd h0; obtain ⟨x6, p2, h0⟩ := h0
            replace p2 := idx_some p2
            have p2' := p2; try simp at p2'
            refine lr (by simp [p2, p2']; rfl) ?_
            exact ⟨_, h0, wk (by simp [weak_iff])⟩
          · rw [if_neg (by rw [c6]; decide)] at h0
            refine tr_skip ?_
            exact ⟨_, h0, wk (by simp [weak_iff])⟩
  · refine kc1 ?_
    refine ko [2, 3, 4, 7, 19] 3 (by simp; rfl) ?_
    refine tops_split 19 (y1.2 != 0) (by simp) (fun c7 => ?_) (fun c7 => ?_)
    · rw [c7] at hvv2
      refine kskip 4 [] (by kernel_rfl) ?_
      refine ko [2, 3, 4, 24] 1 (by simp; rfl) ?_
      refine tops_nil ?_
      cases hvv2
      exact ⟨_, rfl, wk (by simp [weak_iff])⟩
    · rw [c7] at hvv2
      refine ko [2, 3, 4, 24] 5 (by simp; rfl) ?_
      refine tops_nil ?_
      cases hvv2
      exact ⟨_, rfl, wk (by simp [weak_iff])⟩
set_option maxHeartbeats 1000000 in
theorem top_awake39_ok  {r : Bool} (h0 : top_awake39 = some r) : FnOK Try.prog 4 [] [] (.d (.bool r)) [] := by
  unfold top_awake39 at h0
  refine fn_ok (nt := 32) (rs := [.tmp 0]) Try.func4 rfl Try.ntmps4 rfl (by simp) (by decide) rfl fun K => ?_
  refine kr [] (by simp; rfl) ?_
  refine kr [1] (by simp; rfl) ?_
  refine kc ?_
  refine ko [1, 11] 1 (by simp; rfl) ?_
  refine tops_wk (wk_frz 8) ?_
  replace h0 := bnd h0; obtain ⟨y1, hy1, h0⟩ := h0
  refine kcall [1, 12] [] (plan_Make_ok hy1) rfl rfl rfl Try.call7 (by simp) (by simp; rfl) ?_
  refine ko [1, 2, 3] 5 (by simp; rfl) ?_
  refine tops_nil ?_
  refine kc ?_
  refine ko [1, 2, 3, 16] 1 (by simp; rfl) ?_
  replace h0 := bnd h0; obtain ⟨y2, hy2, h0⟩ := h0
  refine kcall [1, 2, 3, 17] [] (fleet_Start_ok hy2) rfl rfl rfl Try.call6 (by simp) (by simp; rfl) ?_
  refine ko [1, 2, 3, 4, 5] 6 (by simp; rfl) ?_
  refine tops_nil ?_
  replace h0 := bnd h0; obtain ⟨v3, hvv3, h0⟩ := h0
  refine sjv (fun v3_ : Bool => ({ nt := 32, env := [(0, .d (.bool v3_))], box := [], vec := [] } : St)) (fun v3_ => v3 = v3_) (fun v3_ e => ?_) ?_
  · subst e
    cases h0
    exact tr_ret ⟨[], by simp, rfl, by simp⟩
  · refine kc1 ?_
    refine ko [1, 2, 4, 5, 22] 3 (by simp; rfl) ?_
    refine tops_split 22 (y1.2 == 0) (by simp) (fun c5 => ?_) (fun c5 => ?_)
    · rw [if_pos c5] at hvv3
      refine ko [1, 2, 4, 26] 4 (by simp; rfl) ?_
      refine tops_split 26 (y2.2 == 0) (by simp) (fun c6 => ?_) (fun c6 => ?_)
      · rw [if_pos c6] at hvv3
        refine ko [26, 27, 28, 29] 3 (by simp; rfl) ?_
        replace hvv3 := bnd hvv3; obtain ⟨y4, hy4, hvv3⟩ := hvv3
        refine kcall [26, 30] [] (plan_Check_ok hy4) rfl rfl rfl Try.call18 (by simp) (by simp; rfl) ?_
        refine ko [0] 2 (by simp; rfl) ?_
        refine tops_nil ?_
        cases hvv3
        exact ⟨_, rfl, wk (by simp [weak_iff])⟩
      · rw [if_neg (by rw [c6]; decide)] at hvv3
        refine kskip 4 [] (by kernel_rfl) ?_
        refine ko [0] 2 (by simp; rfl) ?_
        refine tops_nil ?_
        cases hvv3
        exact ⟨_, rfl, wk (by simp [weak_iff])⟩
    · rw [if_neg (by rw [c5]; decide)] at hvv3
      refine ko [1, 2, 4, 26] 4 (by simp; rfl) ?_
      refine kskip 4 [] (by kernel_rfl) ?_
      refine ko [0] 2 (by simp; rfl) ?_
      refine tops_nil ?_
      cases hvv3
      exact ⟨_, rfl, wk (by simp [weak_iff])⟩
end Go.Vl
