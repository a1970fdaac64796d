/- Walks: each function of the given program computes what its mirror says. Conditions: none. -/
import Derived.Test.YtjfpmakolbgnhaaUw1
set_option linter.unusedSimpArgs false
set_option linter.unusedVariables false
namespace Go.Vl
open Go Go.Proofs
set_option maxHeartbeats 1000000 in
theorem search_end_ok {a0 : api_Fleet} {a1 : api_Rotation} {r : (List search_found) × Int × Int} (h0 : search_end a0 a1 = some r) : FnOK Try.prog 37 [] [.agg (api_Fleet_av a0), .agg (api_Rotation_av a1)] (.tup [.d (.slice (rowsF search_found_row r.1)), .d (.int .i64 r.2.1), .d (.int .i64 r.2.2)]) [] := by
  unfold search_end at h0
  refine fn_ok (nt := 22) (rs := [.tmp 4, .tmp 5, .tmp 6]) Try.func37 rfl Try.ntmps37 rfl (by simp) (by decide) rfl fun K => ?_
  refine kr [2, 3] (by simp; rfl) ?_
  refine tr_seq ?_
  refine kc ?_
  refine ko [2, 3, 9, 10] 2 (by simp; rfl) ?_
  replace h0 := bnd h0; obtain ⟨y1, hy1, h0⟩ := h0
  refine kcall [2, 3, 11] [] (search_check_ok hy1) rfl rfl rfl Try.call31 (by simp) (by simp; rfl) ?_
  refine ko [2, 3, 7] 1 (by simp; rfl) ?_
  refine tops_nil ?_
  refine kr [2, 3, 7, 13] (by simp; rfl) ?_
  refine tr_cond (b := (y1 != 0)) (by simp) (fun c1 => ?_) (fun c1 => ?_)
  · rw [if_pos c1] at h0
    refine kr [4, 5, 6] (by simp; rfl) ?_
    cases h0
    exact tr_ret ⟨[], by simp, rfl, by simp⟩
  · rw [if_neg (by rw [c1]; decide)] at h0
    refine tr_skip ?_
    refine kc ?_
    refine ko [2, 15, 16] 2 (by simp; rfl) ?_
    replace h0 := bnd h0; obtain ⟨y2, hy2, h0⟩ := h0
    refine kcall [2, 17] [] (search_all_ok hy2) rfl rfl rfl Try.call32 (by simp) (by simp; rfl) ?_
    refine ko [2, 8] 1 (by simp; rfl) ?_
    refine tops_nil ?_
    refine kc ?_
    refine ko [18, 19, 20] 3 (by simp; rfl) ?_
    replace h0 := bnd h0; obtain ⟨y3, hy3, h0⟩ := h0
    refine kcall [18, 21] [2] (slices_IndexFunc_search_found_at_search_end_1_b_ok hy3) rfl rfl rfl Try.call55 (by simp) (by simp; rfl) ?_
    refine ko [4, 5, 6] 3 (by simp; rfl) ?_
    refine tops_nil ?_
    cases h0
    exact tr_ret ⟨[], by simp, rfl, by simp⟩
set_option maxHeartbeats 1000000 in
theorem search_Distance_ok {a0 : api_Fleet} {a1 : api_Rotation} {r : Int × Bool × Int} (h0 : search_Distance a0 a1 = some r) : FnOK Try.prog 17 [] [.agg (api_Fleet_av a0), .agg (api_Rotation_av a1)] (.tup [.d (.int .i64 r.1), .d (.bool r.2.1), .d (.int .i64 r.2.2)]) [] := by
  unfold search_Distance at h0
  refine fn_ok (nt := 25) (rs := [.tmp 4, .tmp 5, .tmp 6]) Try.func17 rfl Try.ntmps17 rfl (by simp) (by decide) rfl fun K => ?_
  refine kr [2, 3] (by simp; rfl) ?_
  refine kc ?_
  refine ko [11, 12] 2 (by simp; rfl) ?_
  replace h0 := bnd h0; obtain ⟨y1, hy1, h0⟩ := h0
  refine kcall [13] [] (search_end_ok hy1) rfl rfl rfl Try.call37 (by simp) (by simp; rfl) ?_
  refine ko [7, 8, 9] 7 (by simp; rfl) ?_
  refine tops_nil ?_
  refine tr_seq ?_
  refine kr [7, 8, 9, 18] (by simp; rfl) ?_
  refine tr_cond (b := (decide (y1.2.1 < 0))) (by simp) (fun c1 => ?_) (fun c1 => ?_)
  · rw [if_pos c1] at h0
    refine kr [4, 5, 6] (by simp; rfl) ?_
    cases h0
    exact tr_ret ⟨[], by simp, rfl, by simp⟩
  · rw [if_neg (by rw [c1]; decide)] at h0
    refine tr_skip ?_
    replace h0 := bnd h0; obtain ⟨x2, p1, h0⟩ := h0
    replace p1 := idx_some p1
    have p1' := p1; try simp at p1'
    refine kr [4, 5, 6] (by simp [p1, p1']; rfl) ?_
    cases h0
    exact tr_ret ⟨[], by simp, rfl, by simp⟩
set_option maxHeartbeats 1000000 in
theorem law34_awake_ok  {r : Bool} (h0 : law34_awake = some r) : FnOK Try.prog 8 [] [] (.d (.bool r)) [] := by
  unfold law34_awake at h0
  refine fn_ok (nt := 31) (rs := [.tmp 0]) Try.func8 rfl Try.ntmps8 rfl (by simp) (by decide) rfl fun K => ?_
  refine kr [] (by simp; rfl) ?_
  refine kr [1] (by simp; rfl) ?_
  refine kc ?_
  refine ko [1, 11] 1 (by simp; rfl) ?_
  refine tops_wk (wk_frz 8) ?_
  replace h0 := bnd h0; obtain ⟨y1, hy1, h0⟩ := h0
  refine kcall [1, 12] [] (ref32_Start_ok hy1) rfl rfl rfl Try.call22 (by simp) (by simp; rfl) ?_
  refine ko [1, 2] 6 (by simp; rfl) ?_
  refine tops_nil ?_
  refine kc ?_
  refine ko [16, 17] 2 (by simp; rfl) ?_
  replace h0 := bnd h0; obtain ⟨y2, hy2, h0⟩ := h0
  refine kcall [18] [] (search_Distance_ok hy2) rfl rfl rfl Try.call17 (by simp) (by simp; rfl) ?_
  refine ko [4, 5, 6] 7 (by simp; rfl) ?_
  refine tops_nil ?_
  replace h0 := bnd h0; obtain ⟨v3, hvv3, h0⟩ := h0
  refine sjv (fun v3_ : Bool => ({ nt := 31, env := [(0, .d (.bool v3_))], box := [], vec := [] } : St)) (fun v3_ => v3 = v3_) (fun v3_ e => ?_) ?_
  · subst e
    cases h0
    exact tr_ret ⟨[], by simp, rfl, by simp⟩
  · refine kc1 ?_
    refine ko [4, 5, 24] 3 (by simp; rfl) ?_
    refine tops_split 24 (y2.2.2 == 0) (by simp) (fun c5 => ?_) (fun c5 => ?_)
    · rw [c5] at hvv3
      refine ko [4, 27] 3 (by simp; rfl) ?_
      refine tops_split 27 y2.2.1 (by simp) (fun c6 => ?_) (fun c6 => ?_)
      · rw [c6] at hvv3
        refine ko [0] 4 (by simp; rfl) ?_
        refine tops_nil ?_
        cases hvv3
        exact ⟨_, rfl, wk (by simp [weak_iff])⟩
      · rw [c6] at hvv3
        refine ko [0] 4 (by simp; rfl) ?_
        refine tops_nil ?_
        cases hvv3
        exact ⟨_, rfl, wk (by simp [weak_iff])⟩
    · rw [c5] at hvv3
      refine ko [0] 7 (by simp; rfl) ?_
      refine tops_nil ?_
      cases hvv3
      exact ⟨_, rfl, wk (by simp [weak_iff])⟩
end Go.Vl
