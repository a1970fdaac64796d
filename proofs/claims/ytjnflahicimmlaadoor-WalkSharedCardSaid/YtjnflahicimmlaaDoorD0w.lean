/- Walks: each function of the given program computes what its mirror says. Conditions: none. -/
import Derived.Test.YtjnflahicimmlaaDoorD0m
import Derived.Test.YtjnflahicimmlaaDoorVmLz
import Derived.Test.YtjnflahicimmlaaDoorDq
import Derived.Test.YtjnflahicimmlaaDoorTyD
import Derived.Test.YtjnflahicimmlaaDoorDnw
set_option linter.unusedSimpArgs false
set_option linter.unusedVariables false
namespace Go.Vl
open Go Go.Proofs
set_option maxHeartbeats 1000000 in
theorem history_cycle_1_1_cro_ok {a0 : Int} {a1 : List (Int × api_Object)} {r : Bool} (h0 : history_cycle_1_1_cro a0 a1 = some r) : FnOK Tryd.prog 48 [] [.d (.int .i64 a0), .cptr [.mp (mTag 45 1 false true) 9 (rowsF (mRow (iRow .i64) api_Object_row) a1)] 0] (.d (.bool r)) [] := by
  unfold history_cycle_1_1_cro at h0
  refine fn_ok (nt := 13) (rs := [.tmp 3]) Tryd.func48 rfl Tryd.ntmps48 rfl (by simp) (by decide) rfl fun K => ?_
  refine kr [0, 1] (by simp; rfl) ?_
  refine kr [5] (by simp; rfl) ?_
  refine kr [3] (by simp; rfl) ?_
  cases h0
  exact tr_ret ⟨[], by simp, rfl, by simp⟩
set_option maxHeartbeats 1000000 in
theorem slices_IndexFunc_int_at_history_cycle_1_1_ro_ok {a0 : List Int} {b10 : List (Int × api_Object)} {r : Int} (h0 : slices_IndexFunc_int_at_history_cycle_1_1_ro a0 b10 = some r) : FnOK Tryd.prog 58 [] [.d (.slice (rowsF (iRow .i64) a0)), .fn 48 [.cptr [.mp (mTag 45 1 false true) 9 (rowsF (mRow (iRow .i64) api_Object_row) b10)] 0]] (.d (.int .i64 r)) [] := by
  unfold slices_IndexFunc_int_at_history_cycle_1_1_ro at h0
  refine fn_ok (nt := 19) (rs := [.tmp 4]) Tryd.func58 rfl Tryd.ntmps58 rfl (by simp) (by decide) rfl fun K => ?_
  refine kr [0, 1] (by simp; rfl) ?_
  refine tr_seq ?_
  refine kr [0, 1, 7, 8] (by simp; rfl) ?_
  replace h0 := bnd h0; obtain ⟨e1, hI1, h0⟩ := h0
  refine tjv (fun v1 : Unit => ({ nt := 19, env := [], box := [], vec := [] } : St)) (fun v1 => .inl v1 = e1) (fun v1 hI1e _ W1 => ?_) ?_
  · subst hI1e
    dsimp only at h0
    refine tr_wk W1 ?_
    refine kr [4] (by simp; rfl) ?_
    cases h0
    exact tr_ret ⟨[], by simp, rfl, by simp⟩
  · refine tr_block (tr_iter (fun s2 : Int => ({ nt := 19, env := [(0, .d (.slice (rowsF (iRow .i64) a0))), (1, .fn 48 [.cptr [.mp (mTag 45 1 false true) 9 (rowsF (mRow (iRow .i64) api_Object_row) b10)] 0]), (7, .d (.int .i64 ((a0).length : Int))), (8, .d (.int .i64 s2))], box := [], vec := [] } : St)) hI1 (wk (by simp [weak_iff])) fun G1 s2 o1 h1 hg1 he1 => ?_)
    unfold slices_IndexFunc_int_at_history_cycle_1_1_ro_l0 at h1
    refine kr [0, 1, 7, 8, 9] (by simp; rfl) ?_
    refine tr_seq ?_
    refine tr_cond (b := (decide (s2 < ((a0).length : Int)))) (by simp) (fun c5 => ?_) (fun c5 => ?_)
    · rw [if_pos c5] at h1
      refine tr_skip ?_
      refine tr_seq ?_
      refine tr_block ?_
      refine kr [0, 1, 5, 7, 8] (by simp; rfl) ?_
      refine kc ?_
      replace h1 := bnd h1; obtain ⟨x3, p3, h1⟩ := h1
      replace p3 := idx_some p3
      have p3' := p3; try simp at p3'
      refine ko [0, 1, 5, 7, 8, 11, 15] 5 (by simp [p3, p3']; rfl) ?_
      replace h1 := bnd h1; obtain ⟨y4, hy4, h1⟩ := h1
      refine kcallV [0, 1, 5, 7, 8, 16] [] [] [] (history_cycle_1_1_cro_ok hy4) rfl rfl rfl Tryd.call48 (by simp) (by simp; rfl) ?_
      refine tops_nil ?_
      refine tr_cond (b := y4) (by simp) (fun c6 => ?_) (fun c6 => ?_)
      · rw [if_pos c6] at h1
        refine kr [4] (by simp; rfl) ?_
        have k1 := he1 _ (Option.some.inj h1)
        subst k1
        dsimp only at h0
        cases h0
        exact tr_ret ⟨[], by simp, rfl, by simp⟩
      · rw [if_neg (by rw [c6]; decide)] at h1
        refine tr_skip ?_
        refine lr (by simp; rfl) ?_
        exact ⟨_, hg1 _ (Option.some.inj h1), wk (by simp [weak_iff])⟩
    · rw [if_neg (by rw [c5]; decide)] at h1
      refine tr_exit ?_
      exact ⟨_, he1 _ (Option.some.inj h1), wk (by simp [weak_iff])⟩
set_option maxHeartbeats 1000000 in
theorem slices_ContainsFunc_int_at_history_cycle_1_1_ro_ok {a0 : List Int} {b10 : List (Int × api_Object)} {r : Bool} (h0 : slices_ContainsFunc_int_at_history_cycle_1_1_ro a0 b10 = some r) : FnOK Tryd.prog 46 [] [.d (.slice (rowsF (iRow .i64) a0)), .fn 48 [.cptr [.mp (mTag 45 1 false true) 9 (rowsF (mRow (iRow .i64) api_Object_row) b10)] 0]] (.d (.bool r)) [] := by
  unfold slices_ContainsFunc_int_at_history_cycle_1_1_ro at h0
  refine fn_ok (nt := 9) (rs := [.tmp 4]) Tryd.func46 rfl Tryd.ntmps46 rfl (by simp) (by decide) rfl fun K => ?_
  refine kr [0, 1] (by simp; rfl) ?_
  refine kc ?_
  refine ko [5, 6] 2 (by simp; rfl) ?_
  replace h0 := bnd h0; obtain ⟨y1, hy1, h0⟩ := h0
  refine kcall [7] [] (slices_IndexFunc_int_at_history_cycle_1_1_ro_ok hy1) rfl rfl rfl Tryd.call58 (by simp) (by simp; rfl) ?_
  refine ko [4] 2 (by simp; rfl) ?_
  refine tops_nil ?_
  cases h0
  exact tr_ret ⟨[], by simp, rfl, by simp⟩
set_option maxHeartbeats 1000000 in
theorem history_cycle_1_cro_ok {a0 : Int} {a1 : api_Object} {a2 : List (Int × api_Object)} {r : Bool} (h0 : history_cycle_1_cro a0 a1 a2 = some r) : FnOK Tryd.prog 45 [] [.d (.int .i64 a0), .agg (api_Object_av a1), .cptr [.mp (mTag 45 1 false true) 9 (rowsF (mRow (iRow .i64) api_Object_row) a2)] 0] (.d (.bool r)) [] := by
  unfold history_cycle_1_cro at h0
  refine fn_ok (nt := 11) (rs := [.tmp 5]) Tryd.func45 rfl Tryd.ntmps45 rfl (by simp) (by decide) rfl fun K => ?_
  refine kr [2, 4] (by simp; rfl) ?_
  refine kc ?_
  refine ko [2, 6] 1 (by simp; rfl) ?_
  replace h0 := bnd h0; obtain ⟨y1, hy1, h0⟩ := h0
  refine kcall [2, 7] [] (history_named_ok hy1) rfl rfl rfl Tryd.call47 (by simp) (by simp; rfl) ?_
  refine ko [7, 8] 1 (by simp; rfl) ?_
  replace h0 := bnd h0; obtain ⟨y2, hy2, h0⟩ := h0
  refine kcall [9] [] (slices_ContainsFunc_int_at_history_cycle_1_1_ro_ok hy2) rfl rfl rfl Tryd.call46 (by simp) (by simp; rfl) ?_
  refine ko [5] 2 (by simp; rfl) ?_
  refine tops_nil ?_
  cases h0
  exact tr_ret ⟨[], by simp, rfl, by simp⟩
end Go.Vl
