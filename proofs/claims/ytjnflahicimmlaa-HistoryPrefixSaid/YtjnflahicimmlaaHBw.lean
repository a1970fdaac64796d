/- Walks: each function of the given program computes what its mirror says. Conditions: none. -/
import Derived.Test.YtjnflahicimmlaaHBm
import Derived.Test.YtjnflahicimmlaaVmQq
import Derived.Test.YtjnflahicimmlaaVmLz
import Derived.Test.YtjnflahicimmlaaHq
import Derived.Test.YtjnflahicimmlaaTyH
import Derived.Test.YtjnflahicimmlaaHAw
import Derived.Test.YtjnflahicimmlaaHzz
set_option linter.unusedSimpArgs false
set_option linter.unusedVariables false
namespace Go.Vl
open Go Go.Proofs
set_option maxHeartbeats 1000000 in
theorem slices_Clone_int_ok {a0 : List Int} {r : List Int} (h0 : slices_Clone_int a0 = some r) : FnOK Try.prog 72 [] [.d (.slice (rowsF (iRow .i64) a0))] (.d (.slice (rowsF (iRow .i64) r))) [] := by
  unfold slices_Clone_int at h0
  replace h0 := bnd h0; obtain ⟨_, p1, h0⟩ := h0; replace p1 := ck_some p1; cases h0
  refine fn_ok (nt := 8) (rs := [.tmp 2]) Try.func72 rfl Try.ntmps72 rfl (by simp) (by decide) rfl fun K => ?_
  refine kr [0, 2] (by simp; rfl) ?_
  cases a0 with
  | nil =>
    refine tr_seq ?_
    refine kc ?_
    refine ko [0, 3] 1 (by simp; rfl) ?_
    refine tops_isnil (by simp) rfl rfl (by simp) Try.underlying22 (by simp) (by simp) fun b => ?_
    refine tops_nil ?_
    refine tr_cond (b := b) (by simp) (fun cb => ?_) (fun cb => ?_)
    · refine kr [2] (by simp; rfl) ?_
      exact tr_ret ⟨[], by simp, rfl, by simp⟩
    · refine tr_skip ?_
      refine kr [2] (by simp; rfl) ?_
      exact tr_ret ⟨[7], by simp, rfl, by simp⟩
  | cons x l =>
    refine tr_seq ?_
    refine kr [0, 4] (by simp; rfl) ?_
    refine tr_cond (b := false) (by simp) (fun h => by cases h) (fun _ => ?_)
    refine tr_skip ?_
    have p2 := p1; simp at p2
    refine kr [2] (by simp [p1, p2]; rfl) ?_
    exact tr_ret ⟨[7], by simp, rfl, by simp⟩
set_option maxHeartbeats 1000000 in
theorem cmp_Less_int_ok {a0 : Int} {a1 : Int} {r : Bool} (h0 : cmp_Less_int a0 a1 = some r) : FnOK Try.prog 80 [] [.d (.int .i64 a0), .d (.int .i64 a1)] (.d (.bool r)) [] := by
  unfold cmp_Less_int at h0
  refine fn_ok (nt := 17) (rs := [.tmp 4]) Try.func80 rfl Try.ntmps80 rfl (by simp) (by decide) rfl fun K => ?_
  refine kr [0, 1] (by simp; rfl) ?_
  replace h0 := bnd h0; obtain ⟨v1, hvv1, h0⟩ := h0
  refine sjv (fun v1_ : Bool => ({ nt := 17, env := [(4, .d (.bool v1_))], box := [], vec := [] } : St)) (fun v1_ => v1 = v1_) (fun v1_ e => ?_) ?_
  · subst e
    cases h0
    exact tr_ret ⟨[], by simp, rfl, by simp⟩
  · refine kc1 ?_
    refine ko [0, 1, 5] 1 (by simp; rfl) ?_
    replace hvv1 := bnd hvv1; obtain ⟨y2, hy2, hvv1⟩ := hvv1
    refine kcall [0, 1, 6] [] (cmp_isNaN_int_ok hy2) rfl rfl rfl Try.call60 (by simp) (by simp; rfl) ?_
    refine ko [0, 1, 7] 1 (by simp; rfl) ?_
    refine tops_split 7 y2 (by simp) (fun c5 => ?_) (fun c5 => ?_)
    · rw [if_pos c5] at hvv1
      refine ko [0, 1, 7, 8] 1 (by simp; rfl) ?_
      replace hvv1 := bnd hvv1; obtain ⟨y3, hy3, hvv1⟩ := hvv1
      refine kcall [0, 1, 7, 9] [] (cmp_isNaN_int_ok hy3) rfl rfl rfl Try.call60 (by simp) (by simp; rfl) ?_
      refine ko [0, 1, 12] 3 (by simp; rfl) ?_
      refine tops_split 12 (!y3) (by simp) (fun c6 => ?_) (fun c6 => ?_)
      · rw [if_pos c6] at hvv1
        refine kskip 3 [] (by kernel_rfl) ?_
        refine ko [4] 2 (by simp; rfl) ?_
        refine tops_nil ?_
        cases hvv1
        exact ⟨_, rfl, wk (by simp [weak_iff])⟩
      · rw [if_neg (by rw [c6]; decide)] at hvv1
        refine ko [4] 5 (by simp; rfl) ?_
        refine tops_nil ?_
        cases hvv1
        exact ⟨_, rfl, wk (by simp [weak_iff])⟩
    · rw [if_neg (by rw [c5]; decide)] at hvv1
      refine kskip 3 [] (by kernel_rfl) ?_
      refine ko [4] 7 (by simp; rfl) ?_
      refine tops_nil ?_
      cases hvv1
      exact ⟨_, rfl, wk (by simp [weak_iff])⟩
set_option maxHeartbeats 1000000 in
theorem slices_xorshift_Next_ok {a0 : Int} {r : Int × Int} (h0 : slices_xorshift_Next a0 = some r) : FnOK Try.prog 96 [[.d (.int .u64 a0)]] [.ptr (InO 0) 0] (.d (.int .u64 r.1)) [[.d (.int .u64 r.2)]] := by
  unfold slices_xorshift_Next at h0
  refine fn_ok (nt := 33) (rs := [.tmp 2]) Try.func96 rfl Try.ntmps96 rfl (by simp) (by decide) rfl fun K => ?_
  refine kr [0] (by simp; rfl) ?_
  refine kd [[], [0], [1], [], [3], [4], [5], [2, 6], [0], [2, 5, 7, 8]] [9] [(1000000, [9])] none [] 10 fol (by decide +kernel) (by simp) ?_
  refine dr_go 0 2 rfl (by simp (maxSteps := 1000000); rfl) ?_
  refine dr_go 2 2 rfl (by simp (maxSteps := 1000000); rfl) ?_
  refine dr_go 4 2 rfl (by simp (maxSteps := 1000000); rfl) ?_
  refine dr_go 6 2 rfl (by simp (maxSteps := 1000000); rfl) ?_
  refine dr_go 8 2 rfl (by simp (maxSteps := 1000000); rfl) ?_
  refine dr_end rfl (tops_nil ?_)
  refine kd [[], [0], [1], [], [3], [4], [5], [2, 6], [0], [2, 5, 7, 8]] [9] [(1000000, [9])] none [] 10 fol (by decide +kernel) (by simp) ?_
  refine dr_go 0 2 rfl (by simp (maxSteps := 1000000); rfl) ?_
  refine dr_go 2 2 rfl (by simp (maxSteps := 1000000); rfl) ?_
  refine dr_go 4 2 rfl (by simp (maxSteps := 1000000); rfl) ?_
  refine dr_go 6 2 rfl (by simp (maxSteps := 1000000); rfl) ?_
  refine dr_go 8 2 rfl (by simp (maxSteps := 1000000); rfl) ?_
  refine dr_end rfl (tops_nil ?_)
  refine kd [[], [0], [1], [], [3], [4], [5], [2, 6], [0], [2, 5, 7, 8]] [9] [(1000000, [9])] none [] 10 fol (by decide +kernel) (by simp) ?_
  refine dr_go 0 2 rfl (by simp (maxSteps := 1000000); rfl) ?_
  refine dr_go 2 2 rfl (by simp (maxSteps := 1000000); rfl) ?_
  refine dr_go 4 2 rfl (by simp (maxSteps := 1000000); rfl) ?_
  refine dr_go 6 2 rfl (by simp (maxSteps := 1000000); rfl) ?_
  refine dr_go 8 2 rfl (by simp (maxSteps := 1000000); rfl) ?_
  refine dr_end rfl (tops_nil ?_)
  refine kr [2] (by simp; rfl) ?_
  cases h0
  exact tr_ret ⟨[], by simp, rfl, by simp⟩
set_option maxHeartbeats 1000000 in
theorem slices_order2Ordered_int_ok {a0 : List Int} {a1 : Int} {a2 : Int} {a3 : Int} {r : Int × Int × Int} (h0 : slices_order2Ordered_int a0 a1 a2 a3 = some r) : FnOK Try.prog 103 [[.d (.int .i64 a3)]] [.d (.slice (rowsF (iRow .i64) a0)), .d (.int .i64 a1), .d (.int .i64 a2), .ptr (InO 0) 0] (.tup [.d (.int .i64 r.1), .d (.int .i64 r.2.1)]) [[.d (.int .i64 r.2.2)]] := by
  unfold slices_order2Ordered_int at h0
  refine fn_ok (nt := 28) (rs := [.tmp 8, .tmp 9]) Try.func103 rfl Try.ntmps103 rfl (by simp) (by decide) rfl fun K => ?_
  refine kr [0, 1, 2, 3] (by simp; rfl) ?_
  refine tr_seq ?_
  refine kd [[], [], [0, 1], [2], [], [], [4, 5], [6], [3, 7]] [] [] none [] 9 fol (by decide +kernel) (by simp) ?_
  replace h0 := bnd h0; obtain ⟨x1, p5, h0⟩ := h0
  replace p5 := idx_some p5
  have p5' := p5; try simp at p5'
  replace h0 := bnd h0; obtain ⟨x2, p6, h0⟩ := h0
  replace p6 := idx_some p6
  have p6' := p6; try simp at p6'
  refine dr_go 0 2 rfl (by simp (maxSteps := 1000000) [p5, p6, p5', p6']; rfl) ?_
  refine dr_go 2 2 rfl (by simp (maxSteps := 1000000) [p5, p6, p5', p6']; rfl) ?_
  refine dr_go 4 2 rfl (by simp (maxSteps := 1000000) [p5, p6, p5', p6']; rfl) ?_
  refine dr_go 6 2 rfl (by simp (maxSteps := 1000000) [p5, p6, p5', p6']; rfl) ?_
  replace h0 := bnd h0; obtain ⟨y3, hy3, h0⟩ := h0
  refine dr_call 8 [] (cmp_Less_int_ok hy3) rfl rfl rfl rfl rfl Try.call80 (by simp) ?_
  refine dr_end rfl (tops_nil ?_)
  refine tr_cond (b := y3) (by simp) (fun c1 => ?_) (fun c1 => ?_)
  · rw [if_pos c1] at h0
    refine kr [1, 2] (by simp; rfl) ?_
    refine kr [8, 9] (by simp; rfl) ?_
    cases h0
    exact tr_ret ⟨[], by simp, rfl, by simp⟩
  · rw [if_neg (by rw [c1]; decide)] at h0
    refine tr_skip ?_
    refine kr [8, 9] (by simp; rfl) ?_
    cases h0
    exact tr_ret ⟨[], by simp, rfl, by simp⟩
set_option maxHeartbeats 1000000 in
theorem slices_medianOrdered_int_ok {a0 : List Int} {a1 : Int} {a2 : Int} {a3 : Int} {a4 : Int} {r : Int × Int} (h0 : slices_medianOrdered_int a0 a1 a2 a3 a4 = some r) : FnOK Try.prog 98 [[.d (.int .i64 a4)]] [.d (.slice (rowsF (iRow .i64) a0)), .d (.int .i64 a1), .d (.int .i64 a2), .d (.int .i64 a3), .ptr (InO 0) 0] (.d (.int .i64 r.1)) [[.d (.int .i64 r.2)]] := by
  unfold slices_medianOrdered_int at h0
  refine fn_ok (nt := 36) (rs := [.tmp 10]) Try.func98 rfl Try.ntmps98 rfl (by simp) (by decide) rfl fun K => ?_
  refine kr [0, 1, 2, 3, 4] (by simp; rfl) ?_
  refine kc ?_
  refine ko [0, 3, 4, 12, 13, 14, 15] 4 (by simp; rfl) ?_
  replace h0 := bnd h0; obtain ⟨y1, hy1, h0⟩ := h0
  refine kcall [0, 3, 4, 16] [1000000] (slices_order2Ordered_int_ok hy1) rfl rfl rfl Try.call103 (by simp) (by simp; rfl) ?_
  refine ko [0, 1, 2, 3, 4] 5 (by simp; rfl) ?_
  refine tops_nil ?_
  refine kc ?_
  refine ko [0, 1, 4, 20, 21, 22, 23] 4 (by simp; rfl) ?_
  replace h0 := bnd h0; obtain ⟨y2, hy2, h0⟩ := h0
  refine kcall [0, 1, 4, 24] [1000000] (slices_order2Ordered_int_ok hy2) rfl rfl rfl Try.call103 (by simp) (by simp; rfl) ?_
  refine ko [0, 1, 2, 4] 5 (by simp; rfl) ?_
  refine tops_nil ?_
  refine kc ?_
  refine ko [28, 29, 30, 31] 4 (by simp; rfl) ?_
  replace h0 := bnd h0; obtain ⟨y3, hy3, h0⟩ := h0
  refine kcall [32] [1000000] (slices_order2Ordered_int_ok hy3) rfl rfl rfl Try.call103 (by simp) (by simp; rfl) ?_
  refine ko [2] 5 (by simp; rfl) ?_
  refine tops_nil ?_
  refine kr [10] (by simp; rfl) ?_
  cases h0
  exact tr_ret ⟨[], by simp, rfl, by simp⟩
set_option maxHeartbeats 1000000 in
theorem slices_medianAdjacentOrdered_int_ok {a0 : List Int} {a1 : Int} {a2 : Int} {r : Int × Int} (h0 : slices_medianAdjacentOrdered_int a0 a1 a2 = some r) : FnOK Try.prog 97 [[.d (.int .i64 a2)]] [.d (.slice (rowsF (iRow .i64) a0)), .d (.int .i64 a1), .ptr (InO 0) 0] (.d (.int .i64 r.1)) [[.d (.int .i64 r.2)]] := by
  unfold slices_medianAdjacentOrdered_int at h0
  refine fn_ok (nt := 15) (rs := [.tmp 6]) Try.func97 rfl Try.ntmps97 rfl (by simp) (by decide) rfl fun K => ?_
  refine kr [0, 1, 2] (by simp; rfl) ?_
  refine kc ?_
  refine ko [7, 9, 10, 12, 13] 7 (by simp; rfl) ?_
  replace h0 := bnd h0; obtain ⟨y1, hy1, h0⟩ := h0
  refine kcall [14] [1000000] (slices_medianOrdered_int_ok hy1) rfl rfl rfl Try.call98 (by simp) (by simp; rfl) ?_
  refine ko [6] 1 (by simp; rfl) ?_
  refine tops_nil ?_
  cases h0
  exact tr_ret ⟨[], by simp, rfl, by simp⟩
set_option maxHeartbeats 1000000 in
theorem slices_choosePivotOrdered_int_ok {a0 : List Int} {a1 : Int} {a2 : Int} {r : Int × Int} (h0 : slices_choosePivotOrdered_int a0 a1 a2 = some r) : FnOK Try.prog 77 [] [.d (.slice (rowsF (iRow .i64) a0)), .d (.int .i64 a1), .d (.int .i64 a2)] (.tup [.d (.int .i64 r.1), .d (.int .i64 r.2)]) [] := by
  unfold slices_choosePivotOrdered_int at h0
  refine fn_ok (nt := 57) (rs := [.tmp 6, .tmp 7]) Try.func77 rfl Try.ntmps77 rfl (by simp) (by decide) rfl fun K => ?_
  refine kr [0, 1, 2] (by simp; rfl) ?_
  refine kr [0, 1, 8] (by simp; rfl) ?_
  refine kr [0, 1, 8, 9] (by simp; rfl) ?_
  refine kr [0, 1, 8, 9, 10] (by simp; rfl) ?_
  refine kr [0, 1, 8, 9, 10, 11] (by simp; rfl) ?_
  refine kr [0, 8, 9, 10, 11, 12] (by simp; rfl) ?_
  refine sjv (fun v1 : Int × Int => ({ nt := 57, env := [(9, .ptr 9 0), (11, .d (.int .i64 v1.1))], box := [(9, [.d (.int .i64 v1.2)])], vec := [] } : St)) (fun v1 => slices_choosePivotOrdered_int_j0 v1 = some r) (fun v1 h0 => ?_) ?_
  · unfold slices_choosePivotOrdered_int_j0 at h0
    refine kr [11, 49] (by simp; rfl) ?_
    refine tr_block ?_
    refine kr [11, 49, 51] (by simp; rfl) ?_
    refine tr_cond (b := (v1.2 == 0)) (by simp) (fun c3 => ?_) (fun c3 => ?_)
    · rw [if_pos c3] at h0
      refine kr [6, 7] (by simp; rfl) ?_
      cases h0
      exact tr_ret ⟨[], by simp, rfl, by simp⟩
    · rw [if_neg (by rw [c3]; decide)] at h0
      refine kr [11, 54] (by simp; rfl) ?_
      refine tr_cond (b := (v1.2 == 12)) (by simp) (fun c4 => ?_) (fun c4 => ?_)
      · rw [if_pos c4] at h0
        refine kr [6, 7] (by simp; rfl) ?_
        cases h0
        exact tr_ret ⟨[], by simp, rfl, by simp⟩
      · rw [if_neg (by rw [c4]; decide)] at h0
        refine kr [6, 7] (by simp; rfl) ?_
        cases h0
        exact tr_ret ⟨[], by simp, rfl, by simp⟩
  · refine kr [0, 8, 9, 10, 11, 12, 32] (by simp; rfl) ?_
    refine tr_cond (b := (decide (8 ≤ (IntKind.i64.wrap (a2 - a1))))) (by simp) (fun c5 => ?_) (fun c5 => ?_)
    · rw [if_pos c5] at h0
      refine sjv (fun v2 : Int × Int × Int × Int => ({ nt := 57, env := [(0, .d (.slice (rowsF (iRow .i64) a0))), (9, .ptr 9 0), (10, .d (.int .i64 v2.1)), (11, .d (.int .i64 v2.2.1)), (12, .d (.int .i64 v2.2.2.1))], box := [(9, [.d (.int .i64 v2.2.2.2)])], vec := [] } : St)) (fun v2 => slices_choosePivotOrdered_int_j1 a0 v2 = some r) (fun v2 h0 => ?_) ?_
      · unfold slices_choosePivotOrdered_int_j1 at h0
        refine kc1 ?_
        refine ko [9, 44, 45, 46, 47] 4 (by simp; rfl) ?_
        replace h0 := bnd h0; obtain ⟨y3, hy3, h0⟩ := h0
        refine kcall [9, 48] [9] (slices_medianOrdered_int_ok hy3) rfl rfl rfl Try.call98 (by simp) (by simp; rfl) ?_
        refine ko [9, 11] 1 (by simp; rfl) ?_
        refine tops_nil ?_
        exact ⟨_, h0, wk (by simp [weak_iff])⟩
      · refine kr [0, 9, 10, 11, 12, 34] (by simp; rfl) ?_
        refine tr_cond (b := (decide (50 ≤ (IntKind.i64.wrap (a2 - a1))))) (by simp) (fun c7 => ?_) (fun c7 => ?_)
        · rw [if_pos c7] at h0
          refine kc ?_
          refine ko [0, 9, 11, 12, 35, 36] 2 (by simp; rfl) ?_
          replace h0 := bnd h0; obtain ⟨y4, hy4, h0⟩ := h0
          refine kcall [0, 9, 11, 12, 37] [9] (slices_medianAdjacentOrdered_int_ok hy4) rfl rfl rfl Try.call97 (by simp) (by simp; rfl) ?_
          refine ko [0, 9, 10, 11, 12] 1 (by simp; rfl) ?_
          refine tops_nil ?_
          refine kc ?_
          refine ko [0, 9, 10, 12, 38, 39] 2 (by simp; rfl) ?_
          replace h0 := bnd h0; obtain ⟨y5, hy5, h0⟩ := h0
          refine kcall [0, 9, 10, 12, 40] [9] (slices_medianAdjacentOrdered_int_ok hy5) rfl rfl rfl Try.call97 (by simp) (by simp; rfl) ?_
          refine ko [0, 9, 10, 11, 12] 1 (by simp; rfl) ?_
          refine tops_nil ?_
          refine kc1 ?_
          refine ko [0, 9, 10, 11, 41, 42] 2 (by simp; rfl) ?_
          replace h0 := bnd h0; obtain ⟨y6, hy6, h0⟩ := h0
          refine kcall [0, 9, 10, 11, 43] [9] (slices_medianAdjacentOrdered_int_ok hy6) rfl rfl rfl Try.call97 (by simp) (by simp; rfl) ?_
          refine ko [0, 9, 10, 11, 12] 1 (by simp; rfl) ?_
          refine tops_nil ?_
          exact ⟨_, h0, wk (by simp [weak_iff])⟩
        · rw [if_neg (by rw [c7]; decide)] at h0
          refine tr_skip ?_
          exact ⟨_, h0, wk (by simp [weak_iff])⟩
    · rw [if_neg (by rw [c5]; decide)] at h0
      refine tr_skip ?_
      exact ⟨_, h0, wk (by simp [weak_iff])⟩
set_option maxHeartbeats 1000000 in
theorem law15_HistoryLater_ok {a0 : List Int} {a1 : Int} {r : Bool} (h0 : law15_HistoryLater a0 a1 = some r) : FnOK Try.prog 3 [] [.d (.slice (rowsF (iRow .i64) a0)), .d (.int .i64 a1)] (.d (.bool r)) [] := by
  unfold law15_HistoryLater at h0
  refine fn_okK (nt := 139) (rs := [.tmp 4]) Try.func3 rfl Try.ntmps3 rfl (by simp) (by decide) rfl fun K hK => ?_
  refine kr [0, 1] (by simp; rfl) ?_
  refine kr [1, 5] (by simp; rfl) ?_
  refine kc ?_
  refine ko [1, 5, 22] 1 (by simp; rfl) ?_
  replace h0 := bnd h0; obtain ⟨y1, hy1, h0⟩ := h0
  refine kcall [1, 5, 23] [21] (make_Repository_ok hy1) rfl rfl rfl Try.call8 (by simp) (by simp; rfl) ?_
  refine ko [1, 5, 6] 2 (by simp; rfl) ?_
  refine tops_nil ?_
  refine tr_frzB 6 [.d (.slice (rowsF api_Object_row y1.1.Objects)), .d (.slice (rowsF api_RefEvent_row y1.1.Events))] [.slice (rowsF api_Object_row y1.1.Objects), .slice (rowsF api_RefEvent_row y1.1.Events)] (by simp) (by simp) hK (by decide) (fun i hi => absurd hi (Nat.not_lt_zero i)) ?_
  refine kr [1, 5, 6, 7] (by simp; rfl) ?_
  refine sjv (fun v2 : Int => ({ nt := 139, env := [(1, .d (.int .i64 a1)), (5, .ptr 21 0), (6, .cptr [.slice (rowsF api_Object_row y1.1.Objects), .slice (rowsF api_RefEvent_row y1.1.Events)] 0), (7, .d (.int .i64 v2))], box := [(21, [.d (.slice (rowsF (iRow .i64) y1.2.L)), .d (.int .i64 y1.2.at_)])], vec := [] } : St)) (fun v2 => law15_HistoryLater_j0 y1 a1 v2 = some r) (fun v2 h0 => ?_) ?_
  · unfold law15_HistoryLater_j0 at h0
    refine kr [1, 5, 6, 7, 8] (by simp; rfl) ?_
    refine tr_seq ?_
    refine kr [1, 5, 6, 7, 8, 9] (by simp; rfl) ?_
    refine tr_wk (wk_own 8 59 3 1 (by simp) (by simp)) ?_
    replace h0 := bnd h0; obtain ⟨e1, hI1, h0⟩ := h0
    refine tjv (fun v3 : (List Int) => ({ nt := 139, env := [(1, .d (.int .i64 a1)), (5, .ptr 21 0), (6, .cptr [.slice (rowsF api_Object_row y1.1.Objects), .slice (rowsF api_RefEvent_row y1.1.Events)] 0), (7, .d (.int .i64 v2)), (8, .vec 59)], box := [(21, [.d (.slice (rowsF (iRow .i64) y1.2.L)), .d (.int .i64 y1.2.at_)])], vec := [(59, ⟨3, 1, rowsF (iRow .i64) v3⟩)] } : St)) (fun v3 => v3 = e1) (fun v3 hI1e _ W1 => ?_) ?_
    · subst hI1e
      refine tr_wk W1 ?_
      replace h0 := bnd h0; obtain ⟨_, p9, h0⟩ := h0
      replace p9 := ck_some p9
      have p9' := p9; try simp at p9'
      replace h0 := bnd h0; obtain ⟨_, p10, h0⟩ := h0
      replace p10 := ck_some p10
      have p10' := p10; try simp at p10'
      have p10o : ((bAnd .i64 a1 255)).tmod ((v3).length : Int) < (((v3)).length : Int) := by omega
      replace h0 := bnd h0; obtain ⟨x4, p11, h0⟩ := h0
      replace p11 := idx_some p11
      have p11' := p11; try simp at p11'
      refine kr [5, 6, 7, 10] (by simp [-getElem?_pos, List.getElem?_cons_zero, List.getElem?_cons_succ, p9, p10, p10o, p11, p9', p10', p11']; rfl) ?_
      replace h0 := bnd h0; obtain ⟨_, p12, h0⟩ := h0
      replace p12 := ck_some p12
      have p12' := p12; try simp at p12'
      replace h0 := bnd h0; obtain ⟨y5, hy5, h0⟩ := h0
      replace h0 := bnd h0; obtain ⟨_, p13, h0⟩ := h0
      replace p13 := ck_some p13
      have p13' := p13; try simp at p13'
      refine kheld (S0 := ({ nt := 139, env := [(6, .cptr [.slice (rowsF api_Object_row y1.1.Objects), .slice (rowsF api_RefEvent_row y1.1.Events)] 0), (10, .d (.int .i64 x4)), (11, .ptr 11 0)], box := [(11, [.d (.slice (rowsF api_Object_row y1.1.Objects)), .vec 82])], vec := [(82, ⟨32, 4, rowsF api_RefEvent_row ((([] : List api_RefEvent) ++ y1.1.Events) ++ [(⟨1, (⟨#[110, 101, 119]⟩ : ByteArray), x4, IntKind.i64.wrap ((IntKind.i64.wrap (v2 + 1)) + y5.1)⟩ : api_RefEvent)])⟩)] } : St)) [0, 1, 3, 4, 6, 7, 8, 9] 10 (by simpa using hK) fol (by decide +kernel) rfl rfl rfl (by simp [stillsL, stillB, pureP, pureB, p12, p13, p12', p13']; rfl) (fun K' S F C => ?_) ?_
      ·
        refine ho_allT C [2, 16] (by decide +kernel) (by decide) ?_
        refine hallT_cons rfl (sl (by simp [p12, p13, p12', p13']; rfl) ?_) ?_
        ·
          refine ho_allT C [5, 16] (by decide +kernel) (by decide) ?_
          refine hallT_cons rfl (sl (by simp [p12, p13, p12', p13']; rfl) ?_) ?_
          ·
            refine ho_allT C [10, 16] (by decide +kernel) (by decide) ?_
            refine hallT_cons rfl (kcall [5, 6, 7, 10, 68, 69, 70, 71, 72, 73, 74, 75, 76, 77, 78] [21] (make_Tape_Next_ok hy5) rfl rfl rfl Try.call9 (by simp [p12, p13, p12', p13']) (by simp [p12, p13, p12', p13']; rfl) (tops_nil ?_)) ?_
            ·
              refine ho_pure C 11 rfl (by decide +kernel) (by decide +kernel) (by simp [pureP, pureB]) (by simp [p12, p13, p12', p13']; rfl) ?_
              refine ho_allT C [12, 16] (by decide +kernel) (by decide) ?_
              refine hallT_cons rfl (sl (by simp [p12, p13, p12', p13']; rfl) ?_) ?_
              ·
                refine ho_allT C [13, 16] (by decide +kernel) (by decide) ?_
                refine hallT_cons rfl (sl (by simp [p12, p13, p12', p13']; rfl) ?_) ?_
                ·
                  refine ho_allT C [14, 16] (by decide +kernel) (by decide) ?_
                  refine hallT_cons rfl (sl (by simp [p12, p13, p12', p13']; rfl) ?_) ?_
                  ·
                    refine ho_allT C [15, 16] (by decide +kernel) (by decide) ?_
                    refine hallT_cons rfl (sl (by simp [p12, p13, p12', p13']; rfl) ?_) ?_
                    ·
                      refine ho_allT C [16] (by decide +kernel) (by decide) ?_
                      refine hallT_cons rfl (sl (by simp [p12, p13, p12', p13']; rfl) ?_) ?_
                      ·
                        refine ho_allT C [17] (by decide +kernel) (by decide) ?_
                        refine hallT_cons rfl (sl (by simp [p12, p13, p12', p13']; rfl) ?_) ?_
                        ·
                          exact ho_end C (by decide +kernel) ⟨rfl, weak_iff.2 (by simp)⟩
                        exact trivial
                      exact trivial
                    refine hallT_cons rfl (sl (by simp [p12, p13, p12', p13']; rfl) ?_) ?_
                    ·
                      refine ho_allT C [15] (by decide +kernel) (by decide) ?_
                      refine hallT_cons rfl (sl (by simp [p12, p13, p12', p13']; rfl) ?_) ?_
                      ·
                        refine ho_allT C [17] (by decide +kernel) (by decide) ?_
                        refine hallT_cons rfl (sl (by simp [p12, p13, p12', p13']; rfl) ?_) ?_
                        ·
                          exact ho_end C (by decide +kernel) ⟨rfl, weak_iff.2 (by simp)⟩
                        exact trivial
                      exact trivial
                    exact trivial
                  refine hallT_cons rfl (sl (by simp [p12, p13, p12', p13']; rfl) ?_) ?_
                  ·
                    refine ho_allT C [14] (by decide +kernel) (by decide) ?_
                    refine hallT_cons rfl (sl (by simp [p12, p13, p12', p13']; rfl) ?_) ?_
                    ·
                      refine ho_allT C [15] (by decide +kernel) (by decide) ?_
                      refine hallT_cons rfl (sl (by simp [p12, p13, p12', p13']; rfl) ?_) ?_
                      ·
                        refine ho_allT C [17] (by decide +kernel) (by decide) ?_
                        refine hallT_cons rfl (sl (by simp [p12, p13, p12', p13']; rfl) ?_) ?_
                        ·
                          exact ho_end C (by decide +kernel) ⟨rfl, weak_iff.2 (by simp)⟩
                        exact trivial
                      exact trivial
                    exact trivial
                  exact trivial
                refine hallT_cons rfl (sl (by simp [p12, p13, p12', p13']; rfl) ?_) ?_
                ·
                  refine ho_allT C [13] (by decide +kernel) (by decide) ?_
                  refine hallT_cons rfl (sl (by simp [p12, p13, p12', p13']; rfl) ?_) ?_
                  ·
                    refine ho_allT C [14] (by decide +kernel) (by decide) ?_
                    refine hallT_cons rfl (sl (by simp [p12, p13, p12', p13']; rfl) ?_) ?_
                    ·
                      refine ho_allT C [15] (by decide +kernel) (by decide) ?_
                      refine hallT_cons rfl (sl (by simp [p12, p13, p12', p13']; rfl) ?_) ?_
                      ·
                        refine ho_allT C [17] (by decide +kernel) (by decide) ?_
                        refine hallT_cons rfl (sl (by simp [p12, p13, p12', p13']; rfl) ?_) ?_
                        ·
                          exact ho_end C (by decide +kernel) ⟨rfl, weak_iff.2 (by simp)⟩
                        exact trivial
                      exact trivial
                    exact trivial
                  exact trivial
                exact trivial
              refine hallT_cons rfl (sl (by simp [p12, p13, p12', p13']; rfl) ?_) ?_
              ·
                refine ho_allT C [12] (by decide +kernel) (by decide) ?_
                refine hallT_cons rfl (sl (by simp [p12, p13, p12', p13']; rfl) ?_) ?_
                ·
                  refine ho_allT C [13] (by decide +kernel) (by decide) ?_
                  refine hallT_cons rfl (sl (by simp [p12, p13, p12', p13']; rfl) ?_) ?_
                  ·
                    refine ho_allT C [14] (by decide +kernel) (by decide) ?_
                    refine hallT_cons rfl (sl (by simp [p12, p13, p12', p13']; rfl) ?_) ?_
                    ·
                      refine ho_allT C [15] (by decide +kernel) (by decide) ?_
                      refine hallT_cons rfl (sl (by simp [p12, p13, p12', p13']; rfl) ?_) ?_
                      ·
                        refine ho_allT C [17] (by decide +kernel) (by decide) ?_
                        refine hallT_cons rfl (sl (by simp [p12, p13, p12', p13']; rfl) ?_) ?_
                        ·
                          exact ho_end C (by decide +kernel) ⟨rfl, weak_iff.2 (by simp)⟩
                        exact trivial
                      exact trivial
                    exact trivial
                  exact trivial
                exact trivial
              exact trivial
            refine hallT_cons rfl (sl (by simp [p12, p13, p12', p13']; rfl) ?_) ?_
            ·
              refine ho_allT C [10] (by decide +kernel) (by decide) ?_
              refine hallT_cons rfl (kcall [5, 6, 7, 10, 11, 68, 69, 70, 71, 72, 73, 74, 75, 76, 77, 78] [21] (make_Tape_Next_ok hy5) rfl rfl rfl Try.call9 (by simp [p12, p13, p12', p13']) (by simp [p12, p13, p12', p13']; rfl) (tops_nil ?_)) ?_
              ·
                refine ho_pure C 11 rfl (by decide +kernel) (by decide +kernel) (by simp [pureP, pureB]) (by simp [p12, p13, p12', p13']; rfl) ?_
                refine ho_allT C [12] (by decide +kernel) (by decide) ?_
                refine hallT_cons rfl (sl (by simp [p12, p13, p12', p13']; rfl) ?_) ?_
                ·
                  refine ho_allT C [13] (by decide +kernel) (by decide) ?_
                  refine hallT_cons rfl (sl (by simp [p12, p13, p12', p13']; rfl) ?_) ?_
                  ·
                    refine ho_allT C [14] (by decide +kernel) (by decide) ?_
                    refine hallT_cons rfl (sl (by simp [p12, p13, p12', p13']; rfl) ?_) ?_
                    ·
                      refine ho_allT C [15] (by decide +kernel) (by decide) ?_
                      refine hallT_cons rfl (sl (by simp [p12, p13, p12', p13']; rfl) ?_) ?_
                      ·
                        refine ho_allT C [17] (by decide +kernel) (by decide) ?_
                        refine hallT_cons rfl (sl (by simp [p12, p13, p12', p13']; rfl) ?_) ?_
                        ·
                          exact ho_end C (by decide +kernel) ⟨rfl, weak_iff.2 (by simp)⟩
                        exact trivial
                      exact trivial
                    exact trivial
                  exact trivial
                exact trivial
              exact trivial
            exact trivial
          refine hallT_cons rfl (sl (by simp [p12, p13, p12', p13']; rfl) ?_) ?_
          ·
            refine ho_allT C [5] (by decide +kernel) (by decide) ?_
            refine hallT_cons rfl (sl (by simp [p12, p13, p12', p13']; rfl) ?_) ?_
            ·
              refine ho_allT C [10] (by decide +kernel) (by decide) ?_
              refine hallT_cons rfl (kcall [5, 6, 7, 10, 11, 68, 69, 70, 71, 72, 73, 74, 75, 76, 77, 78] [21] (make_Tape_Next_ok hy5) rfl rfl rfl Try.call9 (by simp [p12, p13, p12', p13']) (by simp [p12, p13, p12', p13']; rfl) (tops_nil ?_)) ?_
              ·
                refine ho_pure C 11 rfl (by decide +kernel) (by decide +kernel) (by simp [pureP, pureB]) (by simp [p12, p13, p12', p13']; rfl) ?_
                refine ho_allT C [12] (by decide +kernel) (by decide) ?_
                refine hallT_cons rfl (sl (by simp [p12, p13, p12', p13']; rfl) ?_) ?_
                ·
                  refine ho_allT C [13] (by decide +kernel) (by decide) ?_
                  refine hallT_cons rfl (sl (by simp [p12, p13, p12', p13']; rfl) ?_) ?_
                  ·
                    refine ho_allT C [14] (by decide +kernel) (by decide) ?_
                    refine hallT_cons rfl (sl (by simp [p12, p13, p12', p13']; rfl) ?_) ?_
                    ·
                      refine ho_allT C [15] (by decide +kernel) (by decide) ?_
                      refine hallT_cons rfl (sl (by simp [p12, p13, p12', p13']; rfl) ?_) ?_
                      ·
                        refine ho_allT C [17] (by decide +kernel) (by decide) ?_
                        refine hallT_cons rfl (sl (by simp [p12, p13, p12', p13']; rfl) ?_) ?_
                        ·
                          exact ho_end C (by decide +kernel) ⟨rfl, weak_iff.2 (by simp)⟩
                        exact trivial
                      exact trivial
                    exact trivial
                  exact trivial
                exact trivial
              exact trivial
            exact trivial
          exact trivial
        refine hallT_cons rfl (sl (by simp [p12, p13, p12', p13']; rfl) ?_) ?_
        ·
          refine ho_allT C [2] (by decide +kernel) (by decide) ?_
          refine hallT_cons rfl (sl (by simp [p12, p13, p12', p13']; rfl) ?_) ?_
          ·
            refine ho_allT C [5] (by decide +kernel) (by decide) ?_
            refine hallT_cons rfl (sl (by simp [p12, p13, p12', p13']; rfl) ?_) ?_
            ·
              refine ho_allT C [10] (by decide +kernel) (by decide) ?_
              refine hallT_cons rfl (kcall [5, 6, 7, 10, 11, 68, 69, 70, 71, 72, 73, 74, 75, 76, 77, 78] [21] (make_Tape_Next_ok hy5) rfl rfl rfl Try.call9 (by simp [p12, p13, p12', p13']) (by simp [p12, p13, p12', p13']; rfl) (tops_nil ?_)) ?_
              ·
                refine ho_pure C 11 rfl (by decide +kernel) (by decide +kernel) (by simp [pureP, pureB]) (by simp [p12, p13, p12', p13']; rfl) ?_
                refine ho_allT C [12] (by decide +kernel) (by decide) ?_
                refine hallT_cons rfl (sl (by simp [p12, p13, p12', p13']; rfl) ?_) ?_
                ·
                  refine ho_allT C [13] (by decide +kernel) (by decide) ?_
                  refine hallT_cons rfl (sl (by simp [p12, p13, p12', p13']; rfl) ?_) ?_
                  ·
                    refine ho_allT C [14] (by decide +kernel) (by decide) ?_
                    refine hallT_cons rfl (sl (by simp [p12, p13, p12', p13']; rfl) ?_) ?_
                    ·
                      refine ho_allT C [15] (by decide +kernel) (by decide) ?_
                      refine hallT_cons rfl (sl (by simp [p12, p13, p12', p13']; rfl) ?_) ?_
                      ·
                        refine ho_allT C [17] (by decide +kernel) (by decide) ?_
                        refine hallT_cons rfl (sl (by simp [p12, p13, p12', p13']; rfl) ?_) ?_
                        ·
                          exact ho_end C (by decide +kernel) ⟨rfl, weak_iff.2 (by simp)⟩
                        exact trivial
                      exact trivial
                    exact trivial
                  exact trivial
                exact trivial
              exact trivial
            exact trivial
          exact trivial
        exact trivial
      ·
        refine tr_seq ?_
        refine kr [6, 10, 11, 12] (by simp; rfl) ?_
        replace h0 := bnd h0; obtain ⟨l6, hl6, h0⟩ := h0
        replace hl6 := Option.some.inj hl6
        replace h0 := bnd h0; obtain ⟨e2, hI2, h0⟩ := h0
        refine tjv (fun v7 : Unit => ({ nt := 139, env := [(6, .cptr [.slice (rowsF api_Object_row y1.1.Objects), .slice (rowsF api_RefEvent_row y1.1.Events)] 0), (10, .d (.int .i64 x4)), (11, .ptr 11 0)], box := [(11, [.d (.slice (rowsF api_Object_row y1.1.Objects)), .d (.slice (rowsF api_RefEvent_row l6))])], vec := [] } : St)) (fun v7 => .inl v7 = e2) (fun v7 hI2e _ W2 => ?_) ?_
        · subst hI2e
          dsimp only at h0
          refine tr_wk W2 ?_
          refine kc ?_
          refine ko [6, 11, 124, 125] 2 (by simp; rfl) ?_
          replace h0 := bnd h0; obtain ⟨y8, hy8, h0⟩ := h0
          refine kcall [6, 11, 126] [] (history_Since_ok hy8) rfl rfl rfl Try.call10 (by simp) (by simp; rfl) ?_
          refine ko [6, 11, 18] 5 (by simp; rfl) ?_
          refine tops_nil ?_
          replace h0 := bnd h0; obtain ⟨v9, hvv9, h0⟩ := h0
          refine sjv (fun v9_ : Bool => ({ nt := 139, env := [(4, .d (.bool v9_))], box := [], vec := [] } : St)) (fun v9_ => v9 = v9_) (fun v9_ e => ?_) ?_
          · subst e
            cases h0
            exact tr_ret ⟨[], by simp, rfl, by simp⟩
          · refine kd1 [[], [0], [1], [1, 2], [1, 3], [1], [1, 5], [1, 6], [1, 4, 7], [1, 4, 7, 8], [4, 7, 9]] [] [] none [] 11 fol (by decide +kernel) (by simp) ?_
            refine dr_go 0 2 rfl (by simp (maxSteps := 1000000); rfl) ?_
            refine dr_split 1 130 y8.2 (by simp) (fun c24 => ?_) (fun c24 => ?_)
            · rw [if_pos c24] at hvv9
              refine dr_go 2 1 rfl (by simp (maxSteps := 1000000); rfl) ?_
              replace hvv9 := bnd hvv9; obtain ⟨y10, hy10, hvv9⟩ := hvv9
              refine dr_call 3 [] (history_Ever_ok hy10) rfl rfl rfl rfl rfl Try.call11 (by simp) ?_
              refine dr_go 4 2 rfl (by simp (maxSteps := 1000000); rfl) ?_
              replace hvv9 := bnd hvv9; obtain ⟨y11, hy11, hvv9⟩ := hvv9
              refine dr_call 6 [] (history_Ever_ok hy11) rfl rfl rfl rfl rfl Try.call11 (by simp) ?_
              refine dr_go 7 2 rfl (by simp (maxSteps := 1000000); rfl) ?_
              refine dr_go 9 2 rfl (by simp (maxSteps := 1000000); rfl) ?_
              refine dr_end rfl (tops_nil ?_)
              cases hvv9
              exact ⟨_, rfl, wk (by simp [weak_iff])⟩
            · rw [if_neg (by rw [c24]; decide)] at hvv9
              refine dr_skip 2 139 [some 131, some 132, some 133, some 134, some 135, some 136, some 137] rfl rfl (by decide) (by kernel_rfl) (by simp only [skEf, List.map_cons, List.map_nil, List.cons_append, List.nil_append]; rfl) ?_
              refine dr_go 9 2 rfl (by simp (maxSteps := 1000000); rfl) ?_
              refine dr_end rfl (tops_nil ?_)
              cases hvv9
              exact ⟨_, rfl, wk (by simp [weak_iff])⟩
        · refine tr_block (tr_iter (fun s12 : Int => ({ nt := 139, env := [(6, .cptr [.slice (rowsF api_Object_row y1.1.Objects), .slice (rowsF api_RefEvent_row y1.1.Events)] 0), (10, .d (.int .i64 x4)), (11, .ptr 11 0), (12, .d (.int .i64 s12))], box := [(11, [.d (.slice (rowsF api_Object_row y1.1.Objects)), .d (.slice (rowsF api_RefEvent_row l6))])], vec := [] } : St)) hI2 (Wk.trans (wk_frz 82) (wk (by subst hl6; simp [weak_iff]))) fun G2 s12 o2 h2 hg2 he2 => ?_)
          unfold law15_HistoryLater_l2 at h2
          refine tr_seq ?_
          refine kr [6, 10, 11, 12, 88] (by simp; rfl) ?_
          refine tr_cond (b := (decide (s12 < ((y1.1.Objects).length : Int)))) (by simp) (fun c25 => ?_) (fun c25 => ?_)
          · rw [if_pos c25] at h2
            refine tr_skip ?_
            refine tr_seq ?_
            refine tr_block ?_
            refine kd [[], [], [1], [], [2, 3], [4], [5], [0, 6], [7], [8], [8], [9], [10]] [] [] none [] 13 fol (by decide +kernel) (by simp) ?_
            replace h2 := bnd h2; obtain ⟨x13, p23, h2⟩ := h2
            replace p23 := idx_some p23
            have p23' := p23; try simp at p23'
            refine dr_go 0 2 rfl (by simp (maxSteps := 1000000) [p23, p23']; rfl) ?_
            refine dr_go 2 2 rfl (by simp (maxSteps := 1000000) [p23, p23']; rfl) ?_
            refine dr_go 4 2 rfl (by simp (maxSteps := 1000000) [p23, p23']; rfl) ?_
            refine dr_go 6 1 rfl (by simp (maxSteps := 1000000) [p23, p23']; rfl) ?_
            replace h2 := bnd h2; obtain ⟨y14, hy14, h2⟩ := h2
            refine dr_call 7 [] (history_Since_ok hy14) rfl rfl rfl rfl rfl Try.call10 (by simp) ?_
            refine dr_go 8 2 rfl (by simp (maxSteps := 1000000); rfl) ?_
            refine dr_go 10 2 rfl (by simp (maxSteps := 1000000); rfl) ?_
            refine dr_go 12 1 rfl (by simp (maxSteps := 1000000); rfl) ?_
            refine dr_end rfl (tops_nil ?_)
            refine kd [[], [], [1], [], [2, 3], [4], [5], [0, 6], [7], [8], [8], [9], [10]] [] [] none [] 13 fol (by decide +kernel) (by simp) ?_
            refine dr_go 0 2 rfl (by simp (maxSteps := 1000000) [p23, p23']; rfl) ?_
            refine dr_go 2 2 rfl (by simp (maxSteps := 1000000) [p23, p23']; rfl) ?_
            refine dr_go 4 2 rfl (by simp (maxSteps := 1000000) [p23, p23']; rfl) ?_
            refine dr_go 6 1 rfl (by simp (maxSteps := 1000000) [p23, p23']; rfl) ?_
            replace h2 := bnd h2; obtain ⟨y15, hy15, h2⟩ := h2
            refine dr_call 7 [] (history_Since_ok hy15) rfl rfl rfl rfl rfl Try.call10 (by simp) ?_
            refine dr_go 8 2 rfl (by simp (maxSteps := 1000000); rfl) ?_
            refine dr_go 10 2 rfl (by simp (maxSteps := 1000000); rfl) ?_
            refine dr_go 12 1 rfl (by simp (maxSteps := 1000000); rfl) ?_
            refine dr_end rfl (tops_nil ?_)
            replace h2 := bnd h2; obtain ⟨v16, hvv16, h2⟩ := h2
            refine sjv (fun v16_ : Bool => ({ nt := 139, env := [(6, .cptr [.slice (rowsF api_Object_row y1.1.Objects), .slice (rowsF api_RefEvent_row y1.1.Events)] 0), (10, .d (.int .i64 x4)), (11, .ptr 11 0), (12, .d (.int .i64 s12)), (122, .d (.bool v16_))], box := [(11, [.d (.slice (rowsF api_Object_row y1.1.Objects)), .d (.slice (rowsF api_RefEvent_row l6))])], vec := [] } : St)) (fun v16_ => v16 = v16_) (fun v16_ e => ?_) ?_
            · subst e
              refine tr_cond (b := v16) (by simp) (fun c30 => ?_) (fun c30 => ?_)
              · rw [if_pos c30] at h2
                refine kr [4] (by simp; rfl) ?_
                have k1 := he2 _ (Option.some.inj h2)
                subst k1
                dsimp only at h0
                cases h0
                exact tr_ret ⟨[], by simp, rfl, by simp⟩
              · rw [if_neg (by rw [c30]; decide)] at h2
                refine tr_skip ?_
                refine lr (by simp; rfl) ?_
                exact ⟨_, hg2 _ (Option.some.inj h2), wk (by simp [weak_iff])⟩
            · refine kc1 ?_
              refine ko [6, 10, 11, 12, 13, 15, 16, 114] 2 (by simp; rfl) ?_
              refine tops_split 114 y14.2 (by simp) (fun c31 => ?_) (fun c31 => ?_)
              · rw [c31] at hvv16
                refine ko [6, 10, 11, 12, 13, 15, 114, 115, 116, 117] 3 (by simp; rfl) ?_
                refine tops_split 117 (!y15.2) (by simp) (fun c32 => ?_) (fun c32 => ?_)
                · rw [c32] at hvv16
                  refine kskip 3 [] (by kernel_rfl) ?_
                  refine ko [6, 10, 11, 12, 115, 116, 117, 121, 122] 2 (by simp; rfl) ?_
                  refine tops_nil ?_
                  cases hvv16
                  exact ⟨_, rfl, wk (by simp [weak_iff])⟩
                · rw [c32] at hvv16
                  refine ko [6, 10, 11, 12, 115, 116, 117, 118, 119, 120, 121, 122] 5 (by simp; rfl) ?_
                  refine tops_nil ?_
                  cases hvv16
                  exact ⟨_, rfl, wk (by simp [weak_iff])⟩
              · rw [c31] at hvv16
                refine kskip 7 [] (by kernel_rfl) ?_
                refine ko [6, 10, 11, 12, 122] 1 (by simp; rfl) ?_
                refine tops_nil ?_
                cases hvv16
                exact ⟨_, rfl, wk (by simp [weak_iff])⟩
          · rw [if_neg (by rw [c25]; decide)] at h2
            refine tr_exit ?_
            exact ⟨_, he2 _ (Option.some.inj h2), wk (by simp [weak_iff])⟩
    · refine tr_block (tr_iter (fun s19 : Int × (List Int) => ({ nt := 139, env := [(1, .d (.int .i64 a1)), (5, .ptr 21 0), (6, .cptr [.slice (rowsF api_Object_row y1.1.Objects), .slice (rowsF api_RefEvent_row y1.1.Events)] 0), (7, .d (.int .i64 v2)), (8, .vec 59), (9, .d (.int .i64 s19.1))], box := [(21, [.d (.slice (rowsF (iRow .i64) y1.2.L)), .d (.int .i64 y1.2.at_)])], vec := [(59, ⟨3, 1, rowsF (iRow .i64) s19.2⟩)] } : St)) hI1 (wk (by simp [weak_iff])) fun G2 s19 o2 h2 hg2 he2 => ?_)
      unfold law15_HistoryLater_l1 at h2
      refine tr_seq ?_
      refine kr [1, 5, 6, 7, 8, 9, 41] (by simp; rfl) ?_
      refine tr_cond (b := (decide (s19.1 < ((y1.1.Objects).length : Int)))) (by simp) (fun c33 => ?_) (fun c33 => ?_)
      · rw [if_pos c33] at h2
        refine tr_skip ?_
        refine tr_seq ?_
        refine tr_block ?_
        replace h2 := bnd h2; obtain ⟨x20, p24, h2⟩ := h2
        replace p24 := idx_some p24
        have p24' := p24; try simp at p24'
        refine kr [1, 5, 6, 7, 8, 9, 50] (by simp [p24, p24']; rfl) ?_
        refine tr_cond (b := (x20.Kind == 3)) (by simp) (fun c34 => ?_) (fun c34 => ?_)
        · rw [if_pos c34] at h2
          replace h2 := bnd h2; obtain ⟨_, p26, h2⟩ := h2
          replace p26 := ck_some p26
          have p26' := p26; try simp at p26'
          refine lr (by simp [p24, p26, p24', p26']; rfl) ?_
          refine lr (by simp; rfl) ?_
          exact ⟨_, hg2 _ (Option.some.inj h2), wk (by simp [weak_iff])⟩
        · rw [if_neg (by rw [c34]; decide)] at h2
          refine tr_skip ?_
          refine lr (by simp; rfl) ?_
          exact ⟨_, hg2 _ (Option.some.inj h2), wk (by simp [weak_iff])⟩
      · rw [if_neg (by rw [c33]; decide)] at h2
        refine tr_exit ?_
        exact ⟨_, he2 _ (Option.some.inj h2), wk (by simp [weak_iff])⟩
  · refine kr [1, 5, 6, 7, 27] (by simp; rfl) ?_
    refine tr_cond (b := (decide (0 < ((y1.1.Events).length : Int)))) (by simp) (fun c35 => ?_) (fun c35 => ?_)
    · rw [if_pos c35] at h0
      replace h0 := bnd h0; obtain ⟨x21, p27, h0⟩ := h0
      replace p27 := idx_some p27
      have p27' := p27; try simp at p27'
      refine lr (by simp [p27, p27']; rfl) ?_
      exact ⟨_, h0, wk (by simp [weak_iff])⟩
    · rw [if_neg (by rw [c35]; decide)] at h0
      refine tr_skip ?_
      exact ⟨_, h0, wk (by simp [weak_iff])⟩
set_option maxHeartbeats 1000000 in
theorem law15_awake_ok  {r : Bool} (h0 : law15_awake = some r) : FnOK Try.prog 13 [] [] (.d (.bool r)) [] := by
  unfold law15_awake at h0
  refine fn_ok (nt := 28) (rs := [.tmp 0]) Try.func13 rfl Try.ntmps13 rfl (by simp) (by decide) rfl fun K => ?_
  refine kr [] (by simp; rfl) ?_
  refine kr [1] (by simp; rfl) ?_
  refine kr [1] (by simp; rfl) ?_
  replace h0 := bnd h0; obtain ⟨v1, hvv1, h0⟩ := h0
  refine sjv (fun v1_ : Bool => ({ nt := 28, env := [(0, .d (.bool v1_))], box := [], vec := [] } : St)) (fun v1_ => v1 = v1_) (fun v1_ e => ?_) ?_
  · subst e
    cases h0
    exact tr_ret ⟨[], by simp, rfl, by simp⟩
  · refine kc1 ?_
    refine ko [1, 11] 1 (by simp; rfl) ?_
    refine tops_wk (wk_frz 5) ?_
    refine tops_wk (wk_frz 9) ?_
    replace hvv1 := bnd hvv1; obtain ⟨y2, hy2, hvv1⟩ := hvv1
    refine kcall [1, 12] [] (history_Reachable_ok hy2) rfl rfl rfl Try.call14 (by simp) (by simp; rfl) ?_
    refine ko [1, 15] 3 (by simp; rfl) ?_
    refine tops_split 15 (((y2).length : Int) == 2) (by simp) (fun c5 => ?_) (fun c5 => ?_)
    · rw [if_pos c5] at hvv1
      refine ko [1, 15, 16] 1 (by simp; rfl) ?_
      replace hvv1 := bnd hvv1; obtain ⟨y3, hy3, hvv1⟩ := hvv1
      refine kcall [1, 15, 17] [] (history_Lost_ok hy3) rfl rfl rfl Try.call15 (by simp) (by simp; rfl) ?_
      refine ko [1, 21] 4 (by simp; rfl) ?_
      refine tops_split 21 (((y3).length : Int) == 1) (by simp) (fun c6 => ?_) (fun c6 => ?_)
      · rw [if_pos c6] at hvv1
        refine ko [21, 22] 1 (by simp; rfl) ?_
        replace hvv1 := bnd hvv1; obtain ⟨y4, hy4, hvv1⟩ := hvv1
        refine kcall [21, 23] [] (history_Lost_ok hy4) rfl rfl rfl Try.call15 (by simp) (by simp; rfl) ?_
        replace hvv1 := bnd hvv1; obtain ⟨x5, p3, hvv1⟩ := hvv1
        replace p3 := idx_some p3
        have p3' := p3; try simp at p3'
        refine ko [0] 5 (by simp [p3, p3']; rfl) ?_
        refine tops_nil ?_
        cases hvv1
        exact ⟨_, rfl, wk (by simp [weak_iff])⟩
      · rw [if_neg (by rw [c6]; decide)] at hvv1
        refine kskip 5 [] (by kernel_rfl) ?_
        refine ko [0] 2 (by simp; rfl) ?_
        refine tops_nil ?_
        cases hvv1
        exact ⟨_, rfl, wk (by simp [weak_iff])⟩
    · rw [if_neg (by rw [c5]; decide)] at hvv1
      refine kskip 4 [] (by kernel_rfl) ?_
      refine ko [1, 21] 2 (by simp; rfl) ?_
      refine kskip 5 [] (by kernel_rfl) ?_
      refine ko [0] 2 (by simp; rfl) ?_
      refine tops_nil ?_
      cases hvv1
      exact ⟨_, rfl, wk (by simp [weak_iff])⟩
set_option maxHeartbeats 1000000 in
theorem law15_HistoryCycles_ok {a0 : Int} {r : Bool} (h0 : law15_HistoryCycles a0 = some r) : FnOK Try.prog 4 [] [.d (.int .i64 a0)] (.d (.bool r)) [] := by
  unfold law15_HistoryCycles at h0
  refine fn_ok (nt := 53) (rs := [.tmp 2]) Try.func4 rfl Try.ntmps4 rfl (by simp) (by decide) rfl fun K => ?_
  refine kr [0] (by simp; rfl) ?_
  refine kr [3] (by simp; rfl) ?_
  refine kr [3, 4, 5] (by simp; rfl) ?_
  refine tr_seq ?_
  refine kr [3, 4, 5, 6] (by simp; rfl) ?_
  refine tr_wk (wk_own 4 25 36 8 (by simp) (by simp)) ?_
  refine tr_wk (wk_own 5 35 36 8 (by simp) (by simp)) ?_
  replace h0 := bnd h0; obtain ⟨e1, hI1, h0⟩ := h0
  refine tjv (fun v1 : (List api_Object) × (List api_Object) => ({ nt := 53, env := [(4, .vec 25), (5, .vec 35)], box := [], vec := [(25, ⟨36, 8, rowsF api_Object_row v1.1⟩), (35, ⟨36, 8, rowsF api_Object_row v1.2⟩)] } : St)) (fun v1 => v1 = e1) (fun v1 hI1e _ W1 => ?_) ?_
  · subst hI1e
    refine tr_wk W1 ?_
    replace h0 := bnd h0; obtain ⟨_, p18, h0⟩ := h0
    replace p18 := ck_some p18
    have p18' := p18; try simp at p18'
    refine kr [4, 5] (by simp [p18, p18']; rfl) ?_
    replace h0 := bnd h0; obtain ⟨v2, hvv2, h0⟩ := h0
    refine sjv (fun v2_ : Bool => ({ nt := 53, env := [(2, .d (.bool v2_))], box := [], vec := [] } : St)) (fun v2_ => v2 = v2_) (fun v2_ e => ?_) ?_
    · subst e
      cases h0
      exact tr_ret ⟨[], by simp, rfl, by simp⟩
    · refine kc1 ?_
      refine ko [5, 41] 2 (by simp; rfl) ?_
      refine tops_wk (wk_frz 25) ?_
      replace hvv2 := bnd hvv2; obtain ⟨y3, hy3, hvv2⟩ := hvv2
      refine kcall [5, 42] [] (history_Valid_ok hy3) rfl rfl rfl Try.call12 (by simp) (by simp; rfl) ?_
      refine ko [5, 44] 2 (by simp; rfl) ?_
      refine tops_split 44 (y3 == 8) (by simp) (fun c8 => ?_) (fun c8 => ?_)
      · rw [if_pos c8] at hvv2
        refine ko [44, 46] 2 (by simp; rfl) ?_
        refine tops_wk (wk_frz 39) ?_
        replace hvv2 := bnd hvv2; obtain ⟨y4, hy4, hvv2⟩ := hvv2
        refine kcall [44, 47] [] (history_Valid_ok hy4) rfl rfl rfl Try.call12 (by simp) (by simp; rfl) ?_
        refine ko [50] 3 (by simp; rfl) ?_
        refine tops_split 50 (y4 == 8) (by simp) (fun c9 => ?_) (fun c9 => ?_)
        · rw [if_pos c9] at hvv2
          replace hvv2 := bnd hvv2; obtain ⟨y5, hy5, hvv2⟩ := hvv2
          refine kcall [50, 51] [] (law15_awake_ok hy5) rfl rfl rfl Try.call13 (by simp) (by simp; rfl) ?_
          refine ko [2] 2 (by simp; rfl) ?_
          refine tops_nil ?_
          cases hvv2
          exact ⟨_, rfl, wk (by simp [weak_iff])⟩
        · rw [if_neg (by rw [c9]; decide)] at hvv2
          refine ko [2] 3 (by simp; rfl) ?_
          refine tops_nil ?_
          cases hvv2
          exact ⟨_, rfl, wk (by simp [weak_iff])⟩
      · rw [if_neg (by rw [c8]; decide)] at hvv2
        refine kskip 4 [] (by kernel_rfl) ?_
        refine ko [2] 5 (by simp; rfl) ?_
        refine tops_nil ?_
        cases hvv2
        exact ⟨_, rfl, wk (by simp [weak_iff])⟩
  · refine tr_block (tr_iter (fun s6 : Int × (List api_Object) × (List api_Object) => ({ nt := 53, env := [(3, .d (.int .i64 (IntKind.i64.wrap (1 + (bAnd .i64 a0 3))))), (4, .vec 25), (5, .vec 35), (6, .d (.int .i64 s6.1))], box := [], vec := [(25, ⟨36, 8, rowsF api_Object_row s6.2.1⟩), (35, ⟨36, 8, rowsF api_Object_row s6.2.2⟩)] } : St)) hI1 (wk (by simp [weak_iff])) fun G1 s6 o1 h1 hg1 he1 => ?_)
    unfold law15_HistoryCycles_l0 at h1
    refine tr_seq ?_
    refine kr [3, 4, 5, 6, 12] (by simp; rfl) ?_
    refine tr_cond (b := (decide (s6.1 ≤ (IntKind.i64.wrap (1 + (bAnd .i64 a0 3)))))) (by simp) (fun c10 => ?_) (fun c10 => ?_)
    · rw [if_pos c10] at h1
      refine tr_skip ?_
      refine tr_seq ?_
      refine tr_block ?_
      refine kc ?_
      replace h1 := bnd h1; obtain ⟨_, p20, h1⟩ := h1
      replace p20 := ck_some p20
      have p20' := p20; try simp at p20'
      refine ko [3, 5, 6, 15, 23] 9 (by simp [p20, p20']; rfl) ?_
      refine tops_frz 22 ?_
      replace h1 := bnd h1; obtain ⟨_, p21, h1⟩ := h1
      replace p21 := ck_some p21
      have p21' := p21; try simp at p21'
      refine ko [3, 4, 5, 6] 3 (by simp [p21, p21']; rfl) ?_
      refine tops_nil ?_
      refine kc1 ?_
      replace h1 := bnd h1; obtain ⟨_, p23, h1⟩ := h1
      replace p23 := ck_some p23
      have p23' := p23; try simp at p23'
      refine ko [3, 4, 6, 26, 33] 8 (by simp [p23, p23']; rfl) ?_
      refine tops_frz 32 ?_
      replace h1 := bnd h1; obtain ⟨_, p24, h1⟩ := h1
      replace p24 := ck_some p24
      have p24' := p24; try simp at p24'
      refine ko [3, 4, 5, 6] 3 (by simp [p24, p24']; rfl) ?_
      refine tops_nil ?_
      refine lr (by simp; rfl) ?_
      exact ⟨_, hg1 _ (Option.some.inj h1), wk (by simp [weak_iff])⟩
    · rw [if_neg (by rw [c10]; decide)] at h1
      refine tr_exit ?_
      exact ⟨_, he1 _ (Option.some.inj h1), wk (by simp [weak_iff])⟩
set_option maxHeartbeats 1000000 in
theorem law15_HistoryGrows_ok {a0 : List Int} {a1 : Int} {r : Bool} (h0 : law15_HistoryGrows a0 a1 = some r) : FnOK Try.prog 5 [] [.d (.slice (rowsF (iRow .i64) a0)), .d (.int .i64 a1)] (.d (.bool r)) [] := by
  unfold law15_HistoryGrows at h0
  refine fn_ok (nt := 113) (rs := [.tmp 4]) Try.func5 rfl Try.ntmps5 rfl (by simp) (by decide) rfl fun K => ?_
  refine kr [0, 1] (by simp; rfl) ?_
  refine kr [1, 5] (by simp; rfl) ?_
  refine kc ?_
  refine ko [1, 23] 1 (by simp; rfl) ?_
  replace h0 := bnd h0; obtain ⟨y1, hy1, h0⟩ := h0
  refine kcall [1, 24] [22] (make_Repository_ok hy1) rfl rfl rfl Try.call8 (by simp) (by simp; rfl) ?_
  refine ko [1, 6] 2 (by simp; rfl) ?_
  refine tops_nil ?_
  refine kr [6, 7] (by simp; rfl) ?_
  refine kd [[], [], [0, 1], [], [], [3, 4], [2], [5]] [] [] none [] 8 fol (by decide +kernel) (by simp) ?_
  refine dr_go 0 2 rfl (by simp (maxSteps := 1000000); rfl) ?_
  replace h0 := bnd h0; obtain ⟨y2, hy2, h0⟩ := h0
  refine dr_call 2 [] (history_Reachable_ok hy2) rfl rfl rfl rfl rfl Try.call14 (by simp) ?_
  refine dr_go 3 2 rfl (by simp (maxSteps := 1000000); rfl) ?_
  replace h0 := bnd h0; obtain ⟨y3, hy3, h0⟩ := h0
  refine dr_call 5 [] (history_Lost_ok hy3) rfl rfl rfl rfl rfl Try.call15 (by simp) ?_
  refine dr_go 6 2 rfl (by simp (maxSteps := 1000000); rfl) ?_
  refine dr_end rfl (tops_nil ?_)
  refine kr [6, 7, 8, 9, 10] (by simp; rfl) ?_
  refine tr_seq ?_
  refine kc ?_
  refine ko [6, 7, 8, 9, 10, 34] 1 (by simp; rfl) ?_
  replace h0 := bnd h0; obtain ⟨y4, hy4, h0⟩ := h0
  refine kcall [6, 7, 8, 9, 10, 35] [] (history_Ever_ok hy4) rfl rfl rfl Try.call11 (by simp) (by simp; rfl) ?_
  refine ko [6, 7, 8, 9, 10, 35, 36, 37] 2 (by simp; rfl) ?_
  refine tops_nil ?_
  replace h0 := bnd h0; obtain ⟨e1, hI1, h0⟩ := h0
  refine tjv (fun v5 : (List (Int × Bool)) => ({ nt := 113, env := [(6, .ptr 6 0), (7, .d (.int .i64 (bAnd .i64 a1 31))), (8, .d (.slice (rowsF (iRow .i64) y2))), (9, .d (.slice (rowsF (iRow .i64) y3))), (10, .vec 33)], box := [(6, [.d (.slice (rowsF api_Object_row y1.1.Objects)), .d (.slice (rowsF api_RefEvent_row y1.1.Events))])], vec := [(33, ⟨mTag 49 1 false false, 2, rowsF (mRow (iRow .i64) bRow) v5⟩)] } : St)) (fun v5 => v5 = e1) (fun v5 hI1e _ W1 => ?_) ?_
  · subst hI1e
    refine tr_wk W1 ?_
    refine kr [6, 7, 8, 9, 10, 13] (by simp; rfl) ?_
    refine tr_seq ?_
    refine kr [6, 7, 8, 9, 10, 13, 14] (by simp; rfl) ?_
    replace h0 := bnd h0; obtain ⟨e2, hI2, h0⟩ := h0
    refine tjv (fun v6 : Int => ({ nt := 113, env := [(8, .d (.slice (rowsF (iRow .i64) y2))), (9, .d (.slice (rowsF (iRow .i64) y3))), (10, .vec 33), (13, .d (.int .i64 v6))], box := [], vec := [(33, ⟨mTag 49 1 false false, 2, rowsF (mRow (iRow .i64) bRow) v5⟩)] } : St)) (fun v6 => .inl v6 = e2) (fun v6 hI2e _ W2 => ?_) ?_
    · subst hI2e
      dsimp only at h0
      refine tr_wk W2 ?_
      refine kr [8, 9, 10, 13, 17] (by simp; rfl) ?_
      refine tr_seq ?_
      replace h0 := bnd h0; obtain ⟨_, p11, h0⟩ := h0
      replace p11 := ck_some p11
      have p11' := p11; try simp at p11'
      replace h0 := bnd h0; obtain ⟨_, p12, h0⟩ := h0
      replace p12 := ck_some p12
      have p12' := p12; try simp at p12'
      refine kr [8, 9, 10, 13, 17, 85, 86, 87] (by simp [p11, p12, p11', p12']; rfl) ?_
      replace h0 := bnd h0; obtain ⟨l7, hl7, h0⟩ := h0
      replace hl7 := Option.some.inj hl7
      replace h0 := bnd h0; obtain ⟨e3, hI3, h0⟩ := h0
      refine tjv (fun v8 : Unit => ({ nt := 113, env := [(8, .d (.slice (rowsF (iRow .i64) y2))), (9, .d (.slice (rowsF (iRow .i64) y3))), (13, .d (.int .i64 v6))], box := [], vec := [] } : St)) (fun v8 => .inl v8 = e3) (fun v8 hI3e _ W3 => ?_) ?_
      · subst hI3e
        dsimp only at h0
        refine tr_wk W3 ?_
        replace h0 := bnd h0; obtain ⟨v9, hvv9, h0⟩ := h0
        refine sjv (fun v9_ : Bool => ({ nt := 113, env := [(4, .d (.bool v9_))], box := [], vec := [] } : St)) (fun v9_ => v9 = v9_) (fun v9_ e => ?_) ?_
        · subst e
          cases h0
          exact tr_ret ⟨[], by simp, rfl, by simp⟩
        · refine kc1 ?_
          refine ko [110] 8 (by simp; rfl) ?_
          refine tops_split 110 (v6 == (IntKind.i64.wrap (((y2).length : Int) + ((y3).length : Int)))) (by simp) (fun c19 => ?_) (fun c19 => ?_)
          · rw [if_pos c19] at hvv9
            replace hvv9 := bnd hvv9; obtain ⟨y10, hy10, hvv9⟩ := hvv9
            refine kcall [110, 111] [] (law15_awake_ok hy10) rfl rfl rfl Try.call13 (by simp) (by simp; rfl) ?_
            refine ko [4] 2 (by simp; rfl) ?_
            refine tops_nil ?_
            cases hvv9
            exact ⟨_, rfl, wk (by simp [weak_iff])⟩
          · rw [if_neg (by rw [c19]; decide)] at hvv9
            refine ko [4] 3 (by simp; rfl) ?_
            refine tops_nil ?_
            cases hvv9
            exact ⟨_, rfl, wk (by simp [weak_iff])⟩
      · refine tr_block (tr_iter (fun s11 : Int × (List (Int × Bool)) => ({ nt := 113, env := [(8, .d (.slice (rowsF (iRow .i64) y2))), (9, .d (.slice (rowsF (iRow .i64) y3))), (10, .vec 33), (13, .d (.int .i64 v6)), (17, .vec 80), (85, .vec 85), (86, .d (.int .i64 (((y2 ++ y3)).length : Int))), (87, .d (.int .i64 s11.1))], box := [], vec := [(33, ⟨mTag 49 1 false false, 2, rowsF (mRow (iRow .i64) bRow) v5⟩), (80, ⟨mTag 49 1 false false, 2, rowsF (mRow (iRow .i64) bRow) s11.2⟩), (85, ⟨3, 1, rowsF (iRow .i64) l7⟩)] } : St)) hI3 (wk (by subst hl7; simp [weak_iff])) fun G3 s11 o3 h3 hg3 he3 => ?_)
        unfold law15_HistoryGrows_l2 at h3
        refine kr [8, 9, 10, 13, 17, 85, 86, 87, 88] (by simp; rfl) ?_
        refine tr_seq ?_
        refine tr_cond (b := (decide (s11.1 < (((y2 ++ y3)).length : Int)))) (by simp) (fun c20 => ?_) (fun c20 => ?_)
        · rw [if_pos c20] at h3
          refine tr_skip ?_
          refine tr_seq ?_
          refine tr_block ?_
          replace h3 := bnd h3; obtain ⟨_, p17, h3⟩ := h3
          replace p17 := ck_some p17
          have p17' := p17; try simp at p17'
          have p17o : s11.1 < (((l7)).length : Int) := by omega
          replace h3 := bnd h3; obtain ⟨x12, p18, h3⟩ := h3
          replace p18 := idx_some p18
          have p18' := p18; try simp at p18'
          refine kr [8, 9, 10, 13, 17, 19, 85, 86, 87] (by simp [-getElem?_pos, List.getElem?_cons_zero, List.getElem?_cons_succ, p17, p17o, p18, p17', p18']; rfl) ?_
          refine tr_seq ?_
          replace h3 := bnd h3; obtain ⟨v13, hvv13, h3⟩ := h3
          refine sjv (fun v13_ : Bool => ({ nt := 113, env := [(8, .d (.slice (rowsF (iRow .i64) y2))), (9, .d (.slice (rowsF (iRow .i64) y3))), (10, .vec 33), (13, .d (.int .i64 v6)), (17, .vec 80), (19, .d (.int .i64 x12)), (85, .vec 85), (86, .d (.int .i64 (((y2 ++ y3)).length : Int))), (87, .d (.int .i64 s11.1)), (99, .d (.bool v13_))], box := [], vec := [(33, ⟨mTag 49 1 false false, 2, rowsF (mRow (iRow .i64) bRow) v5⟩), (80, ⟨mTag 49 1 false false, 2, rowsF (mRow (iRow .i64) bRow) s11.2⟩), (85, ⟨3, 1, rowsF (iRow .i64) l7⟩)] } : St)) (fun v13_ => v13 = v13_) (fun v13_ e => ?_) ?_
          · subst e
            refine tr_cond (b := v13) (by simp) (fun c23 => ?_) (fun c23 => ?_)
            · rw [if_pos c23] at h3
              refine kr [4] (by simp; rfl) ?_
              have k1 := he3 _ (Option.some.inj h3)
              subst k1
              dsimp only at h0
              cases h0
              exact tr_ret ⟨[], by simp, rfl, by simp⟩
            · rw [if_neg (by rw [c23]; decide)] at h3
              refine tr_skip ?_
              refine lr (by simp; rfl) ?_
              refine lr (by simp; rfl) ?_
              exact ⟨_, hg3 _ (Option.some.inj h3), wk (by simp [weak_iff])⟩
          · refine kc1 ?_
            refine ko [8, 9, 10, 13, 17, 19, 85, 86, 87, 94] 4 (by simp; rfl) ?_
            refine tops_split 94 ((mget inE s11.2 x12).getD false) (by simp) (fun c24 => ?_) (fun c24 => ?_)
            · rw [c24] at hvv13
              refine kskip 4 [] (by kernel_rfl) ?_
              refine ko [8, 9, 10, 13, 17, 19, 85, 86, 87, 99] 1 (by simp; rfl) ?_
              refine tops_nil ?_
              cases hvv13
              exact ⟨_, rfl, wk (by simp [weak_iff])⟩
            · rw [c24] at hvv13
              refine ko [8, 9, 10, 13, 17, 19, 85, 86, 87, 95, 96, 97, 98, 99] 5 (by simp; rfl) ?_
              refine tops_nil ?_
              cases hvv13
              exact ⟨_, rfl, wk (by simp [weak_iff])⟩
        · rw [if_neg (by rw [c20]; decide)] at h3
          refine tr_exit ?_
          exact ⟨_, he3 _ (Option.some.inj h3), wk (by simp [weak_iff])⟩
    · refine tr_block (tr_iter (fun s16 : Int × Int => ({ nt := 113, env := [(6, .ptr 6 0), (7, .d (.int .i64 (bAnd .i64 a1 31))), (8, .d (.slice (rowsF (iRow .i64) y2))), (9, .d (.slice (rowsF (iRow .i64) y3))), (10, .vec 33), (13, .d (.int .i64 s16.1)), (14, .d (.int .i64 s16.2))], box := [(6, [.d (.slice (rowsF api_Object_row y1.1.Objects)), .d (.slice (rowsF api_RefEvent_row y1.1.Events))])], vec := [(33, ⟨mTag 49 1 false false, 2, rowsF (mRow (iRow .i64) bRow) v5⟩)] } : St)) hI2 (wk (by simp [weak_iff])) fun G3 s16 o3 h3 hg3 he3 => ?_)
      unfold law15_HistoryGrows_l1 at h3
      refine tr_seq ?_
      refine kr [6, 7, 8, 9, 10, 13, 14, 48] (by simp; rfl) ?_
      refine tr_cond (b := (decide (s16.2 < ((y1.1.Objects).length : Int)))) (by simp) (fun c25 => ?_) (fun c25 => ?_)
      · rw [if_pos c25] at h3
        refine tr_skip ?_
        refine tr_seq ?_
        refine tr_block ?_
        refine kd [[], [], [1], [], [2, 3], [4], [5], [0, 6], [7], [8], [8], [9], [10]] [] [] none [] 13 fol (by decide +kernel) (by simp) ?_
        replace h3 := bnd h3; obtain ⟨x17, p21, h3⟩ := h3
        replace p21 := idx_some p21
        have p21' := p21; try simp at p21'
        refine dr_go 0 2 rfl (by simp (maxSteps := 1000000) [p21, p21']; rfl) ?_
        refine dr_go 2 2 rfl (by simp (maxSteps := 1000000) [p21, p21']; rfl) ?_
        refine dr_go 4 2 rfl (by simp (maxSteps := 1000000) [p21, p21']; rfl) ?_
        refine dr_go 6 1 rfl (by simp (maxSteps := 1000000) [p21, p21']; rfl) ?_
        replace h3 := bnd h3; obtain ⟨y18, hy18, h3⟩ := h3
        refine dr_call 7 [] (history_Since_ok hy18) rfl rfl rfl rfl rfl Try.call10 (by simp) ?_
        refine dr_go 8 2 rfl (by simp (maxSteps := 1000000); rfl) ?_
        refine dr_go 10 2 rfl (by simp (maxSteps := 1000000); rfl) ?_
        refine dr_go 12 1 rfl (by simp (maxSteps := 1000000); rfl) ?_
        refine dr_end rfl (tops_nil ?_)
        refine tr_seq ?_
        refine kr [6, 7, 8, 9, 10, 13, 14, 15, 16, 71] (by simp [p21, p21']; rfl) ?_
        refine tr_cond (b := (y18.2 != ((mget inE v5 x17.ID).getD false))) (by simp) (fun c26 => ?_) (fun c26 => ?_)
        · rw [if_pos c26] at h3
          refine kr [4] (by simp; rfl) ?_
          have k1 := he3 _ (Option.some.inj h3)
          subst k1
          dsimp only at h0
          cases h0
          exact tr_ret ⟨[], by simp, rfl, by simp⟩
        · rw [if_neg (by rw [c26]; decide)] at h3
          refine tr_skip ?_
          replace h3 := bnd h3; obtain ⟨v19, hvv19, h3⟩ := h3
          refine sjv (fun v19_ : Bool => ({ nt := 113, env := [(6, .ptr 6 0), (7, .d (.int .i64 (bAnd .i64 a1 31))), (8, .d (.slice (rowsF (iRow .i64) y2))), (9, .d (.slice (rowsF (iRow .i64) y3))), (10, .vec 33), (13, .d (.int .i64 s16.1)), (14, .d (.int .i64 s16.2)), (77, .d (.bool v19_))], box := [(6, [.d (.slice (rowsF api_Object_row y1.1.Objects)), .d (.slice (rowsF api_RefEvent_row y1.1.Events))])], vec := [(33, ⟨mTag 49 1 false false, 2, rowsF (mRow (iRow .i64) bRow) v5⟩)] } : St)) (fun v19_ => v19 = v19_) (fun v19_ e => ?_) ?_
          · subst e
            refine tr_cond (b := v19) (by simp) (fun c29 => ?_) (fun c29 => ?_)
            · rw [if_pos c29] at h3
              refine lr (by simp; rfl) ?_
              refine lr (by simp; rfl) ?_
              exact ⟨_, hg3 _ (Option.some.inj h3), wk (by simp [weak_iff])⟩
            · rw [if_neg (by rw [c29]; decide)] at h3
              refine tr_skip ?_
              refine lr (by simp; rfl) ?_
              exact ⟨_, hg3 _ (Option.some.inj h3), wk (by simp [weak_iff])⟩
          · refine kc1 ?_
            refine ko [6, 7, 8, 9, 10, 13, 14, 15, 73] 2 (by simp; rfl) ?_
            refine tops_split 73 y18.2 (by simp) (fun c30 => ?_) (fun c30 => ?_)
            · rw [c30] at hvv19
              refine ko [6, 7, 8, 9, 10, 13, 14, 74, 75, 76, 77] 4 (by simp; rfl) ?_
              refine tops_nil ?_
              cases hvv19
              exact ⟨_, rfl, wk (by simp [weak_iff])⟩
            · rw [c30] at hvv19
              refine kskip 3 [] (by kernel_rfl) ?_
              refine ko [6, 7, 8, 9, 10, 13, 14, 77] 1 (by simp; rfl) ?_
              refine tops_nil ?_
              cases hvv19
              exact ⟨_, rfl, wk (by simp [weak_iff])⟩
      · rw [if_neg (by rw [c25]; decide)] at h3
        refine tr_exit ?_
        exact ⟨_, he3 _ (Option.some.inj h3), wk (by simp [weak_iff])⟩
  · refine tr_block (tr_iter (fun s22 : Int × (List (Int × Bool)) => ({ nt := 113, env := [(6, .ptr 6 0), (7, .d (.int .i64 (bAnd .i64 a1 31))), (8, .d (.slice (rowsF (iRow .i64) y2))), (9, .d (.slice (rowsF (iRow .i64) y3))), (10, .vec 33), (35, .d (.slice (rowsF (iRow .i64) y4))), (36, .d (.int .i64 ((y4).length : Int))), (37, .d (.int .i64 s22.1))], box := [(6, [.d (.slice (rowsF api_Object_row y1.1.Objects)), .d (.slice (rowsF api_RefEvent_row y1.1.Events))])], vec := [(33, ⟨mTag 49 1 false false, 2, rowsF (mRow (iRow .i64) bRow) s22.2⟩)] } : St)) hI1 (wk (by simp [weak_iff])) fun G3 s22 o3 h3 hg3 he3 => ?_)
    unfold law15_HistoryGrows_l0 at h3
    refine kr [6, 7, 8, 9, 10, 35, 36, 37, 38] (by simp; rfl) ?_
    refine tr_seq ?_
    refine tr_cond (b := (decide (s22.1 < ((y4).length : Int)))) (by simp) (fun c31 => ?_) (fun c31 => ?_)
    · rw [if_pos c31] at h3
      refine tr_skip ?_
      refine tr_seq ?_
      refine tr_block ?_
      replace h3 := bnd h3; obtain ⟨x23, p22, h3⟩ := h3
      replace p22 := idx_some p22
      have p22' := p22; try simp at p22'
      refine kr [6, 7, 8, 9, 10, 12, 35, 36, 37] (by simp [p22, p22']; rfl) ?_
      refine lr (by simp; rfl) ?_
      refine lr (by simp; rfl) ?_
      exact ⟨_, hg3 _ (Option.some.inj h3), wk (by simp [weak_iff])⟩
    · rw [if_neg (by rw [c31]; decide)] at h3
      refine tr_exit ?_
      exact ⟨_, he3 _ (Option.some.inj h3), wk (by simp [weak_iff])⟩
set_option maxHeartbeats 1000000 in
theorem law15_HistoryClosed_ok {a0 : List Int} {a1 : Int} {r : Bool} (h0 : law15_HistoryClosed a0 a1 = some r) : FnOK Try.prog 6 [] [.d (.slice (rowsF (iRow .i64) a0)), .d (.int .i64 a1)] (.d (.bool r)) [] := by
  unfold law15_HistoryClosed at h0
  refine fn_ok (nt := 105) (rs := [.tmp 4]) Try.func6 rfl Try.ntmps6 rfl (by simp) (by decide) rfl fun K => ?_
  refine kr [0, 1] (by simp; rfl) ?_
  refine kr [1, 5] (by simp; rfl) ?_
  refine kc ?_
  refine ko [1, 22] 1 (by simp; rfl) ?_
  replace h0 := bnd h0; obtain ⟨y1, hy1, h0⟩ := h0
  refine kcall [1, 23] [21] (make_Repository_ok hy1) rfl rfl rfl Try.call8 (by simp) (by simp; rfl) ?_
  refine ko [1, 6] 2 (by simp; rfl) ?_
  refine tops_nil ?_
  refine kr [6, 7] (by simp; rfl) ?_
  refine kr [6, 7, 8] (by simp; rfl) ?_
  refine tr_seq ?_
  refine kc ?_
  refine ko [6, 7, 8, 27, 28] 2 (by simp; rfl) ?_
  replace h0 := bnd h0; obtain ⟨y2, hy2, h0⟩ := h0
  refine kcall [6, 7, 8, 29] [] (history_Reachable_ok hy2) rfl rfl rfl Try.call14 (by simp) (by simp; rfl) ?_
  refine ko [6, 7, 8, 29, 30, 31] 2 (by simp; rfl) ?_
  refine tops_nil ?_
  replace h0 := bnd h0; obtain ⟨e1, hI1, h0⟩ := h0
  refine tjv (fun v3 : (List (Int × Bool)) => ({ nt := 105, env := [(6, .ptr 6 0), (7, .d (.int .i64 (bAnd .i64 a1 31))), (8, .vec 26)], box := [(6, [.d (.slice (rowsF api_Object_row y1.1.Objects)), .d (.slice (rowsF api_RefEvent_row y1.1.Events))])], vec := [(26, ⟨mTag 49 1 false false, 2, rowsF (mRow (iRow .i64) bRow) v3⟩)] } : St)) (fun v3 => v3 = e1) (fun v3 hI1e _ W1 => ?_) ?_
  · subst hI1e
    refine tr_wk W1 ?_
    refine tr_seq ?_
    refine kc ?_
    refine ko [6, 8, 38, 39] 2 (by simp; rfl) ?_
    replace h0 := bnd h0; obtain ⟨y4, hy4, h0⟩ := h0
    refine kcall [6, 8, 40] [] (history_Refs_ok hy4) rfl rfl rfl Try.call16 (by simp) (by simp; rfl) ?_
    refine ko [6, 8, 40, 41, 42] 2 (by simp; rfl) ?_
    refine tops_nil ?_
    replace h0 := bnd h0; obtain ⟨e2, hI2, h0⟩ := h0
    refine tjv (fun v5 : Unit => ({ nt := 105, env := [(6, .ptr 6 0), (8, .vec 26)], box := [(6, [.d (.slice (rowsF api_Object_row y1.1.Objects)), .d (.slice (rowsF api_RefEvent_row y1.1.Events))])], vec := [(26, ⟨mTag 49 1 false false, 2, rowsF (mRow (iRow .i64) bRow) v3⟩)] } : St)) (fun v5 => .inl v5 = e2) (fun v5 hI2e _ W2 => ?_) ?_
    · subst hI2e
      dsimp only at h0
      refine tr_wk W2 ?_
      refine tr_seq ?_
      refine kr [6, 8, 13] (by simp; rfl) ?_
      replace h0 := bnd h0; obtain ⟨e3, hI3, h0⟩ := h0
      refine tjv (fun v6 : Unit => ({ nt := 105, env := [], box := [], vec := [] } : St)) (fun v6 => .inl v6 = e3) (fun v6 hI3e _ W3 => ?_) ?_
      · subst hI3e
        dsimp only at h0
        refine tr_wk W3 ?_
        refine kc ?_
        replace h0 := bnd h0; obtain ⟨y7, hy7, h0⟩ := h0
        refine kcall [104] [] (law15_awake_ok hy7) rfl rfl rfl Try.call13 (by simp) (by simp; rfl) ?_
        refine ko [4] 1 (by simp; rfl) ?_
        refine tops_nil ?_
        cases h0
        exact tr_ret ⟨[], by simp, rfl, by simp⟩
      · refine tr_block (tr_iter (fun s8 : Int => ({ nt := 105, env := [(6, .ptr 6 0), (8, .vec 26), (13, .d (.int .i64 s8))], box := [(6, [.d (.slice (rowsF api_Object_row y1.1.Objects)), .d (.slice (rowsF api_RefEvent_row y1.1.Events))])], vec := [(26, ⟨mTag 49 1 false false, 2, rowsF (mRow (iRow .i64) bRow) v3⟩)] } : St)) hI3 (wk (by simp [weak_iff])) fun G3 s8 o3 h3 hg3 he3 => ?_)
        unfold law15_HistoryClosed_l2 at h3
        refine tr_seq ?_
        refine kr [6, 8, 13, 56] (by simp; rfl) ?_
        refine tr_cond (b := (decide (s8 < ((y1.1.Objects).length : Int)))) (by simp) (fun c31 => ?_) (fun c31 => ?_)
        · rw [if_pos c31] at h3
          refine tr_skip ?_
          refine tr_seq ?_
          refine tr_block ?_
          replace h3 := bnd h3; obtain ⟨x9, p15, h3⟩ := h3
          replace p15 := idx_some p15
          have p15' := p15; try simp at p15'
          refine kr [6, 8, 13, 14] (by simp [p15, p15']; rfl) ?_
          refine tr_seq ?_
          refine kr [6, 8, 13, 14, 68] (by simp; rfl) ?_
          refine tr_cond (b := (!((mget inE v3 x9.ID).getD false))) (by simp) (fun c32 => ?_) (fun c32 => ?_)
          · rw [if_pos c32] at h3
            refine tr_exit ?_
            refine lr (by simp; rfl) ?_
            exact ⟨_, hg3 _ (Option.some.inj h3), wk (by simp [weak_iff])⟩
          · rw [if_neg (by rw [c32]; decide)] at h3
            refine tr_skip ?_
            refine tr_seq ?_
            replace h3 := bnd h3; obtain ⟨v10, hvv10, h3⟩ := h3
            refine sjv (fun v10_ : Bool => ({ nt := 105, env := [(6, .ptr 6 0), (8, .vec 26), (13, .d (.int .i64 s8)), (14, .ptr 14 0), (78, .d (.bool v10_))], box := [(6, [.d (.slice (rowsF api_Object_row y1.1.Objects)), .d (.slice (rowsF api_RefEvent_row y1.1.Events))]), (14, [.d (.int .i64 x9.ID), .d (.int .i64 x9.Kind), .d (.slice (rowsF (iRow .u8) x9.Data)), .d (.slice (rowsF api_Item_row x9.Items)), .d (.int .i64 x9.Tree), .d (.slice (rowsF (iRow .i64) x9.Parents)), .d (.str x9.Author), .d (.int .i64 x9.Time)])], vec := [(26, ⟨mTag 49 1 false false, 2, rowsF (mRow (iRow .i64) bRow) v3⟩)] } : St)) (fun v10_ => v10 = v10_) (fun v10_ e => ?_) ?_
            · subst e
              refine tr_cond (b := v10) (by simp) (fun c35 => ?_) (fun c35 => ?_)
              · rw [if_pos c35] at h3
                refine kr [4] (by simp; rfl) ?_
                have k1 := he3 _ (Option.some.inj h3)
                subst k1
                dsimp only at h0
                cases h0
                exact tr_ret ⟨[], by simp, rfl, by simp⟩
              · rw [if_neg (by rw [c35]; decide)] at h3
                refine tr_skip ?_
                refine tr_seq ?_
                refine kr [6, 8, 13, 14, 80, 81, 82] (by simp; rfl) ?_
                replace h3 := bnd h3; obtain ⟨e4, hI4, h3⟩ := h3
                refine tjv (fun v11 : Unit => ({ nt := 105, env := [(6, .ptr 6 0), (8, .vec 26), (13, .d (.int .i64 s8)), (14, .ptr 14 0)], box := [(6, [.d (.slice (rowsF api_Object_row y1.1.Objects)), .d (.slice (rowsF api_RefEvent_row y1.1.Events))]), (14, [.d (.int .i64 x9.ID), .d (.int .i64 x9.Kind), .d (.slice (rowsF (iRow .u8) x9.Data)), .d (.slice (rowsF api_Item_row x9.Items)), .d (.int .i64 x9.Tree), .d (.slice (rowsF (iRow .i64) x9.Parents)), .d (.str x9.Author), .d (.int .i64 x9.Time)])], vec := [(26, ⟨mTag 49 1 false false, 2, rowsF (mRow (iRow .i64) bRow) v3⟩)] } : St)) (fun v11 => .inl v11 = e4) (fun v11 hI4e _ W4 => ?_) ?_
                · subst hI4e
                  dsimp only at h3
                  refine tr_wk W4 ?_
                  refine kr [6, 8, 13, 92, 93, 94] (by simp; rfl) ?_
                  replace h3 := bnd h3; obtain ⟨e5, hI5, h3⟩ := h3
                  refine tjv (fun v12 : Unit => ({ nt := 105, env := [(6, .ptr 6 0), (8, .vec 26), (13, .d (.int .i64 s8))], box := [(6, [.d (.slice (rowsF api_Object_row y1.1.Objects)), .d (.slice (rowsF api_RefEvent_row y1.1.Events))])], vec := [(26, ⟨mTag 49 1 false false, 2, rowsF (mRow (iRow .i64) bRow) v3⟩)] } : St)) (fun v12 => .inl v12 = e5) (fun v12 hI5e _ W5 => ?_) ?_
                  · subst hI5e
                    dsimp only at h3
                    refine tr_wk W5 ?_
                    refine lr (by simp; rfl) ?_
                    exact ⟨_, hg3 _ (Option.some.inj h3), wk (by simp [weak_iff])⟩
                  · refine tr_block (tr_iter (fun s13 : Int => ({ nt := 105, env := [(6, .ptr 6 0), (8, .vec 26), (13, .d (.int .i64 s8)), (92, .d (.slice (rowsF api_Item_row x9.Items))), (93, .d (.int .i64 ((x9.Items).length : Int))), (94, .d (.int .i64 s13))], box := [(6, [.d (.slice (rowsF api_Object_row y1.1.Objects)), .d (.slice (rowsF api_RefEvent_row y1.1.Events))])], vec := [(26, ⟨mTag 49 1 false false, 2, rowsF (mRow (iRow .i64) bRow) v3⟩)] } : St)) hI5 (wk (by simp [weak_iff])) fun G5 s13 o5 h5 hg5 he5 => ?_)
                    unfold law15_HistoryClosed_l4 at h5
                    refine kr [6, 8, 13, 92, 93, 94, 95] (by simp; rfl) ?_
                    refine tr_seq ?_
                    refine tr_cond (b := (decide (s13 < ((x9.Items).length : Int)))) (by simp) (fun c44 => ?_) (fun c44 => ?_)
                    · rw [if_pos c44] at h5
                      refine tr_skip ?_
                      refine tr_seq ?_
                      refine tr_block ?_
                      replace h5 := bnd h5; obtain ⟨x14, p20, h5⟩ := h5
                      replace p20 := idx_some p20
                      have p20' := p20; try simp at p20'
                      refine kr [6, 8, 13, 18, 92, 93, 94] (by simp [p20, p20']; rfl) ?_
                      refine kr [6, 8, 13, 92, 93, 94, 102] (by simp; rfl) ?_
                      refine tr_cond (b := (!((mget inE v3 x14.ID).getD false))) (by simp) (fun c45 => ?_) (fun c45 => ?_)
                      · rw [if_pos c45] at h5
                        refine kr [4] (by simp; rfl) ?_
                        have k2 := he5 _ (Option.some.inj h5)
                        subst k2
                        dsimp only at h3
                        have k1 := he3 _ (Option.some.inj h3)
                        subst k1
                        dsimp only at h0
                        cases h0
                        exact tr_ret ⟨[], by simp, rfl, by simp⟩
                      · rw [if_neg (by rw [c45]; decide)] at h5
                        refine tr_skip ?_
                        refine lr (by simp; rfl) ?_
                        exact ⟨_, hg5 _ (Option.some.inj h5), wk (by simp [weak_iff])⟩
                    · rw [if_neg (by rw [c44]; decide)] at h5
                      refine tr_exit ?_
                      exact ⟨_, he5 _ (Option.some.inj h5), wk (by simp [weak_iff])⟩
                · refine tr_block (tr_iter (fun s17 : Int => ({ nt := 105, env := [(6, .ptr 6 0), (8, .vec 26), (13, .d (.int .i64 s8)), (14, .ptr 14 0), (80, .d (.slice (rowsF (iRow .i64) x9.Parents))), (81, .d (.int .i64 ((x9.Parents).length : Int))), (82, .d (.int .i64 s17))], box := [(6, [.d (.slice (rowsF api_Object_row y1.1.Objects)), .d (.slice (rowsF api_RefEvent_row y1.1.Events))]), (14, [.d (.int .i64 x9.ID), .d (.int .i64 x9.Kind), .d (.slice (rowsF (iRow .u8) x9.Data)), .d (.slice (rowsF api_Item_row x9.Items)), .d (.int .i64 x9.Tree), .d (.slice (rowsF (iRow .i64) x9.Parents)), .d (.str x9.Author), .d (.int .i64 x9.Time)])], vec := [(26, ⟨mTag 49 1 false false, 2, rowsF (mRow (iRow .i64) bRow) v3⟩)] } : St)) hI4 (wk (by simp [weak_iff])) fun G5 s17 o5 h5 hg5 he5 => ?_)
                  unfold law15_HistoryClosed_l3 at h5
                  refine kr [6, 8, 13, 14, 80, 81, 82, 83] (by simp; rfl) ?_
                  refine tr_seq ?_
                  refine tr_cond (b := (decide (s17 < ((x9.Parents).length : Int)))) (by simp) (fun c46 => ?_) (fun c46 => ?_)
                  · rw [if_pos c46] at h5
                    refine tr_skip ?_
                    refine tr_seq ?_
                    refine tr_block ?_
                    replace h5 := bnd h5; obtain ⟨x18, p21, h5⟩ := h5
                    replace p21 := idx_some p21
                    have p21' := p21; try simp at p21'
                    refine kr [6, 8, 13, 14, 16, 80, 81, 82] (by simp [p21, p21']; rfl) ?_
                    refine kr [6, 8, 13, 14, 80, 81, 82, 89] (by simp; rfl) ?_
                    refine tr_cond (b := (!((mget inE v3 x18).getD false))) (by simp) (fun c47 => ?_) (fun c47 => ?_)
                    · rw [if_pos c47] at h5
                      refine kr [4] (by simp; rfl) ?_
                      have k2 := he5 _ (Option.some.inj h5)
                      subst k2
                      dsimp only at h3
                      have k1 := he3 _ (Option.some.inj h3)
                      subst k1
                      dsimp only at h0
                      cases h0
                      exact tr_ret ⟨[], by simp, rfl, by simp⟩
                    · rw [if_neg (by rw [c47]; decide)] at h5
                      refine tr_skip ?_
                      refine lr (by simp; rfl) ?_
                      exact ⟨_, hg5 _ (Option.some.inj h5), wk (by simp [weak_iff])⟩
                  · rw [if_neg (by rw [c46]; decide)] at h5
                    refine tr_exit ?_
                    exact ⟨_, he5 _ (Option.some.inj h5), wk (by simp [weak_iff])⟩
            · refine kc1 ?_
              refine ko [6, 8, 13, 14, 72] 4 (by simp; rfl) ?_
              refine tops_split 72 (x9.Kind == 3) (by simp) (fun c48 => ?_) (fun c48 => ?_)
              · rw [c48] at hvv10
                refine ko [6, 8, 13, 14, 73, 74, 75, 76, 77, 78] 6 (by simp; rfl) ?_
                refine tops_nil ?_
                cases hvv10
                exact ⟨_, rfl, wk (by simp [weak_iff])⟩
              · rw [c48] at hvv10
                refine kskip 5 [] (by kernel_rfl) ?_
                refine ko [6, 8, 13, 14, 78] 1 (by simp; rfl) ?_
                refine tops_nil ?_
                cases hvv10
                exact ⟨_, rfl, wk (by simp [weak_iff])⟩
        · rw [if_neg (by rw [c31]; decide)] at h3
          refine tr_exit ?_
          exact ⟨_, he3 _ (Option.some.inj h3), wk (by simp [weak_iff])⟩
    · refine tr_block (tr_iter (fun s23 : Int => ({ nt := 105, env := [(6, .ptr 6 0), (8, .vec 26), (40, .d (.slice (rowsF api_Item_row y4))), (41, .d (.int .i64 ((y4).length : Int))), (42, .d (.int .i64 s23))], box := [(6, [.d (.slice (rowsF api_Object_row y1.1.Objects)), .d (.slice (rowsF api_RefEvent_row y1.1.Events))])], vec := [(26, ⟨mTag 49 1 false false, 2, rowsF (mRow (iRow .i64) bRow) v3⟩)] } : St)) hI2 (wk (by simp [weak_iff])) fun G5 s23 o5 h5 hg5 he5 => ?_)
      unfold law15_HistoryClosed_l1 at h5
      refine kr [6, 8, 40, 41, 42, 43] (by simp; rfl) ?_
      refine tr_seq ?_
      refine tr_cond (b := (decide (s23 < ((y4).length : Int)))) (by simp) (fun c49 => ?_) (fun c49 => ?_)
      · rw [if_pos c49] at h5
        refine tr_skip ?_
        refine tr_seq ?_
        refine tr_block ?_
        replace h5 := bnd h5; obtain ⟨x24, p22, h5⟩ := h5
        replace p22 := idx_some p22
        have p22' := p22; try simp at p22'
        refine kr [6, 8, 12, 40, 41, 42] (by simp [p22, p22']; rfl) ?_
        refine kr [6, 8, 40, 41, 42, 50] (by simp; rfl) ?_
        refine tr_cond (b := (!((mget inE v3 x24.ID).getD false))) (by simp) (fun c50 => ?_) (fun c50 => ?_)
        · rw [if_pos c50] at h5
          refine kr [4] (by simp; rfl) ?_
          have k1 := he5 _ (Option.some.inj h5)
          subst k1
          dsimp only at h0
          cases h0
          exact tr_ret ⟨[], by simp, rfl, by simp⟩
        · rw [if_neg (by rw [c50]; decide)] at h5
          refine tr_skip ?_
          refine lr (by simp; rfl) ?_
          exact ⟨_, hg5 _ (Option.some.inj h5), wk (by simp [weak_iff])⟩
      · rw [if_neg (by rw [c49]; decide)] at h5
        refine tr_exit ?_
        exact ⟨_, he5 _ (Option.some.inj h5), wk (by simp [weak_iff])⟩
  · refine tr_block (tr_iter (fun s27 : Int × (List (Int × Bool)) => ({ nt := 105, env := [(6, .ptr 6 0), (7, .d (.int .i64 (bAnd .i64 a1 31))), (8, .vec 26), (29, .d (.slice (rowsF (iRow .i64) y2))), (30, .d (.int .i64 ((y2).length : Int))), (31, .d (.int .i64 s27.1))], box := [(6, [.d (.slice (rowsF api_Object_row y1.1.Objects)), .d (.slice (rowsF api_RefEvent_row y1.1.Events))])], vec := [(26, ⟨mTag 49 1 false false, 2, rowsF (mRow (iRow .i64) bRow) s27.2⟩)] } : St)) hI1 (wk (by simp [weak_iff])) fun G5 s27 o5 h5 hg5 he5 => ?_)
    unfold law15_HistoryClosed_l0 at h5
    refine kr [6, 7, 8, 29, 30, 31, 32] (by simp; rfl) ?_
    refine tr_seq ?_
    refine tr_cond (b := (decide (s27.1 < ((y2).length : Int)))) (by simp) (fun c51 => ?_) (fun c51 => ?_)
    · rw [if_pos c51] at h5
      refine tr_skip ?_
      refine tr_seq ?_
      refine tr_block ?_
      replace h5 := bnd h5; obtain ⟨x28, p23, h5⟩ := h5
      replace p23 := idx_some p23
      have p23' := p23; try simp at p23'
      refine kr [6, 7, 8, 10, 29, 30, 31] (by simp [p23, p23']; rfl) ?_
      refine lr (by simp; rfl) ?_
      refine lr (by simp; rfl) ?_
      exact ⟨_, hg5 _ (Option.some.inj h5), wk (by simp [weak_iff])⟩
    · rw [if_neg (by rw [c51]; decide)] at h5
      refine tr_exit ?_
      exact ⟨_, he5 _ (Option.some.inj h5), wk (by simp [weak_iff])⟩
set_option maxHeartbeats 1000000 in
theorem law15_HistoryPrefix_ok {a0 : List Int} {a1 : Int} {r : Bool} (h0 : law15_HistoryPrefix a0 a1 = some r) : FnOK Try.prog 7 [] [.d (.slice (rowsF (iRow .i64) a0)), .d (.int .i64 a1)] (.d (.bool r)) [] := by
  unfold law15_HistoryPrefix at h0
  refine fn_ok (nt := 78) (rs := [.tmp 4]) Try.func7 rfl Try.ntmps7 rfl (by simp) (by decide) rfl fun K => ?_
  refine kr [0, 1] (by simp; rfl) ?_
  refine kr [1, 5] (by simp; rfl) ?_
  refine kc ?_
  refine ko [1, 14] 1 (by simp; rfl) ?_
  replace h0 := bnd h0; obtain ⟨y1, hy1, h0⟩ := h0
  refine kcall [1, 15] [13] (make_Repository_ok hy1) rfl rfl rfl Try.call8 (by simp) (by simp; rfl) ?_
  refine ko [1, 6] 2 (by simp; rfl) ?_
  refine tops_nil ?_
  replace h0 := bnd h0; obtain ⟨_, p1, h0⟩ := h0
  replace p1 := ck_some p1
  have p1' := p1; try simp at p1'
  refine kr [6, 7] (by simp [p1, p1']; rfl) ?_
  refine kd [[], [0], [], [2], [], [3, 4], [1, 5], [], [6, 7]] [7, 8] [(8, [7, 8])] none [] 9 fol (by decide +kernel) (by simp) ?_
  replace h0 := bnd h0; obtain ⟨_, p4, h0⟩ := h0
  replace p4 := ck_some p4
  have p4' := p4; try simp at p4'
  refine dr_go 0 2 rfl (by simp (maxSteps := 1000000) [p4, p4']; rfl) ?_
  refine dr_go 2 2 rfl (by simp (maxSteps := 1000000) [p4, p4']; rfl) ?_
  refine dr_go 4 2 rfl (by simp (maxSteps := 1000000) [p4, p4']; rfl) ?_
  refine dr_go 6 2 rfl (by simp (maxSteps := 1000000) [p4, p4']; rfl) ?_
  refine dr_go 8 1 rfl (by simp (maxSteps := 1000000) [p4, p4']; rfl) ?_
  refine dr_end rfl (tops_nil ?_)
  refine tr_seq ?_
  refine kc ?_
  refine ko [6, 7, 8, 30] 1 (by simp; rfl) ?_
  replace h0 := bnd h0; obtain ⟨y2, hy2, h0⟩ := h0
  refine kcall [6, 7, 8, 31] [] (history_Valid_ok hy2) rfl rfl rfl Try.call12 (by simp) (by simp; rfl) ?_
  refine ko [6, 7, 8, 32] 1 (by simp; rfl) ?_
  refine tops_nil ?_
  refine tr_cond (b := (y2 != 0)) (by simp) (fun c1 => ?_) (fun c1 => ?_)
  · rw [if_pos c1] at h0
    refine kr [4] (by simp; rfl) ?_
    cases h0
    exact tr_ret ⟨[], by simp, rfl, by simp⟩
  · rw [if_neg (by rw [c1]; decide)] at h0
    refine tr_skip ?_
    refine kr [6, 7, 8, 9] (by simp; rfl) ?_
    refine sjv (fun v3 : Int => ({ nt := 78, env := [(6, .ptr 6 0), (8, .ptr 8 0), (9, .d (.int .i64 v3))], box := [(6, [.d (.slice (rowsF api_Object_row y1.1.Objects)), .d (.slice (rowsF api_RefEvent_row y1.1.Events))]), (8, [.d (.slice (rowsF api_Object_row y1.1.Objects)), .d (.slice (rowsF api_RefEvent_row ((y1.1.Events).take (Int.toNat (((bAnd .i64 a1 255)).tmod (IntKind.i64.wrap (((y1.1.Events).length : Int) + 1)))))))])], vec := [] } : St)) (fun v3 => law15_HistoryPrefix_j0 y1 a1 v3 = some r) (fun v3 h0 => ?_) ?_
    · unfold law15_HistoryPrefix_j0 at h0
      refine tr_seq ?_
      refine kr [6, 8, 9, 10] (by simp; rfl) ?_
      replace h0 := bnd h0; obtain ⟨e1, hI1, h0⟩ := h0
      refine tjv (fun v4 : Unit => ({ nt := 78, env := [], box := [], vec := [] } : St)) (fun v4 => .inl v4 = e1) (fun v4 hI1e _ W1 => ?_) ?_
      · subst hI1e
        dsimp only at h0
        refine tr_wk W1 ?_
        refine kc ?_
        replace h0 := bnd h0; obtain ⟨y5, hy5, h0⟩ := h0
        refine kcall [77] [] (law15_awake_ok hy5) rfl rfl rfl Try.call13 (by simp) (by simp; rfl) ?_
        refine ko [4] 1 (by simp; rfl) ?_
        refine tops_nil ?_
        cases h0
        exact tr_ret ⟨[], by simp, rfl, by simp⟩
      · refine tr_block (tr_iter (fun s6 : Int => ({ nt := 78, env := [(6, .ptr 6 0), (8, .ptr 8 0), (9, .d (.int .i64 v3)), (10, .d (.int .i64 s6))], box := [(6, [.d (.slice (rowsF api_Object_row y1.1.Objects)), .d (.slice (rowsF api_RefEvent_row y1.1.Events))]), (8, [.d (.slice (rowsF api_Object_row y1.1.Objects)), .d (.slice (rowsF api_RefEvent_row ((y1.1.Events).take (Int.toNat (((bAnd .i64 a1 255)).tmod (IntKind.i64.wrap (((y1.1.Events).length : Int) + 1)))))))])], vec := [] } : St)) hI1 (wk (by simp [weak_iff])) fun G1 s6 o1 h1 hg1 he1 => ?_)
        unfold law15_HistoryPrefix_l1 at h1
        refine tr_seq ?_
        refine kr [6, 8, 9, 10, 56] (by simp; rfl) ?_
        refine tr_cond (b := (decide (s6 ≤ v3))) (by simp) (fun c14 => ?_) (fun c14 => ?_)
        · rw [if_pos c14] at h1
          refine tr_skip ?_
          refine tr_seq ?_
          refine tr_block ?_
          replace h1 := bnd h1; obtain ⟨v7, hvv7, h1⟩ := h1
          refine sjv (fun v7_ : Bool => ({ nt := 78, env := [(6, .ptr 6 0), (8, .ptr 8 0), (9, .d (.int .i64 v3)), (10, .d (.int .i64 s6)), (76, .d (.bool v7_))], box := [(6, [.d (.slice (rowsF api_Object_row y1.1.Objects)), .d (.slice (rowsF api_RefEvent_row y1.1.Events))]), (8, [.d (.slice (rowsF api_Object_row y1.1.Objects)), .d (.slice (rowsF api_RefEvent_row ((y1.1.Events).take (Int.toNat (((bAnd .i64 a1 255)).tmod (IntKind.i64.wrap (((y1.1.Events).length : Int) + 1)))))))])], vec := [] } : St)) (fun v7_ => v7 = v7_) (fun v7_ e => ?_) ?_
          · subst e
            refine tr_cond (b := v7) (by simp) (fun c21 => ?_) (fun c21 => ?_)
            · rw [if_pos c21] at h1
              refine kr [4] (by simp; rfl) ?_
              have k1 := he1 _ (Option.some.inj h1)
              subst k1
              dsimp only at h0
              cases h0
              exact tr_ret ⟨[], by simp, rfl, by simp⟩
            · rw [if_neg (by rw [c21]; decide)] at h1
              refine tr_skip ?_
              refine lr (by simp; rfl) ?_
              exact ⟨_, hg1 _ (Option.some.inj h1), wk (by simp [weak_iff])⟩
          · refine kd1 [[], [], [0, 1], [], [], [3, 4], [2, 5], [6], [7], [8], [8], [8, 9, 10], [8], [8], [8, 12, 13], [8, 11, 14], [8, 15], [8, 16]] [] [] none [] 18 fol (by decide +kernel) (by simp) ?_
            refine dr_go 0 2 rfl (by simp (maxSteps := 1000000); rfl) ?_
            replace hvv7 := bnd hvv7; obtain ⟨y8, hy8, hvv7⟩ := hvv7
            refine dr_call 2 [] (history_Reachable_ok hy8) rfl rfl rfl rfl rfl Try.call14 (by simp) ?_
            refine dr_go 3 2 rfl (by simp (maxSteps := 1000000); rfl) ?_
            replace hvv7 := bnd hvv7; obtain ⟨y9, hy9, hvv7⟩ := hvv7
            refine dr_call 5 [] (history_Reachable_ok hy9) rfl rfl rfl rfl rfl Try.call14 (by simp) ?_
            replace hvv7 := bnd hvv7; obtain ⟨y10, hy10, hvv7⟩ := hvv7
            refine dr_call 6 [] (ref15_Ints_ok hy10) rfl rfl rfl rfl rfl Try.call17 (by simp) ?_
            refine dr_go 7 2 rfl (by simp (maxSteps := 1000000); rfl) ?_
            refine dr_split 8 67 (!y10) (by simp) (fun c24 => ?_) (fun c24 => ?_)
            · rw [if_pos c24] at hvv7
              refine dr_skip 9 78 [some 68, some 69, some 70, some 71, some 72, some 73, some 74, some 75] rfl rfl (by decide) (by kernel_rfl) (by simp only [skEf, List.map_cons, List.map_nil, List.cons_append, List.nil_append]; rfl) ?_
              refine dr_go 17 1 rfl (by simp (maxSteps := 1000000); rfl) ?_
              refine dr_end rfl (tops_nil ?_)
              cases hvv7
              exact ⟨_, rfl, wk (by simp [weak_iff])⟩
            · rw [if_neg (by rw [c24]; decide)] at hvv7
              refine dr_go 9 2 rfl (by simp (maxSteps := 1000000); rfl) ?_
              replace hvv7 := bnd hvv7; obtain ⟨y11, hy11, hvv7⟩ := hvv7
              refine dr_call 11 [] (history_Refs_ok hy11) rfl rfl rfl rfl rfl Try.call16 (by simp) ?_
              refine dr_go 12 2 rfl (by simp (maxSteps := 1000000); rfl) ?_
              replace hvv7 := bnd hvv7; obtain ⟨y12, hy12, hvv7⟩ := hvv7
              refine dr_call 14 [] (history_Refs_ok hy12) rfl rfl rfl rfl rfl Try.call16 (by simp) ?_
              replace hvv7 := bnd hvv7; obtain ⟨y13, hy13, hvv7⟩ := hvv7
              refine dr_call 15 [] (ref15_Items_ok hy13) rfl rfl rfl rfl rfl Try.call18 (by simp) ?_
              refine dr_go 16 2 rfl (by simp (maxSteps := 1000000); rfl) ?_
              refine dr_end rfl (tops_nil ?_)
              cases hvv7
              exact ⟨_, rfl, wk (by simp [weak_iff])⟩
        · rw [if_neg (by rw [c14]; decide)] at h1
          refine tr_exit ?_
          exact ⟨_, he1 _ (Option.some.inj h1), wk (by simp [weak_iff])⟩
    · refine kr [6, 7, 8, 9, 37] (by simp; rfl) ?_
      refine tr_cond (b := (decide ((((bAnd .i64 a1 255)).tmod (IntKind.i64.wrap (((y1.1.Events).length : Int) + 1))) < ((y1.1.Events).length : Int)))) (by simp) (fun c25 => ?_) (fun c25 => ?_)
      · rw [if_pos c25] at h0
        replace h0 := bnd h0; obtain ⟨x16, p7, h0⟩ := h0
        replace p7 := idx_some p7
        have p7' := p7; try simp at p7'
        refine lr (by simp [p7, p7']; rfl) ?_
        exact ⟨_, h0, wk (by simp [weak_iff])⟩
      · rw [if_neg (by rw [c25]; decide)] at h0
        refine kr [6, 7, 8, 9, 46] (by simp; rfl) ?_
        refine tr_cond (b := (decide (0 < (((bAnd .i64 a1 255)).tmod (IntKind.i64.wrap (((y1.1.Events).length : Int) + 1)))))) (by simp) (fun c26 => ?_) (fun c26 => ?_)
        · rw [if_pos c26] at h0
          replace h0 := bnd h0; obtain ⟨x17, p8, h0⟩ := h0
          replace p8 := idx_some p8
          have p8' := p8; try simp at p8'
          refine lr (by simp [p8, p8']; rfl) ?_
          exact ⟨_, h0, wk (by simp [weak_iff])⟩
        · rw [if_neg (by rw [c26]; decide)] at h0
          refine tr_skip ?_
          exact ⟨_, h0, wk (by simp [weak_iff])⟩
end Go.Vl
