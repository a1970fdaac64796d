/- Walks: each function of the given program computes what its mirror says. Conditions: none. -/
import Derived.Test.YtciimncnodejaaaGreatDoorVmQ
import Derived.Test.YtciimncnodejaaaGreatDoorXm
import Derived.Test.YtciimncnodejaaaGreatDoorVmLz
import Derived.Test.YtciimncnodejaaaGreatDoorXq
import Derived.Test.YtciimncnodejaaaGreatDoorTyX
set_option linter.unusedSimpArgs false
set_option linter.unusedVariables false
namespace Go.Vl
open Go Go.Proofs
set_option maxHeartbeats 1000000 in
theorem calendar_among_ok {a0 : Int} {a1 : Int} {a2 : Int} {r : Bool} (h0 : calendar_among a0 a1 a2 = some r) : FnOK Tryz.prog 52 [] [.d (.int .i64 a0), .d (.int .i64 a1), .d (.int .i64 a2)] (.d (.bool r)) [] := by
  unfold calendar_among at h0
  refine fn_ok (nt := 15) (rs := [.tmp 6]) Tryz.func52 rfl Tryz.ntmps52 rfl (by simp) (by decide) rfl fun K => ?_
  refine kr [0, 1, 2] (by simp; rfl) ?_
  replace h0 := bnd h0; obtain ⟨v1, hvv1, h0⟩ := h0
  refine sjv (fun v1_ : Bool => ({ nt := 15, env := [(6, .d (.bool v1_))], box := [], vec := [] } : St)) (fun v1_ => v1 = v1_) (fun v1_ e => ?_) ?_
  · subst e
    cases h0
    exact tr_ret ⟨[], by simp, rfl, by simp⟩
  · refine kc1 ?_
    refine ko [0, 2, 10] 4 (by simp; rfl) ?_
    refine tops_split 10 (decide (a1 ≤ a0)) (by simp) (fun c3 => ?_) (fun c3 => ?_)
    · rw [c3] at hvv1
      refine ko [6] 5 (by simp; rfl) ?_
      refine tops_nil ?_
      cases hvv1
      exact ⟨_, rfl, wk (by simp [weak_iff])⟩
    · rw [c3] at hvv1
      refine kskip 3 [] (by kernel_rfl) ?_
      refine ko [6] 2 (by simp; rfl) ?_
      refine tops_nil ?_
      cases hvv1
      exact ⟨_, rfl, wk (by simp [weak_iff])⟩
set_option maxHeartbeats 1000000 in
theorem directory_Ascending_ok {a0 : List Int} {r : Bool} (h0 : directory_Ascending a0 = some r) : FnOK Tryz.prog 53 [] [.d (.slice (rowsF (iRow .i64) a0))] (.d (.bool r)) [] := by
  unfold directory_Ascending at h0
  refine fn_ok (nt := 20) (rs := [.tmp 2]) Tryz.func53 rfl Tryz.ntmps53 rfl (by simp) (by decide) rfl fun K => ?_
  refine kr [0] (by simp; rfl) ?_
  refine tr_seq ?_
  refine kr [0, 3] (by simp; rfl) ?_
  replace h0 := bnd h0; obtain ⟨e1, hI1, h0⟩ := h0
  refine tjv (fun v1 : Unit => ({ nt := 20, env := [], box := [], vec := [] } : St)) (fun v1 => .inl v1 = e1) (fun v1 hI1e _ W1 => ?_) ?_
  · subst hI1e
    dsimp only at h0
    refine tr_wk W1 ?_
    refine kr [2] (by simp; rfl) ?_
    cases h0
    exact tr_ret ⟨[], by simp, rfl, by simp⟩
  · refine tr_block (tr_iter (fun s2 : Int => ({ nt := 20, env := [(0, .d (.slice (rowsF (iRow .i64) a0))), (3, .d (.int .i64 s2))], box := [], vec := [] } : St)) hI1 (wk (by simp [weak_iff])) fun G1 s2 o1 h1 hg1 he1 => ?_)
    unfold directory_Ascending_l0 at h1
    refine tr_seq ?_
    refine kr [0, 3, 7] (by simp; rfl) ?_
    refine tr_cond (b := (decide (s2 < ((a0).length : Int)))) (by simp) (fun c5 => ?_) (fun c5 => ?_)
    · rw [if_pos c5] at h1
      refine tr_skip ?_
      refine tr_seq ?_
      refine tr_block ?_
      refine kd [[], [], [1], [0, 2], [3], [], [], [5, 6], [7], [4, 8]] [] [] none [] 10 fol (by decide +kernel) (by simp) ?_
      replace h1 := bnd h1; obtain ⟨x3, p17, h1⟩ := h1
      replace p17 := idx_some p17
      have p17' := p17; try simp at p17'
      replace h1 := bnd h1; obtain ⟨x4, p18, h1⟩ := h1
      replace p18 := idx_some p18
      have p18' := p18; try simp at p18'
      refine dr_go 0 2 rfl (by simp (maxSteps := 1000000) [p17, p18, p17', p18']; rfl) ?_
      refine dr_go 2 2 rfl (by simp (maxSteps := 1000000) [p17, p18, p17', p18']; rfl) ?_
      refine dr_go 4 2 rfl (by simp (maxSteps := 1000000) [p17, p18, p17', p18']; rfl) ?_
      refine dr_go 6 2 rfl (by simp (maxSteps := 1000000) [p17, p18, p17', p18']; rfl) ?_
      refine dr_go 8 2 rfl (by simp (maxSteps := 1000000) [p17, p18, p17', p18']; rfl) ?_
      refine dr_end rfl (tops_nil ?_)
      refine tr_cond (b := (decide (x4 ≤ x3))) (by simp) (fun c6 => ?_) (fun c6 => ?_)
      · rw [if_pos c6] at h1
        refine kr [2] (by simp; rfl) ?_
        have k1 := he1 _ (Option.some.inj h1)
        subst k1
        dsimp only at h0
        cases h0
        exact tr_ret ⟨[], by simp, rfl, by simp⟩
      · rw [if_neg (by rw [c6]; decide)] at h1
        refine tr_skip ?_
        refine lr (by simp; rfl) ?_
        exact ⟨_, hg1 _ (Option.some.inj h1), wk (by simp [weak_iff])⟩
    · rw [if_neg (by rw [c5]; decide)] at h1
      refine tr_exit ?_
      exact ⟨_, he1 _ (Option.some.inj h1), wk (by simp [weak_iff])⟩
set_option maxHeartbeats 1000000 in
theorem calendar_Check_ok {a0 : api_Calendar} {r : Int} (h0 : calendar_Check a0 = some r) : FnOK Tryz.prog 32 [] [.agg (api_Calendar_av a0)] (.d (.int .i64 r)) [] := by
  unfold calendar_Check at h0
  refine fn_ok (nt := 55) (rs := [.tmp 2]) Tryz.func32 rfl Tryz.ntmps32 rfl (by simp) (by decide) rfl fun K => ?_
  refine kr [1] (by simp; rfl) ?_
  refine tr_seq ?_
  replace h0 := bnd h0; obtain ⟨v1, hvv1, h0⟩ := h0
  refine sjv (fun v1_ : Bool => ({ nt := 55, env := [(1, .ptr 1 0), (31, .d (.bool v1_))], box := [(1, [.d (.int .i64 a0.Day), .d (.int .i64 a0.From), .d (.int .i64 a0.To), .d (.int .i64 a0.Week), .d (.slice (rowsF (iRow .i64) a0.Holidays))])], vec := [] } : St)) (fun v1_ => v1 = v1_) (fun v1_ e => ?_) ?_
  · subst e
    refine tr_cond (b := v1) (by simp) (fun c9 => ?_) (fun c9 => ?_)
    · rw [if_pos c9] at h0
      refine kr [2] (by simp; rfl) ?_
      cases h0
      exact tr_ret ⟨[], by simp, rfl, by simp⟩
    · rw [if_neg (by rw [c9]; decide)] at h0
      refine tr_skip ?_
      refine tr_seq ?_
      replace h0 := bnd h0; obtain ⟨v2, hvv2, h0⟩ := h0
      refine sjv (fun v2_ : Bool => ({ nt := 55, env := [(54, .d (.bool v2_))], box := [], vec := [] } : St)) (fun v2_ => v2 = v2_) (fun v2_ e => ?_) ?_
      · subst e
        refine tr_cond (b := v2) (by simp) (fun c16 => ?_) (fun c16 => ?_)
        · rw [if_pos c16] at h0
          refine kr [2] (by simp; rfl) ?_
          cases h0
          exact tr_ret ⟨[], by simp, rfl, by simp⟩
        · rw [if_neg (by rw [c16]; decide)] at h0
          refine tr_skip ?_
          refine kr [2] (by simp; rfl) ?_
          cases h0
          exact tr_ret ⟨[], by simp, rfl, by simp⟩
      · refine kc1 ?_
        refine ko [1, 36] 5 (by simp; rfl) ?_
        refine tops_split 36 (decide (40 < ((a0.Holidays).length : Int))) (by simp) (fun c17 => ?_) (fun c17 => ?_)
        · rw [if_pos c17] at hvv2
          refine kskip 4 [] (by kernel_rfl) ?_
          refine ko [1, 42] 2 (by simp; rfl) ?_
          refine kskip 11 [] (by kernel_rfl) ?_
          refine ko [54] 1 (by simp; rfl) ?_
          refine tops_nil ?_
          cases hvv2
          exact ⟨_, rfl, wk (by simp [weak_iff])⟩
        · rw [if_neg (by rw [c17]; decide)] at hvv2
          refine ko [1, 36, 38] 2 (by simp; rfl) ?_
          replace hvv2 := bnd hvv2; obtain ⟨y3, hy3, hvv2⟩ := hvv2
          refine kcall [1, 36, 39] [] (directory_Ascending_ok hy3) rfl rfl rfl Tryz.call53 (by simp) (by simp; rfl) ?_
          refine ko [1, 42] 3 (by simp; rfl) ?_
          refine tops_split 42 (!y3) (by simp) (fun c18 => ?_) (fun c18 => ?_)
          · rw [if_pos c18] at hvv2
            refine kskip 11 [] (by kernel_rfl) ?_
            refine ko [54] 1 (by simp; rfl) ?_
            refine tops_nil ?_
            cases hvv2
            exact ⟨_, rfl, wk (by simp [weak_iff])⟩
          · rw [if_neg (by rw [c18]; decide)] at hvv2
            refine ko [1, 42, 47] 5 (by simp; rfl) ?_
            refine tops_split 47 (decide (0 < ((a0.Holidays).length : Int))) (by simp) (fun c19 => ?_) (fun c19 => ?_)
            · rw [if_pos c19] at hvv2
              replace hvv2 := bnd hvv2; obtain ⟨x4, p3, hvv2⟩ := hvv2
              replace p3 := idx_some p3
              have p3' := p3; try simp at p3'
              refine ko [54] 7 (by simp [p3, p3']; rfl) ?_
              refine tops_nil ?_
              cases hvv2
              exact ⟨_, rfl, wk (by simp [weak_iff])⟩
            · rw [if_neg (by rw [c19]; decide)] at hvv2
              refine kskip 5 [] (by kernel_rfl) ?_
              refine ko [54] 2 (by simp; rfl) ?_
              refine tops_nil ?_
              cases hvv2
              exact ⟨_, rfl, wk (by simp [weak_iff])⟩
  · refine kc1 ?_
    refine ko [1, 4] 2 (by simp; rfl) ?_
    replace hvv1 := bnd hvv1; obtain ⟨y5, hy5, hvv1⟩ := hvv1
    refine kcall [1, 5] [] (calendar_among_ok hy5) rfl rfl rfl Tryz.call52 (by simp) (by simp; rfl) ?_
    refine ko [1, 7] 2 (by simp; rfl) ?_
    refine tops_split 7 (!y5) (by simp) (fun c20 => ?_) (fun c20 => ?_)
    · rw [if_pos c20] at hvv1
      refine kskip 3 [] (by kernel_rfl) ?_
      refine ko [1, 12] 2 (by simp; rfl) ?_
      refine kskip 5 [] (by kernel_rfl) ?_
      refine ko [1, 19] 2 (by simp; rfl) ?_
      refine kskip 5 [] (by kernel_rfl) ?_
      refine ko [1, 26] 2 (by simp; rfl) ?_
      refine kskip 4 [] (by kernel_rfl) ?_
      refine ko [1, 31] 1 (by simp; rfl) ?_
      refine tops_nil ?_
      cases hvv1
      exact ⟨_, rfl, wk (by simp [weak_iff])⟩
    · rw [if_neg (by rw [c20]; decide)] at hvv1
      refine ko [1, 12] 5 (by simp; rfl) ?_
      refine tops_split 12 (decide (a0.From < 0)) (by simp) (fun c21 => ?_) (fun c21 => ?_)
      · rw [if_pos c21] at hvv1
        refine kskip 5 [] (by kernel_rfl) ?_
        refine ko [1, 19] 2 (by simp; rfl) ?_
        refine kskip 5 [] (by kernel_rfl) ?_
        refine ko [1, 26] 2 (by simp; rfl) ?_
        refine kskip 4 [] (by kernel_rfl) ?_
        refine ko [1, 31] 1 (by simp; rfl) ?_
        refine tops_nil ?_
        cases hvv1
        exact ⟨_, rfl, wk (by simp [weak_iff])⟩
      · rw [if_neg (by rw [c21]; decide)] at hvv1
        refine ko [1, 19] 7 (by simp; rfl) ?_
        refine tops_split 19 (decide (a0.To ≤ a0.From)) (by simp) (fun c22 => ?_) (fun c22 => ?_)
        · rw [if_pos c22] at hvv1
          refine kskip 5 [] (by kernel_rfl) ?_
          refine ko [1, 26] 2 (by simp; rfl) ?_
          refine kskip 4 [] (by kernel_rfl) ?_
          refine ko [1, 31] 1 (by simp; rfl) ?_
          refine tops_nil ?_
          cases hvv1
          exact ⟨_, rfl, wk (by simp [weak_iff])⟩
        · rw [if_neg (by rw [c22]; decide)] at hvv1
          refine ko [1, 26] 7 (by simp; rfl) ?_
          refine tops_split 26 (decide (a0.Day < a0.To)) (by simp) (fun c23 => ?_) (fun c23 => ?_)
          · rw [if_pos c23] at hvv1
            refine kskip 4 [] (by kernel_rfl) ?_
            refine ko [1, 31] 1 (by simp; rfl) ?_
            refine tops_nil ?_
            cases hvv1
            exact ⟨_, rfl, wk (by simp [weak_iff])⟩
          · rw [if_neg (by rw [c23]; decide)] at hvv1
            refine ko [1, 26, 28] 2 (by simp; rfl) ?_
            replace hvv1 := bnd hvv1; obtain ⟨y6, hy6, hvv1⟩ := hvv1
            refine kcall [1, 26, 29] [] (calendar_among_ok hy6) rfl rfl rfl Tryz.call52 (by simp) (by simp; rfl) ?_
            refine ko [1, 31] 2 (by simp; rfl) ?_
            refine tops_nil ?_
            cases hvv1
            exact ⟨_, rfl, wk (by simp [weak_iff])⟩
set_option maxHeartbeats 1000000 in
theorem directory_Check_1_ok {a0 : Int} {r : Bool} (h0 : directory_Check_1 a0 = some r) : FnOK Tryz.prog 46 [] [.d (.int .i64 a0)] (.d (.bool r)) [] := by
  unfold directory_Check_1 at h0
  refine fn_ok (nt := 9) (rs := [.tmp 2]) Tryz.func46 rfl Tryz.ntmps46 rfl (by simp) (by decide) rfl fun K => ?_
  refine kr [0] (by simp; rfl) ?_
  replace h0 := bnd h0; obtain ⟨v1, hvv1, h0⟩ := h0
  refine sjv (fun v1_ : Bool => ({ nt := 9, env := [(2, .d (.bool v1_))], box := [], vec := [] } : St)) (fun v1_ => v1 = v1_) (fun v1_ e => ?_) ?_
  · subst e
    cases h0
    exact tr_ret ⟨[], by simp, rfl, by simp⟩
  · refine kc1 ?_
    refine ko [0, 5] 3 (by simp; rfl) ?_
    refine tops_split 5 (decide (a0 < 1)) (by simp) (fun c3 => ?_) (fun c3 => ?_)
    · rw [c3] at hvv1
      refine ko [2] 4 (by simp; rfl) ?_
      refine tops_nil ?_
      cases hvv1
      exact ⟨_, rfl, wk (by simp [weak_iff])⟩
    · rw [c3] at hvv1
      refine ko [2] 4 (by simp; rfl) ?_
      refine tops_nil ?_
      cases hvv1
      exact ⟨_, rfl, wk (by simp [weak_iff])⟩
set_option maxHeartbeats 1000000 in
theorem directory_exists_ok {a0 : api_Directory} {a1 : Int} {r : Bool} (h0 : directory_exists a0 a1 = some r) : FnOK Tryz.prog 48 [] [.agg (api_Directory_av a0), .d (.int .i64 a1)] (.d (.bool r)) [] := by
  unfold directory_exists at h0
  refine fn_ok (nt := 14) (rs := [.tmp 4]) Tryz.func48 rfl Tryz.ntmps48 rfl (by simp) (by decide) rfl fun K => ?_
  refine kr [1, 2] (by simp; rfl) ?_
  replace h0 := bnd h0; obtain ⟨v1, hvv1, h0⟩ := h0
  refine sjv (fun v1_ : Bool => ({ nt := 14, env := [(4, .d (.bool v1_))], box := [], vec := [] } : St)) (fun v1_ => v1 = v1_) (fun v1_ e => ?_) ?_
  · subst e
    cases h0
    exact tr_ret ⟨[], by simp, rfl, by simp⟩
  · refine kc1 ?_
    refine ko [1, 2, 7] 3 (by simp; rfl) ?_
    refine tops_split 7 (decide (0 ≤ a1)) (by simp) (fun c3 => ?_) (fun c3 => ?_)
    · rw [c3] at hvv1
      refine ko [4] 7 (by simp; rfl) ?_
      refine tops_nil ?_
      cases hvv1
      exact ⟨_, rfl, wk (by simp [weak_iff])⟩
    · rw [c3] at hvv1
      refine kskip 5 [] (by kernel_rfl) ?_
      refine ko [4] 2 (by simp; rfl) ?_
      refine tops_nil ?_
      cases hvv1
      exact ⟨_, rfl, wk (by simp [weak_iff])⟩
set_option maxHeartbeats 1000000 in
theorem directory_group_ok {a0 : api_Directory} {a1 : Int} {r : Bool} (h0 : directory_group a0 a1 = some r) : FnOK Tryz.prog 49 [] [.agg (api_Directory_av a0), .d (.int .i64 a1)] (.d (.bool r)) [] := by
  unfold directory_group at h0
  refine fn_ok (nt := 16) (rs := [.tmp 4]) Tryz.func49 rfl Tryz.ntmps49 rfl (by simp) (by decide) rfl fun K => ?_
  refine kr [1, 2] (by simp; rfl) ?_
  replace h0 := bnd h0; obtain ⟨v1, hvv1, h0⟩ := h0
  refine sjv (fun v1_ : Bool => ({ nt := 16, env := [(4, .d (.bool v1_))], box := [], vec := [] } : St)) (fun v1_ => v1 = v1_) (fun v1_ e => ?_) ?_
  · subst e
    cases h0
    exact tr_ret ⟨[], by simp, rfl, by simp⟩
  · refine kc1 ?_
    refine ko [1, 2, 5, 6] 2 (by simp; rfl) ?_
    replace hvv1 := bnd hvv1; obtain ⟨y2, hy2, hvv1⟩ := hvv1
    refine kcall [1, 2, 7] [] (directory_exists_ok hy2) rfl rfl rfl Tryz.call48 (by simp) (by simp; rfl) ?_
    refine ko [1, 2, 8] 1 (by simp; rfl) ?_
    refine tops_split 8 y2 (by simp) (fun c3 => ?_) (fun c3 => ?_)
    · rw [if_pos c3] at hvv1
      replace hvv1 := bnd hvv1; obtain ⟨x3, p3, hvv1⟩ := hvv1
      replace p3 := idx_some p3
      have p3' := p3; try simp at p3'
      refine ko [4] 8 (by simp [p3, p3']; rfl) ?_
      refine tops_nil ?_
      cases hvv1
      exact ⟨_, rfl, wk (by simp [weak_iff])⟩
    · rw [if_neg (by rw [c3]; decide)] at hvv1
      refine kskip 6 [] (by kernel_rfl) ?_
      refine ko [4] 2 (by simp; rfl) ?_
      refine tops_nil ?_
      cases hvv1
      exact ⟨_, rfl, wk (by simp [weak_iff])⟩
set_option maxHeartbeats 1000000 in
theorem slices_IndexFunc_int_at_directory_Check_1_ok {a0 : List Int} {r : Int} (h0 : slices_IndexFunc_int_at_directory_Check_1 a0 = some r) : FnOK Tryz.prog 69 [] [.d (.slice (rowsF (iRow .i64) a0)), .fn 46 []] (.d (.int .i64 r)) [] := by
  unfold slices_IndexFunc_int_at_directory_Check_1 at h0
  refine fn_ok (nt := 19) (rs := [.tmp 4]) Tryz.func69 rfl Tryz.ntmps69 rfl (by simp) (by decide) rfl fun K => ?_
  refine kr [0, 1] (by simp; rfl) ?_
  refine tr_seq ?_
  refine kr [0, 1, 7, 8] (by simp; rfl) ?_
  replace h0 := bnd h0; obtain ⟨e1, hI1, h0⟩ := h0
  refine tjv (fun v1 : Unit => ({ nt := 19, env := [], box := [], vec := [] } : St)) (fun v1 => .inl v1 = e1) (fun v1 hI1e _ W1 => ?_) ?_
  · subst hI1e
    dsimp only at h0
    refine tr_wk W1 ?_
    refine kr [4] (by simp; rfl) ?_
    cases h0
    exact tr_ret ⟨[], by simp, rfl, by simp⟩
  · refine tr_block (tr_iter (fun s2 : Int => ({ nt := 19, env := [(0, .d (.slice (rowsF (iRow .i64) a0))), (1, .fn 46 []), (7, .d (.int .i64 ((a0).length : Int))), (8, .d (.int .i64 s2))], box := [], vec := [] } : St)) hI1 (wk (by simp [weak_iff])) fun G1 s2 o1 h1 hg1 he1 => ?_)
    unfold slices_IndexFunc_int_at_directory_Check_1_l0 at h1
    refine kr [0, 1, 7, 8, 9] (by simp; rfl) ?_
    refine tr_seq ?_
    refine tr_cond (b := (decide (s2 < ((a0).length : Int)))) (by simp) (fun c5 => ?_) (fun c5 => ?_)
    · rw [if_pos c5] at h1
      refine tr_skip ?_
      refine tr_seq ?_
      refine tr_block ?_
      refine kr [0, 1, 5, 7, 8] (by simp; rfl) ?_
      refine kc ?_
      replace h1 := bnd h1; obtain ⟨x3, p3, h1⟩ := h1
      replace p3 := idx_some p3
      have p3' := p3; try simp at p3'
      refine ko [0, 1, 5, 7, 8, 11, 15] 5 (by simp [p3, p3']; rfl) ?_
      replace h1 := bnd h1; obtain ⟨y4, hy4, h1⟩ := h1
      refine kcallV [0, 1, 5, 7, 8, 16] [] [] [] (directory_Check_1_ok hy4) rfl rfl rfl Tryz.call46 (by simp) (by simp; rfl) ?_
      refine tops_nil ?_
      refine tr_cond (b := y4) (by simp) (fun c6 => ?_) (fun c6 => ?_)
      · rw [if_pos c6] at h1
        refine kr [4] (by simp; rfl) ?_
        have k1 := he1 _ (Option.some.inj h1)
        subst k1
        dsimp only at h0
        cases h0
        exact tr_ret ⟨[], by simp, rfl, by simp⟩
      · rw [if_neg (by rw [c6]; decide)] at h1
        refine tr_skip ?_
        refine lr (by simp; rfl) ?_
        exact ⟨_, hg1 _ (Option.some.inj h1), wk (by simp [weak_iff])⟩
    · rw [if_neg (by rw [c5]; decide)] at h1
      refine tr_exit ?_
      exact ⟨_, he1 _ (Option.some.inj h1), wk (by simp [weak_iff])⟩
set_option maxHeartbeats 1000000 in
theorem slices_ContainsFunc_int_at_directory_Check_1_ok {a0 : List Int} {r : Bool} (h0 : slices_ContainsFunc_int_at_directory_Check_1 a0 = some r) : FnOK Tryz.prog 47 [] [.d (.slice (rowsF (iRow .i64) a0)), .fn 46 []] (.d (.bool r)) [] := by
  unfold slices_ContainsFunc_int_at_directory_Check_1 at h0
  refine fn_ok (nt := 9) (rs := [.tmp 4]) Tryz.func47 rfl Tryz.ntmps47 rfl (by simp) (by decide) rfl fun K => ?_
  refine kr [0, 1] (by simp; rfl) ?_
  refine kc ?_
  refine ko [5, 6] 2 (by simp; rfl) ?_
  replace h0 := bnd h0; obtain ⟨y1, hy1, h0⟩ := h0
  refine kcall [7] [] (slices_IndexFunc_int_at_directory_Check_1_ok hy1) rfl rfl rfl Tryz.call69 (by simp) (by simp; rfl) ?_
  refine ko [4] 2 (by simp; rfl) ?_
  refine tops_nil ?_
  cases h0
  exact tr_ret ⟨[], by simp, rfl, by simp⟩
set_option maxHeartbeats 1000000 in
theorem directory_Check_ok {a0 : api_Directory} {r : Int} (h0 : directory_Check a0 = some r) : FnOK Tryz.prog 26 [] [.agg (api_Directory_av a0)] (.d (.int .i64 r)) [] := by
  unfold directory_Check at h0
  refine fn_ok (nt := 73) (rs := [.tmp 2]) Tryz.func26 rfl Tryz.ntmps26 rfl (by simp) (by decide) rfl fun K => ?_
  refine kr [1] (by simp; rfl) ?_
  refine kr [1, 3] (by simp; rfl) ?_
  refine tr_seq ?_
  replace h0 := bnd h0; obtain ⟨v1, hvv1, h0⟩ := h0
  refine sjv (fun v1_ : Bool => ({ nt := 73, env := [(1, .ptr 1 0), (22, .d (.bool v1_))], box := [(1, [.d (.slice (rowsF (iRow .i64) a0.Kinds)), .d (.slice (rowsF api_Member_row a0.Events))])], vec := [] } : St)) (fun v1_ => v1 = v1_) (fun v1_ e => ?_) ?_
  · subst e
    refine tr_cond (b := v1) (by simp) (fun c5 => ?_) (fun c5 => ?_)
    · rw [if_pos c5] at h0
      refine kr [2] (by simp; rfl) ?_
      cases h0
      exact tr_ret ⟨[], by simp, rfl, by simp⟩
    · rw [if_neg (by rw [c5]; decide)] at h0
      refine tr_skip ?_
      refine kr [1, 4] (by simp; rfl) ?_
      refine tr_seq ?_
      refine kr [1, 4, 24, 25, 26] (by simp; rfl) ?_
      replace h0 := bnd h0; obtain ⟨e1, hI1, h0⟩ := h0
      refine tjv (fun v2 : Unit => ({ nt := 73, env := [], box := [], vec := [] } : St)) (fun v2 => .inl v2 = e1) (fun v2 hI1e _ W1 => ?_) ?_
      · subst hI1e
        dsimp only at h0
        refine tr_wk W1 ?_
        refine kr [2] (by simp; rfl) ?_
        cases h0
        exact tr_ret ⟨[], by simp, rfl, by simp⟩
      · refine tr_block (tr_iter (fun s3 : Int × Int => ({ nt := 73, env := [(1, .ptr 1 0), (4, .d (.int .i64 s3.1)), (24, .d (.slice (rowsF api_Member_row a0.Events))), (25, .d (.int .i64 ((a0.Events).length : Int))), (26, .d (.int .i64 s3.2))], box := [(1, [.d (.slice (rowsF (iRow .i64) a0.Kinds)), .d (.slice (rowsF api_Member_row a0.Events))])], vec := [] } : St)) hI1 (wk (by simp [weak_iff])) fun G1 s3 o1 h1 hg1 he1 => ?_)
        unfold directory_Check_l0 at h1
        refine kr [1, 4, 24, 25, 26, 27] (by simp; rfl) ?_
        refine tr_seq ?_
        refine tr_cond (b := (decide (s3.2 < ((a0.Events).length : Int)))) (by simp) (fun c30 => ?_) (fun c30 => ?_)
        · rw [if_pos c30] at h1
          refine tr_skip ?_
          refine tr_seq ?_
          refine tr_block ?_
          replace h1 := bnd h1; obtain ⟨x4, p3, h1⟩ := h1
          replace p3 := idx_some p3
          have p3' := p3; try simp at p3'
          refine kr [1, 4, 6, 24, 25, 26] (by simp [p3, p3']; rfl) ?_
          refine tr_seq ?_
          replace h1 := bnd h1; obtain ⟨v5, hvv5, h1⟩ := h1
          refine sjv (fun v5_ : Bool => ({ nt := 73, env := [(1, .ptr 1 0), (6, .ptr 6 0), (24, .d (.slice (rowsF api_Member_row a0.Events))), (25, .d (.int .i64 ((a0.Events).length : Int))), (26, .d (.int .i64 s3.2)), (69, .d (.bool v5_))], box := [(1, [.d (.slice (rowsF (iRow .i64) a0.Kinds)), .d (.slice (rowsF api_Member_row a0.Events))]), (6, [.d (.int .i64 x4.Time), .d (.int .i64 x4.Kind), .d (.int .i64 x4.Principal), .d (.int .i64 x4.Group)])], vec := [] } : St)) (fun v5_ => v5 = v5_) (fun v5_ e => ?_) ?_
          · subst e
            refine tr_cond (b := v5) (by simp) (fun c51 => ?_) (fun c51 => ?_)
            · rw [if_pos c51] at h1
              refine kr [2] (by simp; rfl) ?_
              have k1 := he1 _ (Option.some.inj h1)
              subst k1
              dsimp only at h0
              cases h0
              exact tr_ret ⟨[], by simp, rfl, by simp⟩
            · rw [if_neg (by rw [c51]; decide)] at h1
              refine tr_skip ?_
              refine lr (by simp; rfl) ?_
              refine lr (by simp; rfl) ?_
              exact ⟨_, hg1 _ (Option.some.inj h1), wk (by simp [weak_iff])⟩
          · refine kc1 ?_
            refine ko [1, 4, 6, 24, 25, 26, 33] 4 (by simp; rfl) ?_
            refine tops_split 33 (x4.Kind != 1) (by simp) (fun c52 => ?_) (fun c52 => ?_)
            · rw [if_pos c52] at hvv5
              refine ko [1, 4, 6, 24, 25, 26, 34, 35, 36, 38] 5 (by simp; rfl) ?_
              refine tops_split 38 (x4.Kind != 2) (by simp) (fun c53 => ?_) (fun c53 => ?_)
              · rw [if_pos c53] at hvv5
                refine kskip 4 [] (by kernel_rfl) ?_
                refine ko [1, 6, 24, 25, 26, 34, 35, 36, 44] 2 (by simp; rfl) ?_
                refine kskip 3 [] (by kernel_rfl) ?_
                refine ko [1, 6, 24, 25, 26, 34, 35, 36, 49] 2 (by simp; rfl) ?_
                refine kskip 5 [] (by kernel_rfl) ?_
                refine ko [1, 6, 24, 25, 26, 34, 35, 36, 56] 2 (by simp; rfl) ?_
                refine kskip 5 [] (by kernel_rfl) ?_
                refine ko [1, 6, 24, 25, 26, 34, 35, 36, 63] 2 (by simp; rfl) ?_
                refine kskip 5 [] (by kernel_rfl) ?_
                refine ko [1, 6, 24, 25, 26, 34, 35, 36, 69] 1 (by simp; rfl) ?_
                refine tops_nil ?_
                cases hvv5
                exact ⟨_, rfl, wk (by simp [weak_iff])⟩
              · rw [if_neg (by rw [c53]; decide)] at hvv5
                refine ko [1, 6, 24, 25, 26, 34, 35, 36, 39, 40, 41, 42, 44] 6 (by simp; rfl) ?_
                refine tops_split 44 (decide (x4.Time < s3.1)) (by simp) (fun c54 => ?_) (fun c54 => ?_)
                · rw [if_pos c54] at hvv5
                  refine kskip 3 [] (by kernel_rfl) ?_
                  refine ko [1, 6, 24, 25, 26, 34, 35, 36, 39, 40, 41, 42, 49] 2 (by simp; rfl) ?_
                  refine kskip 5 [] (by kernel_rfl) ?_
                  refine ko [1, 6, 24, 25, 26, 34, 35, 36, 39, 40, 41, 42, 56] 2 (by simp; rfl) ?_
                  refine kskip 5 [] (by kernel_rfl) ?_
                  refine ko [1, 6, 24, 25, 26, 34, 35, 36, 39, 40, 41, 42, 63] 2 (by simp; rfl) ?_
                  refine kskip 5 [] (by kernel_rfl) ?_
                  refine ko [1, 6, 24, 25, 26, 34, 35, 36, 39, 40, 41, 42, 69] 1 (by simp; rfl) ?_
                  refine tops_nil ?_
                  cases hvv5
                  exact ⟨_, rfl, wk (by simp [weak_iff])⟩
                · rw [if_neg (by rw [c54]; decide)] at hvv5
                  refine ko [1, 6, 24, 25, 26, 34, 35, 36, 39, 40, 41, 42, 45, 46, 47, 49] 5 (by simp; rfl) ?_
                  refine tops_split 49 (decide (1099511627776 < x4.Time)) (by simp) (fun c55 => ?_) (fun c55 => ?_)
                  · rw [if_pos c55] at hvv5
                    refine kskip 5 [] (by kernel_rfl) ?_
                    refine ko [1, 6, 24, 25, 26, 34, 35, 36, 39, 40, 41, 42, 45, 46, 47, 56] 2 (by simp; rfl) ?_
                    refine kskip 5 [] (by kernel_rfl) ?_
                    refine ko [1, 6, 24, 25, 26, 34, 35, 36, 39, 40, 41, 42, 45, 46, 47, 63] 2 (by simp; rfl) ?_
                    refine kskip 5 [] (by kernel_rfl) ?_
                    refine ko [1, 6, 24, 25, 26, 34, 35, 36, 39, 40, 41, 42, 45, 46, 47, 69] 1 (by simp; rfl) ?_
                    refine tops_nil ?_
                    cases hvv5
                    exact ⟨_, rfl, wk (by simp [weak_iff])⟩
                  · rw [if_neg (by rw [c55]; decide)] at hvv5
                    refine ko [1, 6, 24, 25, 26, 34, 35, 36, 39, 40, 41, 42, 45, 46, 47, 49, 50, 51, 52] 3 (by simp; rfl) ?_
                    replace hvv5 := bnd hvv5; obtain ⟨y6, hy6, hvv5⟩ := hvv5
                    refine kcall [1, 6, 24, 25, 26, 34, 35, 36, 39, 40, 41, 42, 45, 46, 47, 49, 50, 51, 52, 53] [] (directory_exists_ok hy6) rfl rfl rfl Tryz.call48 (by simp) (by simp; rfl) ?_
                    refine ko [1, 6, 24, 25, 26, 34, 35, 36, 39, 40, 41, 42, 45, 46, 47, 50, 51, 52, 53, 54, 56] 3 (by simp; rfl) ?_
                    refine tops_split 56 (!y6) (by simp) (fun c56 => ?_) (fun c56 => ?_)
                    · rw [if_pos c56] at hvv5
                      refine kskip 5 [] (by kernel_rfl) ?_
                      refine ko [1, 6, 24, 25, 26, 34, 35, 36, 39, 40, 41, 42, 45, 46, 47, 50, 51, 52, 53, 54, 63] 2 (by simp; rfl) ?_
                      refine kskip 5 [] (by kernel_rfl) ?_
                      refine ko [1, 6, 24, 25, 26, 34, 35, 36, 39, 40, 41, 42, 45, 46, 47, 50, 51, 52, 53, 54, 69] 1 (by simp; rfl) ?_
                      refine tops_nil ?_
                      cases hvv5
                      exact ⟨_, rfl, wk (by simp [weak_iff])⟩
                    · rw [if_neg (by rw [c56]; decide)] at hvv5
                      refine ko [1, 6, 24, 25, 26, 34, 35, 36, 39, 40, 41, 42, 45, 46, 47, 50, 51, 52, 53, 54, 56, 57, 58, 59] 3 (by simp; rfl) ?_
                      replace hvv5 := bnd hvv5; obtain ⟨y7, hy7, hvv5⟩ := hvv5
                      refine kcall [1, 6, 24, 25, 26, 34, 35, 36, 39, 40, 41, 42, 45, 46, 47, 50, 51, 52, 53, 54, 56, 57, 58, 59, 60] [] (directory_group_ok hy7) rfl rfl rfl Tryz.call49 (by simp) (by simp; rfl) ?_
                      refine ko [1, 6, 24, 25, 26, 34, 35, 36, 39, 40, 41, 42, 45, 46, 47, 50, 51, 52, 53, 54, 57, 58, 59, 60, 61, 63] 3 (by simp; rfl) ?_
                      refine tops_split 63 (!y7) (by simp) (fun c57 => ?_) (fun c57 => ?_)
                      · rw [if_pos c57] at hvv5
                        refine kskip 5 [] (by kernel_rfl) ?_
                        refine ko [1, 6, 24, 25, 26, 34, 35, 36, 39, 40, 41, 42, 45, 46, 47, 50, 51, 52, 53, 54, 57, 58, 59, 60, 61, 69] 1 (by simp; rfl) ?_
                        refine tops_nil ?_
                        cases hvv5
                        exact ⟨_, rfl, wk (by simp [weak_iff])⟩
                      · rw [if_neg (by rw [c57]; decide)] at hvv5
                        refine ko [1, 6, 24, 25, 26, 34, 35, 36, 39, 40, 41, 42, 45, 46, 47, 50, 51, 52, 53, 54, 57, 58, 59, 60, 61, 64, 65, 66, 67, 68, 69] 6 (by simp; rfl) ?_
                        refine tops_nil ?_
                        cases hvv5
                        exact ⟨_, rfl, wk (by simp [weak_iff])⟩
            · rw [if_neg (by rw [c52]; decide)] at hvv5
              refine kskip 3 [] (by kernel_rfl) ?_
              refine ko [1, 6, 24, 25, 26, 39, 40, 41, 42, 44] 8 (by simp; rfl) ?_
              refine tops_split 44 (decide (x4.Time < s3.1)) (by simp) (fun c58 => ?_) (fun c58 => ?_)
              · rw [if_pos c58] at hvv5
                refine kskip 3 [] (by kernel_rfl) ?_
                refine ko [1, 6, 24, 25, 26, 39, 40, 41, 42, 49] 2 (by simp; rfl) ?_
                refine kskip 5 [] (by kernel_rfl) ?_
                refine ko [1, 6, 24, 25, 26, 39, 40, 41, 42, 56] 2 (by simp; rfl) ?_
                refine kskip 5 [] (by kernel_rfl) ?_
                refine ko [1, 6, 24, 25, 26, 39, 40, 41, 42, 63] 2 (by simp; rfl) ?_
                refine kskip 5 [] (by kernel_rfl) ?_
                refine ko [1, 6, 24, 25, 26, 39, 40, 41, 42, 69] 1 (by simp; rfl) ?_
                refine tops_nil ?_
                cases hvv5
                exact ⟨_, rfl, wk (by simp [weak_iff])⟩
              · rw [if_neg (by rw [c58]; decide)] at hvv5
                refine ko [1, 6, 24, 25, 26, 39, 40, 41, 42, 45, 46, 47, 49] 5 (by simp; rfl) ?_
                refine tops_split 49 (decide (1099511627776 < x4.Time)) (by simp) (fun c59 => ?_) (fun c59 => ?_)
                · rw [if_pos c59] at hvv5
                  refine kskip 5 [] (by kernel_rfl) ?_
                  refine ko [1, 6, 24, 25, 26, 39, 40, 41, 42, 45, 46, 47, 56] 2 (by simp; rfl) ?_
                  refine kskip 5 [] (by kernel_rfl) ?_
                  refine ko [1, 6, 24, 25, 26, 39, 40, 41, 42, 45, 46, 47, 63] 2 (by simp; rfl) ?_
                  refine kskip 5 [] (by kernel_rfl) ?_
                  refine ko [1, 6, 24, 25, 26, 39, 40, 41, 42, 45, 46, 47, 69] 1 (by simp; rfl) ?_
                  refine tops_nil ?_
                  cases hvv5
                  exact ⟨_, rfl, wk (by simp [weak_iff])⟩
                · rw [if_neg (by rw [c59]; decide)] at hvv5
                  refine ko [1, 6, 24, 25, 26, 39, 40, 41, 42, 45, 46, 47, 49, 50, 51, 52] 3 (by simp; rfl) ?_
                  replace hvv5 := bnd hvv5; obtain ⟨y8, hy8, hvv5⟩ := hvv5
                  refine kcall [1, 6, 24, 25, 26, 39, 40, 41, 42, 45, 46, 47, 49, 50, 51, 52, 53] [] (directory_exists_ok hy8) rfl rfl rfl Tryz.call48 (by simp) (by simp; rfl) ?_
                  refine ko [1, 6, 24, 25, 26, 39, 40, 41, 42, 45, 46, 47, 50, 51, 52, 53, 54, 56] 3 (by simp; rfl) ?_
                  refine tops_split 56 (!y8) (by simp) (fun c60 => ?_) (fun c60 => ?_)
                  · rw [if_pos c60] at hvv5
                    refine kskip 5 [] (by kernel_rfl) ?_
                    refine ko [1, 6, 24, 25, 26, 39, 40, 41, 42, 45, 46, 47, 50, 51, 52, 53, 54, 63] 2 (by simp; rfl) ?_
                    refine kskip 5 [] (by kernel_rfl) ?_
                    refine ko [1, 6, 24, 25, 26, 39, 40, 41, 42, 45, 46, 47, 50, 51, 52, 53, 54, 69] 1 (by simp; rfl) ?_
                    refine tops_nil ?_
                    cases hvv5
                    exact ⟨_, rfl, wk (by simp [weak_iff])⟩
                  · rw [if_neg (by rw [c60]; decide)] at hvv5
                    refine ko [1, 6, 24, 25, 26, 39, 40, 41, 42, 45, 46, 47, 50, 51, 52, 53, 54, 56, 57, 58, 59] 3 (by simp; rfl) ?_
                    replace hvv5 := bnd hvv5; obtain ⟨y9, hy9, hvv5⟩ := hvv5
                    refine kcall [1, 6, 24, 25, 26, 39, 40, 41, 42, 45, 46, 47, 50, 51, 52, 53, 54, 56, 57, 58, 59, 60] [] (directory_group_ok hy9) rfl rfl rfl Tryz.call49 (by simp) (by simp; rfl) ?_
                    refine ko [1, 6, 24, 25, 26, 39, 40, 41, 42, 45, 46, 47, 50, 51, 52, 53, 54, 57, 58, 59, 60, 61, 63] 3 (by simp; rfl) ?_
                    refine tops_split 63 (!y9) (by simp) (fun c61 => ?_) (fun c61 => ?_)
                    · rw [if_pos c61] at hvv5
                      refine kskip 5 [] (by kernel_rfl) ?_
                      refine ko [1, 6, 24, 25, 26, 39, 40, 41, 42, 45, 46, 47, 50, 51, 52, 53, 54, 57, 58, 59, 60, 61, 69] 1 (by simp; rfl) ?_
                      refine tops_nil ?_
                      cases hvv5
                      exact ⟨_, rfl, wk (by simp [weak_iff])⟩
                    · rw [if_neg (by rw [c61]; decide)] at hvv5
                      refine ko [1, 6, 24, 25, 26, 39, 40, 41, 42, 45, 46, 47, 50, 51, 52, 53, 54, 57, 58, 59, 60, 61, 64, 65, 66, 67, 68, 69] 6 (by simp; rfl) ?_
                      refine tops_nil ?_
                      cases hvv5
                      exact ⟨_, rfl, wk (by simp [weak_iff])⟩
        · rw [if_neg (by rw [c30]; decide)] at h1
          refine tr_exit ?_
          exact ⟨_, he1 _ (Option.some.inj h1), wk (by simp [weak_iff])⟩
  · refine kc1 ?_
    refine ko [1, 3, 11] 5 (by simp; rfl) ?_
    refine tops_split 11 (decide (24 < ((a0.Kinds).length : Int))) (by simp) (fun c62 => ?_) (fun c62 => ?_)
    · rw [if_pos c62] at hvv1
      refine kskip 4 [] (by kernel_rfl) ?_
      refine ko [1, 3, 17] 2 (by simp; rfl) ?_
      refine kskip 4 [] (by kernel_rfl) ?_
      refine ko [1, 22] 1 (by simp; rfl) ?_
      refine tops_nil ?_
      cases hvv1
      exact ⟨_, rfl, wk (by simp [weak_iff])⟩
    · rw [if_neg (by rw [c62]; decide)] at hvv1
      refine ko [1, 3, 17] 6 (by simp; rfl) ?_
      refine tops_split 17 (decide (120 < ((a0.Events).length : Int))) (by simp) (fun c63 => ?_) (fun c63 => ?_)
      · rw [if_pos c63] at hvv1
        refine kskip 4 [] (by kernel_rfl) ?_
        refine ko [1, 22] 1 (by simp; rfl) ?_
        refine tops_nil ?_
        cases hvv1
        exact ⟨_, rfl, wk (by simp [weak_iff])⟩
      · rw [if_neg (by rw [c63]; decide)] at hvv1
        refine ko [1, 17, 19, 20] 3 (by simp; rfl) ?_
        replace hvv1 := bnd hvv1; obtain ⟨y12, hy12, hvv1⟩ := hvv1
        refine kcall [1, 17, 21] [] (slices_ContainsFunc_int_at_directory_Check_1_ok hy12) rfl rfl rfl Tryz.call47 (by simp) (by simp; rfl) ?_
        refine ko [1, 22] 1 (by simp; rfl) ?_
        refine tops_nil ?_
        cases hvv1
        exact ⟨_, rfl, wk (by simp [weak_iff])⟩
set_option maxHeartbeats 1000000 in
theorem owners_exists_ok {a0 : api_Directory} {a1 : Int} {r : Bool} (h0 : owners_exists a0 a1 = some r) : FnOK Tryz.prog 54 [] [.agg (api_Directory_av a0), .d (.int .i64 a1)] (.d (.bool r)) [] := by
  unfold owners_exists at h0
  refine fn_ok (nt := 14) (rs := [.tmp 4]) Tryz.func54 rfl Tryz.ntmps54 rfl (by simp) (by decide) rfl fun K => ?_
  refine kr [1, 2] (by simp; rfl) ?_
  replace h0 := bnd h0; obtain ⟨v1, hvv1, h0⟩ := h0
  refine sjv (fun v1_ : Bool => ({ nt := 14, env := [(4, .d (.bool v1_))], box := [], vec := [] } : St)) (fun v1_ => v1 = v1_) (fun v1_ e => ?_) ?_
  · subst e
    cases h0
    exact tr_ret ⟨[], by simp, rfl, by simp⟩
  · refine kc1 ?_
    refine ko [1, 2, 7] 3 (by simp; rfl) ?_
    refine tops_split 7 (decide (0 ≤ a1)) (by simp) (fun c3 => ?_) (fun c3 => ?_)
    · rw [c3] at hvv1
      refine ko [4] 7 (by simp; rfl) ?_
      refine tops_nil ?_
      cases hvv1
      exact ⟨_, rfl, wk (by simp [weak_iff])⟩
    · rw [c3] at hvv1
      refine kskip 5 [] (by kernel_rfl) ?_
      refine ko [4] 2 (by simp; rfl) ?_
      refine tops_nil ?_
      cases hvv1
      exact ⟨_, rfl, wk (by simp [weak_iff])⟩
set_option maxHeartbeats 1000000 in
theorem owners_Check_ok {a0 : api_Directory} {a1 : List api_Steward} {r : Int} (h0 : owners_Check a0 a1 = some r) : FnOK Tryz.prog 33 [] [.agg (api_Directory_av a0), .d (.slice (rowsF api_Steward_row a1))] (.d (.int .i64 r)) [] := by
  unfold owners_Check at h0
  refine fn_ok (nt := 61) (rs := [.tmp 4]) Tryz.func33 rfl Tryz.ntmps33 rfl (by simp) (by decide) rfl fun K => ?_
  refine kr [1, 2] (by simp; rfl) ?_
  refine tr_seq ?_
  refine kc ?_
  refine ko [1, 2, 9] 1 (by simp; rfl) ?_
  replace h0 := bnd h0; obtain ⟨y1, hy1, h0⟩ := h0
  refine kcall [1, 2, 10] [] (directory_Check_ok hy1) rfl rfl rfl Tryz.call26 (by simp) (by simp; rfl) ?_
  refine ko [1, 2, 5] 1 (by simp; rfl) ?_
  refine tops_nil ?_
  refine kr [1, 2, 5, 12] (by simp; rfl) ?_
  refine tr_cond (b := (y1 != 0)) (by simp) (fun c1 => ?_) (fun c1 => ?_)
  · rw [if_pos c1] at h0
    refine kr [4] (by simp; rfl) ?_
    cases h0
    exact tr_ret ⟨[], by simp, rfl, by simp⟩
  · rw [if_neg (by rw [c1]; decide)] at h0
    refine tr_skip ?_
    refine tr_seq ?_
    refine kr [1, 2, 16] (by simp; rfl) ?_
    refine tr_cond (b := (decide (120 < ((a1).length : Int)))) (by simp) (fun c2 => ?_) (fun c2 => ?_)
    · rw [if_pos c2] at h0
      refine kr [4] (by simp; rfl) ?_
      cases h0
      exact tr_ret ⟨[], by simp, rfl, by simp⟩
    · rw [if_neg (by rw [c2]; decide)] at h0
      refine tr_skip ?_
      refine kr [1, 2, 6] (by simp; rfl) ?_
      refine tr_seq ?_
      refine kr [2, 6, 17, 18, 19] (by simp; rfl) ?_
      replace h0 := bnd h0; obtain ⟨e1, hI1, h0⟩ := h0
      refine tjv (fun v2 : Unit => ({ nt := 61, env := [], box := [], vec := [] } : St)) (fun v2 => .inl v2 = e1) (fun v2 hI1e _ W1 => ?_) ?_
      · subst hI1e
        dsimp only at h0
        refine tr_wk W1 ?_
        refine kr [4] (by simp; rfl) ?_
        cases h0
        exact tr_ret ⟨[], by simp, rfl, by simp⟩
      · refine tr_block (tr_iter (fun s3 : Int × Int => ({ nt := 61, env := [(2, .ptr 2 0), (6, .d (.int .i64 s3.1)), (17, .d (.slice (rowsF api_Steward_row a1))), (18, .d (.int .i64 ((a1).length : Int))), (19, .d (.int .i64 s3.2))], box := [(2, [.d (.slice (rowsF (iRow .i64) a0.Kinds)), .d (.slice (rowsF api_Member_row a0.Events))])], vec := [] } : St)) hI1 (wk (by simp [weak_iff])) fun G1 s3 o1 h1 hg1 he1 => ?_)
        unfold owners_Check_l0 at h1
        refine kr [2, 6, 17, 18, 19, 20] (by simp; rfl) ?_
        refine tr_seq ?_
        refine tr_cond (b := (decide (s3.2 < ((a1).length : Int)))) (by simp) (fun c17 => ?_) (fun c17 => ?_)
        · rw [if_pos c17] at h1
          refine tr_skip ?_
          refine tr_seq ?_
          refine tr_block ?_
          replace h1 := bnd h1; obtain ⟨x4, p3, h1⟩ := h1
          replace p3 := idx_some p3
          have p3' := p3; try simp at p3'
          refine kr [2, 6, 8, 17, 18, 19] (by simp [p3, p3']; rfl) ?_
          refine tr_seq ?_
          replace h1 := bnd h1; obtain ⟨v5, hvv5, h1⟩ := h1
          refine sjv (fun v5_ : Bool => ({ nt := 61, env := [(2, .ptr 2 0), (8, .ptr 8 0), (17, .d (.slice (rowsF api_Steward_row a1))), (18, .d (.int .i64 ((a1).length : Int))), (19, .d (.int .i64 s3.2)), (57, .d (.bool v5_))], box := [(2, [.d (.slice (rowsF (iRow .i64) a0.Kinds)), .d (.slice (rowsF api_Member_row a0.Events))]), (8, [.d (.int .i64 x4.Time), .d (.int .i64 x4.Subject), .d (.int .i64 x4.Steward)])], vec := [] } : St)) (fun v5_ => v5 = v5_) (fun v5_ e => ?_) ?_
          · subst e
            refine tr_cond (b := v5) (by simp) (fun c28 => ?_) (fun c28 => ?_)
            · rw [if_pos c28] at h1
              refine kr [4] (by simp; rfl) ?_
              have k1 := he1 _ (Option.some.inj h1)
              subst k1
              dsimp only at h0
              cases h0
              exact tr_ret ⟨[], by simp, rfl, by simp⟩
            · rw [if_neg (by rw [c28]; decide)] at h1
              refine tr_skip ?_
              refine lr (by simp; rfl) ?_
              refine lr (by simp; rfl) ?_
              exact ⟨_, hg1 _ (Option.some.inj h1), wk (by simp [weak_iff])⟩
          · refine kc1 ?_
            refine ko [2, 8, 17, 18, 19, 27] 5 (by simp; rfl) ?_
            refine tops_split 27 (decide (x4.Time < s3.1)) (by simp) (fun c29 => ?_) (fun c29 => ?_)
            · rw [if_pos c29] at hvv5
              refine kskip 3 [] (by kernel_rfl) ?_
              refine ko [2, 8, 17, 18, 19, 32] 2 (by simp; rfl) ?_
              refine kskip 5 [] (by kernel_rfl) ?_
              refine ko [2, 8, 17, 18, 19, 39] 2 (by simp; rfl) ?_
              refine kskip 17 [] (by kernel_rfl) ?_
              refine ko [2, 8, 17, 18, 19, 57] 1 (by simp; rfl) ?_
              refine tops_nil ?_
              cases hvv5
              exact ⟨_, rfl, wk (by simp [weak_iff])⟩
            · rw [if_neg (by rw [c29]; decide)] at hvv5
              refine ko [2, 8, 17, 18, 19, 28, 29, 30, 32] 5 (by simp; rfl) ?_
              refine tops_split 32 (decide (1099511627776 < x4.Time)) (by simp) (fun c30 => ?_) (fun c30 => ?_)
              · rw [if_pos c30] at hvv5
                refine kskip 5 [] (by kernel_rfl) ?_
                refine ko [2, 8, 17, 18, 19, 28, 29, 30, 39] 2 (by simp; rfl) ?_
                refine kskip 17 [] (by kernel_rfl) ?_
                refine ko [2, 8, 17, 18, 19, 28, 29, 30, 57] 1 (by simp; rfl) ?_
                refine tops_nil ?_
                cases hvv5
                exact ⟨_, rfl, wk (by simp [weak_iff])⟩
              · rw [if_neg (by rw [c30]; decide)] at hvv5
                refine ko [2, 8, 17, 18, 19, 28, 29, 30, 32, 33, 34, 35] 3 (by simp; rfl) ?_
                replace hvv5 := bnd hvv5; obtain ⟨y6, hy6, hvv5⟩ := hvv5
                refine kcall [2, 8, 17, 18, 19, 28, 29, 30, 32, 33, 34, 35, 36] [] (owners_exists_ok hy6) rfl rfl rfl Tryz.call54 (by simp) (by simp; rfl) ?_
                refine ko [2, 8, 17, 18, 19, 28, 29, 30, 33, 34, 35, 36, 37, 39] 3 (by simp; rfl) ?_
                refine tops_split 39 (!y6) (by simp) (fun c31 => ?_) (fun c31 => ?_)
                · rw [if_pos c31] at hvv5
                  refine kskip 17 [] (by kernel_rfl) ?_
                  refine ko [2, 8, 17, 18, 19, 28, 29, 30, 33, 34, 35, 36, 37, 57] 1 (by simp; rfl) ?_
                  refine tops_nil ?_
                  cases hvv5
                  exact ⟨_, rfl, wk (by simp [weak_iff])⟩
                · rw [if_neg (by rw [c31]; decide)] at hvv5
                  refine ko [2, 8, 17, 18, 19, 28, 29, 30, 33, 34, 35, 36, 37, 39, 40, 41, 42, 43] 4 (by simp; rfl) ?_
                  refine tops_split 43 (x4.Steward != (-1)) (by simp) (fun c32 => ?_) (fun c32 => ?_)
                  · rw [if_pos c32] at hvv5
                    refine ko [2, 8, 17, 18, 19, 28, 29, 30, 33, 34, 35, 36, 37, 39, 40, 41, 42, 43, 44, 45, 46] 3 (by simp; rfl) ?_
                    replace hvv5 := bnd hvv5; obtain ⟨y7, hy7, hvv5⟩ := hvv5
                    refine kcall [2, 8, 17, 18, 19, 28, 29, 30, 33, 34, 35, 36, 37, 39, 40, 41, 42, 43, 44, 45, 46, 47] [] (owners_exists_ok hy7) rfl rfl rfl Tryz.call54 (by simp) (by simp; rfl) ?_
                    refine ko [2, 8, 17, 18, 19, 28, 29, 30, 33, 34, 35, 36, 37, 39, 40, 41, 42, 43, 44, 45, 46, 47, 48, 49] 2 (by simp; rfl) ?_
                    refine tops_split 49 (!y7) (by simp) (fun c33 => ?_) (fun c33 => ?_)
                    · rw [if_pos c33] at hvv5
                      refine kskip 5 [] (by kernel_rfl) ?_
                      refine ko [2, 8, 17, 18, 19, 28, 29, 30, 33, 34, 35, 36, 37, 40, 41, 42, 43, 44, 45, 46, 47, 48, 49, 55, 56, 57] 3 (by simp; rfl) ?_
                      refine tops_nil ?_
                      cases hvv5
                      exact ⟨_, rfl, wk (by simp [weak_iff])⟩
                    · rw [if_neg (by rw [c33]; decide)] at hvv5
                      refine ko [2, 8, 17, 18, 19, 28, 29, 30, 33, 34, 35, 36, 37, 40, 41, 42, 43, 44, 45, 46, 47, 48, 49, 50, 51, 52, 53, 54, 55, 56, 57] 8 (by simp; rfl) ?_
                      refine tops_nil ?_
                      cases hvv5
                      exact ⟨_, rfl, wk (by simp [weak_iff])⟩
                  · rw [if_neg (by rw [c32]; decide)] at hvv5
                    refine kskip 12 [] (by kernel_rfl) ?_
                    refine ko [2, 8, 17, 18, 19, 28, 29, 30, 33, 34, 35, 36, 37, 40, 41, 42, 43, 56, 57] 2 (by simp; rfl) ?_
                    refine tops_nil ?_
                    cases hvv5
                    exact ⟨_, rfl, wk (by simp [weak_iff])⟩
        · rw [if_neg (by rw [c17]; decide)] at h1
          refine tr_exit ?_
          exact ⟨_, he1 _ (Option.some.inj h1), wk (by simp [weak_iff])⟩
set_option maxHeartbeats 1000000 in
theorem notice_right_ok {a0 : api_Directory} {a1 : api_Case} {a2 : List (Int × Bool)} {r : Bool} (h0 : notice_right a0 a1 a2 = some r) : FnOK Tryz.prog 27 [] [.agg (api_Directory_av a0), .agg (api_Case_av a1), .d (.mp (mTag 69 1 false false) 2 (rowsF (mRow (iRow .i64) bRow) a2))] (.d (.bool r)) [] := by
  unfold notice_right at h0
  refine fn_ok (nt := 60) (rs := [.tmp 6]) Tryz.func27 rfl Tryz.ntmps27 rfl (by simp) (by decide) rfl fun K => ?_
  refine kr [2, 3, 4] (by simp; rfl) ?_
  refine tr_seq ?_
  replace h0 := bnd h0; obtain ⟨v1, hvv1, h0⟩ := h0
  refine sjv (fun v1_ : Bool => ({ nt := 60, env := [(2, .d (.mp (mTag 69 1 false false) 2 (rowsF (mRow (iRow .i64) bRow) a2))), (3, .ptr 3 0), (4, .ptr 4 0), (14, .d (.bool v1_))], box := [(3, [.d (.slice (rowsF (iRow .i64) a0.Kinds)), .d (.slice (rowsF api_Member_row a0.Events))]), (4, [.d (.int .i64 a1.Time), .d (.int .i64 a1.Kind), .d (.int .i64 a1.Case), .d (.int .i64 a1.Level), .d (.int .i64 a1.Owner)])], vec := [] } : St)) (fun v1_ => v1 = v1_) (fun v1_ e => ?_) ?_
  · subst e
    refine tr_cond (b := v1) (by simp) (fun c3 => ?_) (fun c3 => ?_)
    · rw [if_pos c3] at h0
      refine kr [6] (by simp; rfl) ?_
      cases h0
      exact tr_ret ⟨[], by simp, rfl, by simp⟩
    · rw [if_neg (by rw [c3]; decide)] at h0
      refine tr_skip ?_
      refine tr_seq ?_
      refine kr [2, 3, 4, 16] (by simp; rfl) ?_
      refine tr_block ?_
      refine kr [2, 3, 4, 16, 17] (by simp; rfl) ?_
      refine tr_cond (b := (a1.Kind == 1)) (by simp) (fun c4 => ?_) (fun c4 => ?_)
      · rw [if_pos c4] at h0
        replace h0 := bnd h0; obtain ⟨v2, hvv2, h0⟩ := h0
        refine sjv (fun v2_ : Bool => ({ nt := 60, env := [(6, .d (.bool v2_))], box := [], vec := [] } : St)) (fun v2_ => v2 = v2_) (fun v2_ e => ?_) ?_
        · subst e
          cases h0
          exact tr_ret ⟨[], by simp, rfl, by simp⟩
        · refine kc1 ?_
          refine ko [3, 4, 24] 6 (by simp; rfl) ?_
          refine tops_split 24 (!((mget inE a2 a1.Case).getD false)) (by simp) (fun c11 => ?_) (fun c11 => ?_)
          · rw [if_pos c11] at hvv2
            refine ko [3, 4, 24, 26] 2 (by simp; rfl) ?_
            replace hvv2 := bnd hvv2; obtain ⟨y3, hy3, hvv2⟩ := hvv2
            refine kcall [3, 4, 24, 27] [] (notice_Deadline_ok hy3) rfl rfl rfl Tryz.call11 (by simp) (by simp; rfl) ?_
            refine ko [3, 4, 30] 3 (by simp; rfl) ?_
            refine tops_split 30 (decide (0 < y3)) (by simp) (fun c12 => ?_) (fun c12 => ?_)
            · rw [if_pos c12] at hvv2
              refine ko [3, 4, 35] 5 (by simp; rfl) ?_
              refine tops_split 35 (decide (0 ≤ a1.Owner)) (by simp) (fun c13 => ?_) (fun c13 => ?_)
              · rw [if_pos c13] at hvv2
                refine ko [6] 8 (by simp; rfl) ?_
                refine tops_nil ?_
                cases hvv2
                exact ⟨_, rfl, wk (by simp [weak_iff])⟩
              · rw [if_neg (by rw [c13]; decide)] at hvv2
                refine kskip 6 [] (by kernel_rfl) ?_
                refine ko [6] 2 (by simp; rfl) ?_
                refine tops_nil ?_
                cases hvv2
                exact ⟨_, rfl, wk (by simp [weak_iff])⟩
            · rw [if_neg (by rw [c12]; decide)] at hvv2
              refine kskip 3 [] (by kernel_rfl) ?_
              refine ko [3, 4, 35] 2 (by simp; rfl) ?_
              refine kskip 6 [] (by kernel_rfl) ?_
              refine ko [6] 2 (by simp; rfl) ?_
              refine tops_nil ?_
              cases hvv2
              exact ⟨_, rfl, wk (by simp [weak_iff])⟩
          · rw [if_neg (by rw [c11]; decide)] at hvv2
            refine kskip 4 [] (by kernel_rfl) ?_
            refine ko [3, 4, 30] 2 (by simp; rfl) ?_
            refine kskip 3 [] (by kernel_rfl) ?_
            refine ko [3, 4, 35] 2 (by simp; rfl) ?_
            refine kskip 6 [] (by kernel_rfl) ?_
            refine ko [6] 2 (by simp; rfl) ?_
            refine tops_nil ?_
            cases hvv2
            exact ⟨_, rfl, wk (by simp [weak_iff])⟩
      · rw [if_neg (by rw [c4]; decide)] at h0
        refine sjv (fun v4 : Bool => ({ nt := 60, env := [(2, .d (.mp (mTag 69 1 false false) 2 (rowsF (mRow (iRow .i64) bRow) a2))), (4, .ptr 4 0), (43, .d (.bool v4))], box := [(4, [.d (.int .i64 a1.Time), .d (.int .i64 a1.Kind), .d (.int .i64 a1.Case), .d (.int .i64 a1.Level), .d (.int .i64 a1.Owner)])], vec := [] } : St)) (fun v4 => notice_right_j0 a2 a1 v4 = some r) (fun v4 h0 => ?_) ?_
        · unfold notice_right_j0 at h0
          refine tr_cond (b := v4) (by simp) (fun c15 => ?_) (fun c15 => ?_)
          · rw [if_pos c15] at h0
            replace h0 := bnd h0; obtain ⟨v5, hvv5, h0⟩ := h0
            refine sjv (fun v5_ : Bool => ({ nt := 60, env := [(6, .d (.bool v5_))], box := [], vec := [] } : St)) (fun v5_ => v5 = v5_) (fun v5_ e => ?_) ?_
            · subst e
              cases h0
              exact tr_ret ⟨[], by simp, rfl, by simp⟩
            · refine kc1 ?_
              refine ko [4, 50] 5 (by simp; rfl) ?_
              refine tops_split 50 ((mget inE a2 a1.Case).getD false) (by simp) (fun c20 => ?_) (fun c20 => ?_)
              · rw [c20] at hvv5
                refine ko [4, 55] 5 (by simp; rfl) ?_
                refine tops_split 55 (a1.Level == 0) (by simp) (fun c21 => ?_) (fun c21 => ?_)
                · rw [c21] at hvv5
                  refine ko [6] 5 (by simp; rfl) ?_
                  refine tops_nil ?_
                  cases hvv5
                  exact ⟨_, rfl, wk (by simp [weak_iff])⟩
                · rw [c21] at hvv5
                  refine kskip 3 [] (by kernel_rfl) ?_
                  refine ko [6] 2 (by simp; rfl) ?_
                  refine tops_nil ?_
                  cases hvv5
                  exact ⟨_, rfl, wk (by simp [weak_iff])⟩
              · rw [c20] at hvv5
                refine kskip 3 [] (by kernel_rfl) ?_
                refine ko [4, 55] 2 (by simp; rfl) ?_
                refine kskip 3 [] (by kernel_rfl) ?_
                refine ko [6] 2 (by simp; rfl) ?_
                refine tops_nil ?_
                cases hvv5
                exact ⟨_, rfl, wk (by simp [weak_iff])⟩
          · rw [if_neg (by rw [c15]; decide)] at h0
            refine tr_skip ?_
            refine kr [6] (by simp; rfl) ?_
            cases h0
            exact tr_ret ⟨[], by simp, rfl, by simp⟩
        · refine kr [2, 4, 16, 43] (by simp; rfl) ?_
          refine tr_cond (b := (a1.Kind == 2)) (by simp) (fun c22 => ?_) (fun c22 => ?_)
          · rw [if_pos c22] at h0
            refine tr_skip ?_
            exact ⟨_, h0, wk (by simp [weak_iff])⟩
          · rw [if_neg (by rw [c22]; decide)] at h0
            refine lr (by simp; rfl) ?_
            exact ⟨_, h0, wk (by simp [weak_iff])⟩
  · refine kc1 ?_
    refine ko [2, 3, 4, 10] 4 (by simp; rfl) ?_
    refine tops_split 10 (decide (a1.Case < 0)) (by simp) (fun c23 => ?_) (fun c23 => ?_)
    · rw [c23] at hvv1
      refine kskip 3 [] (by kernel_rfl) ?_
      refine ko [2, 3, 4, 14] 1 (by simp; rfl) ?_
      refine tops_nil ?_
      cases hvv1
      exact ⟨_, rfl, wk (by simp [weak_iff])⟩
    · rw [c23] at hvv1
      refine ko [2, 3, 4, 14] 4 (by simp; rfl) ?_
      refine tops_nil ?_
      cases hvv1
      exact ⟨_, rfl, wk (by simp [weak_iff])⟩
set_option maxHeartbeats 1000000 in
theorem notice_Check_ok {a0 : api_Directory} {a1 : List api_Case} {r : Int} (h0 : notice_Check a0 a1 = some r) : FnOK Tryz.prog 13 [] [.agg (api_Directory_av a0), .d (.slice (rowsF api_Case_row a1))] (.d (.int .i64 r)) [] := by
  unfold notice_Check at h0
  refine fn_okK (nt := 47) (rs := [.tmp 4]) Tryz.func13 rfl Tryz.ntmps13 rfl (by simp) (by decide) rfl fun K hK => ?_
  refine kr [1, 2] (by simp; rfl) ?_
  refine tr_seq ?_
  refine kc ?_
  refine ko [1, 2, 10] 1 (by simp; rfl) ?_
  replace h0 := bnd h0; obtain ⟨y1, hy1, h0⟩ := h0
  refine kcall [1, 2, 11] [] (directory_Check_ok hy1) rfl rfl rfl Tryz.call26 (by simp) (by simp; rfl) ?_
  refine ko [1, 2, 5] 1 (by simp; rfl) ?_
  refine tops_nil ?_
  refine kr [1, 2, 5, 13] (by simp; rfl) ?_
  refine tr_cond (b := (y1 != 0)) (by simp) (fun c1 => ?_) (fun c1 => ?_)
  · rw [if_pos c1] at h0
    refine kr [4] (by simp; rfl) ?_
    cases h0
    exact tr_ret ⟨[], by simp, rfl, by simp⟩
  · rw [if_neg (by rw [c1]; decide)] at h0
    refine tr_skip ?_
    refine tr_seq ?_
    refine kr [1, 2, 17] (by simp; rfl) ?_
    refine tr_cond (b := (decide (100 < ((a1).length : Int)))) (by simp) (fun c2 => ?_) (fun c2 => ?_)
    · rw [if_pos c2] at h0
      refine kr [4] (by simp; rfl) ?_
      cases h0
      exact tr_ret ⟨[], by simp, rfl, by simp⟩
    · rw [if_neg (by rw [c2]; decide)] at h0
      refine tr_skip ?_
      refine kr [1, 2, 6, 7] (by simp; rfl) ?_
      refine tr_seq ?_
      refine kr [2, 6, 7, 19, 20, 21] (by simp; rfl) ?_
      replace h0 := bnd h0; obtain ⟨e1, hI1, h0⟩ := h0
      refine tjv (fun v2 : Unit => ({ nt := 47, env := [], box := [], vec := [] } : St)) (fun v2 => .inl v2 = e1) (fun v2 hI1e _ W1 => ?_) ?_
      · subst hI1e
        dsimp only at h0
        refine tr_wk W1 ?_
        refine kr [4] (by simp; rfl) ?_
        cases h0
        exact tr_ret ⟨[], by simp, rfl, by simp⟩
      · refine tr_block (tr_iter (fun s3 : Int × Int × (List (Int × Bool)) => ({ nt := 47, env := [(2, .ptr 2 0), (6, .d (.int .i64 s3.1)), (7, .vec 18), (19, .d (.slice (rowsF api_Case_row a1))), (20, .d (.int .i64 ((a1).length : Int))), (21, .d (.int .i64 s3.2.1))], box := [(2, [.d (.slice (rowsF (iRow .i64) a0.Kinds)), .d (.slice (rowsF api_Member_row a0.Events))])], vec := [(18, ⟨mTag 69 1 false false, 2, rowsF (mRow (iRow .i64) bRow) s3.2.2⟩)] } : St)) hI1 (wk (by simp [weak_iff])) fun G1 s3 o1 h1 hg1 he1 => ?_)
        unfold notice_Check_l0 at h1
        refine kr [2, 6, 7, 19, 20, 21, 22] (by simp; rfl) ?_
        refine tr_seq ?_
        refine tr_cond (b := (decide (s3.2.1 < ((a1).length : Int)))) (by simp) (fun c11 => ?_) (fun c11 => ?_)
        · rw [if_pos c11] at h1
          refine tr_skip ?_
          refine tr_seq ?_
          refine tr_block ?_
          replace h1 := bnd h1; obtain ⟨x4, p5, h1⟩ := h1
          replace p5 := idx_some p5
          have p5' := p5; try simp at p5'
          refine kr [2, 6, 7, 9, 19, 20, 21] (by simp [p5, p5']; rfl) ?_
          refine tr_seq ?_
          replace h1 := bnd h1; obtain ⟨v5, hvv5, h1⟩ := h1
          refine sjv (fun v5_ : Bool => ({ nt := 47, env := [(2, .ptr 2 0), (7, .vec 18), (9, .ptr 9 0), (19, .d (.slice (rowsF api_Case_row a1))), (20, .d (.int .i64 ((a1).length : Int))), (21, .d (.int .i64 s3.2.1)), (40, .d (.bool v5_))], box := [(2, [.d (.slice (rowsF (iRow .i64) a0.Kinds)), .d (.slice (rowsF api_Member_row a0.Events))]), (9, [.d (.int .i64 x4.Time), .d (.int .i64 x4.Kind), .d (.int .i64 x4.Case), .d (.int .i64 x4.Level), .d (.int .i64 x4.Owner)])], vec := [(18, ⟨mTag 69 1 false false, 2, rowsF (mRow (iRow .i64) bRow) s3.2.2⟩)] } : St)) (fun v5_ => v5 = v5_) (fun v5_ e => ?_) ?_
          · subst e
            refine tr_cond (b := v5) (by simp) (fun c16 => ?_) (fun c16 => ?_)
            · rw [if_pos c16] at h1
              refine kr [4] (by simp; rfl) ?_
              have k1 := he1 _ (Option.some.inj h1)
              subst k1
              dsimp only at h0
              cases h0
              exact tr_ret ⟨[], by simp, rfl, by simp⟩
            · rw [if_neg (by rw [c16]; decide)] at h1
              refine tr_skip ?_
              refine kheld1 (S0 := ({ nt := 47, env := [(2, .ptr 2 0), (6, .d (.int .i64 x4.Time)), (7, .vec 18), (19, .d (.slice (rowsF api_Case_row a1))), (20, .d (.int .i64 ((a1).length : Int))), (21, .d (.int .i64 s3.2.1))], box := [(2, [.d (.slice (rowsF (iRow .i64) a0.Kinds)), .d (.slice (rowsF api_Member_row a0.Events))])], vec := [(18, ⟨mTag 69 1 false false, 2, rowsF (mRow (iRow .i64) bRow) (mset inE s3.2.2 x4.Case true)⟩)] } : St)) [0, 1, 3] 4 (by simpa using hK) fol (by decide +kernel) rfl rfl rfl (by simp [stillsL, stillB, pureP, pureB]; rfl) (fun K' S F C => ?_) (fun _ Wk6 => ?_)
              ·
                refine ho_all C [2, 4] (by decide +kernel) (by decide) ?_
                refine hall_cons rfl (by simp; rfl) ?_ ?_
                ·
                  refine ho_all C [4] (by decide +kernel) (by decide) ?_
                  refine hall_cons rfl (by simp; rfl) ?_ ?_
                  ·
                    refine ho_pure C 5 rfl (by decide +kernel) (by decide +kernel) (by simp [pureP, pureB]) (by simp; rfl) ?_
                    refine ho_all C [6] (by decide +kernel) (by decide) ?_
                    refine hall_cons rfl (by simp; rfl) ?_ ?_
                    ·
                      exact ho_end C (by decide +kernel) ⟨rfl, weak_iff.2 (by simp)⟩
                    exact trivial
                  exact trivial
                refine hall_cons rfl (by simp; rfl) ?_ ?_
                ·
                  refine ho_pure C 5 rfl (by decide +kernel) (by decide +kernel) (by simp [pureP, pureB]) (by simp; rfl) ?_
                  refine ho_all C [2] (by decide +kernel) (by decide) ?_
                  refine hall_cons rfl (by simp; rfl) ?_ ?_
                  ·
                    refine ho_all C [6] (by decide +kernel) (by decide) ?_
                    refine hall_cons rfl (by simp; rfl) ?_ ?_
                    ·
                      exact ho_end C (by decide +kernel) ⟨rfl, weak_iff.2 (by simp)⟩
                    exact trivial
                  exact trivial
                exact trivial
              ·
                refine tr_wk (wk Wk6) ?_
                refine lr (by simp; rfl) ?_
                exact ⟨_, hg1 _ (Option.some.inj h1), wk (by simp [weak_iff])⟩
          · refine kc1 ?_
            refine ko [2, 7, 9, 19, 20, 21, 29] 5 (by simp; rfl) ?_
            refine tops_split 29 (decide (x4.Time < s3.1)) (by simp) (fun c17 => ?_) (fun c17 => ?_)
            · rw [if_pos c17] at hvv5
              refine kskip 3 [] (by kernel_rfl) ?_
              refine ko [2, 7, 9, 19, 20, 21, 34] 2 (by simp; rfl) ?_
              refine kskip 5 [] (by kernel_rfl) ?_
              refine ko [2, 7, 9, 19, 20, 21, 40] 1 (by simp; rfl) ?_
              refine tops_nil ?_
              cases hvv5
              exact ⟨_, rfl, wk (by simp [weak_iff])⟩
            · rw [if_neg (by rw [c17]; decide)] at hvv5
              refine ko [2, 7, 9, 19, 20, 21, 30, 31, 32, 34] 5 (by simp; rfl) ?_
              refine tops_split 34 (decide (1099511627776 < x4.Time)) (by simp) (fun c18 => ?_) (fun c18 => ?_)
              · rw [if_pos c18] at hvv5
                refine kskip 5 [] (by kernel_rfl) ?_
                refine ko [2, 7, 9, 19, 20, 21, 30, 31, 32, 40] 1 (by simp; rfl) ?_
                refine tops_nil ?_
                cases hvv5
                exact ⟨_, rfl, wk (by simp [weak_iff])⟩
              · rw [if_neg (by rw [c18]; decide)] at hvv5
                refine ko [2, 7, 9, 19, 20, 21, 30, 31, 32, 34, 35, 36, 37] 3 (by simp; rfl) ?_
                replace hvv5 := bnd hvv5; obtain ⟨y6, hy6, hvv5⟩ := hvv5
                refine kcallv [2, 7, 9, 19, 20, 21, 30, 31, 32, 34, 35, 36, 37, 38] (notice_right_ok hy6) rfl rfl rfl Tryz.call27 (by simp) (by simp; rfl) ?_
                refine ko [2, 7, 9, 19, 20, 21, 30, 31, 32, 35, 36, 37, 38, 39, 40] 2 (by simp; rfl) ?_
                refine tops_nil ?_
                cases hvv5
                exact ⟨_, rfl, wk (by simp [weak_iff])⟩
        · rw [if_neg (by rw [c11]; decide)] at h1
          refine tr_exit ?_
          exact ⟨_, he1 _ (Option.some.inj h1), wk (by simp [weak_iff])⟩
set_option maxHeartbeats 1000000 in
theorem notice_first_ok {a0 : List Int} {r : Int} (h0 : notice_first a0 = some r) : FnOK Tryz.prog 31 [] [.d (.slice (rowsF (iRow .i64) a0))] (.d (.int .i64 r)) [] := by
  unfold notice_first at h0
  refine fn_ok (nt := 15) (rs := [.tmp 2]) Tryz.func31 rfl Tryz.ntmps31 rfl (by simp) (by decide) rfl fun K => ?_
  refine kr [0] (by simp; rfl) ?_
  refine tr_seq ?_
  refine kr [5, 6, 7] (by simp; rfl) ?_
  replace h0 := bnd h0; obtain ⟨e1, hI1, h0⟩ := h0
  refine tjv (fun v1 : Unit => ({ nt := 15, env := [], box := [], vec := [] } : St)) (fun v1 => .inl v1 = e1) (fun v1 hI1e _ W1 => ?_) ?_
  · subst hI1e
    dsimp only at h0
    refine tr_wk W1 ?_
    refine kr [2] (by simp; rfl) ?_
    cases h0
    exact tr_ret ⟨[], by simp, rfl, by simp⟩
  · refine tr_block (tr_iter (fun s2 : Int => ({ nt := 15, env := [(5, .d (.slice (rowsF (iRow .i64) a0))), (6, .d (.int .i64 ((a0).length : Int))), (7, .d (.int .i64 s2))], box := [], vec := [] } : St)) hI1 (wk (by simp [weak_iff])) fun G1 s2 o1 h1 hg1 he1 => ?_)
    unfold notice_first_l0 at h1
    refine kr [5, 6, 7, 8] (by simp; rfl) ?_
    refine tr_seq ?_
    refine tr_cond (b := (decide (s2 < ((a0).length : Int)))) (by simp) (fun c5 => ?_) (fun c5 => ?_)
    · rw [if_pos c5] at h1
      refine tr_skip ?_
      refine tr_seq ?_
      refine tr_block ?_
      replace h1 := bnd h1; obtain ⟨x3, p3, h1⟩ := h1
      replace p3 := idx_some p3
      have p3' := p3; try simp at p3'
      refine kr [4, 5, 6, 7] (by simp [p3, p3']; rfl) ?_
      refine kr [4, 5, 6, 7, 12] (by simp; rfl) ?_
      refine tr_cond (b := (x3 != 0)) (by simp) (fun c6 => ?_) (fun c6 => ?_)
      · rw [if_pos c6] at h1
        refine kr [2] (by simp; rfl) ?_
        have k1 := he1 _ (Option.some.inj h1)
        subst k1
        dsimp only at h0
        cases h0
        exact tr_ret ⟨[], by simp, rfl, by simp⟩
      · rw [if_neg (by rw [c6]; decide)] at h1
        refine tr_skip ?_
        refine lr (by simp; rfl) ?_
        exact ⟨_, hg1 _ (Option.some.inj h1), wk (by simp [weak_iff])⟩
    · rw [if_neg (by rw [c5]; decide)] at h1
      refine tr_exit ?_
      exact ⟨_, he1 _ (Option.some.inj h1), wk (by simp [weak_iff])⟩
set_option maxHeartbeats 1000000 in
theorem calendar_tick_ok {a0 : Int} {r : Bool} (h0 : calendar_tick a0 = some r) : FnOK Tryz.prog 70 [] [.d (.int .i64 a0)] (.d (.bool r)) [] := by
  unfold calendar_tick at h0
  refine fn_ok (nt := 5) (rs := [.tmp 2]) Tryz.func70 rfl Tryz.ntmps70 rfl (by simp) (by decide) rfl fun K => ?_
  refine kr [0] (by simp; rfl) ?_
  refine kc ?_
  refine ko [3] 1 (by simp; rfl) ?_
  replace h0 := bnd h0; obtain ⟨y1, hy1, h0⟩ := h0
  refine kcall [4] [] (calendar_among_ok hy1) rfl rfl rfl Tryz.call52 (by simp) (by simp; rfl) ?_
  refine ko [2] 1 (by simp; rfl) ?_
  refine tops_nil ?_
  cases h0
  exact tr_ret ⟨[], by simp, rfl, by simp⟩
set_option maxHeartbeats 1000000 in
theorem cmp_isNaN_int_ok {a0 : Int} {r : Bool} (h0 : cmp_isNaN_int a0 = some r) : FnOK Tryz.prog 60 [] [.d (.int .i64 a0)] (.d (.bool r)) [] := by
  unfold cmp_isNaN_int at h0
  refine fn_ok (nt := 6) (rs := [.tmp 2]) Tryz.func60 rfl Tryz.ntmps60 rfl (by simp) (by decide) rfl fun K => ?_
  refine kr [0] (by simp; rfl) ?_
  refine kr [2] (by simp; rfl) ?_
  cases h0
  exact tr_ret ⟨[], by simp, rfl, by simp⟩
set_option maxHeartbeats 1000000 in
theorem cmp_Less_int_ok {a0 : Int} {a1 : Int} {r : Bool} (h0 : cmp_Less_int a0 a1 = some r) : FnOK Tryz.prog 100 [] [.d (.int .i64 a0), .d (.int .i64 a1)] (.d (.bool r)) [] := by
  unfold cmp_Less_int at h0
  refine fn_ok (nt := 17) (rs := [.tmp 4]) Tryz.func100 rfl Tryz.ntmps100 rfl (by simp) (by decide) rfl fun K => ?_
  refine kr [0, 1] (by simp; rfl) ?_
  replace h0 := bnd h0; obtain ⟨v1, hvv1, h0⟩ := h0
  refine sjv (fun v1_ : Bool => ({ nt := 17, env := [(4, .d (.bool v1_))], box := [], vec := [] } : St)) (fun v1_ => v1 = v1_) (fun v1_ e => ?_) ?_
  · subst e
    cases h0
    exact tr_ret ⟨[], by simp, rfl, by simp⟩
  · refine kc1 ?_
    refine ko [0, 1, 5] 1 (by simp; rfl) ?_
    replace hvv1 := bnd hvv1; obtain ⟨y2, hy2, hvv1⟩ := hvv1
    refine kcall [0, 1, 6] [] (cmp_isNaN_int_ok hy2) rfl rfl rfl Tryz.call60 (by simp) (by simp; rfl) ?_
    refine ko [0, 1, 7] 1 (by simp; rfl) ?_
    refine tops_split 7 y2 (by simp) (fun c5 => ?_) (fun c5 => ?_)
    · rw [if_pos c5] at hvv1
      refine ko [0, 1, 7, 8] 1 (by simp; rfl) ?_
      replace hvv1 := bnd hvv1; obtain ⟨y3, hy3, hvv1⟩ := hvv1
      refine kcall [0, 1, 7, 9] [] (cmp_isNaN_int_ok hy3) rfl rfl rfl Tryz.call60 (by simp) (by simp; rfl) ?_
      refine ko [0, 1, 12] 3 (by simp; rfl) ?_
      refine tops_split 12 (!y3) (by simp) (fun c6 => ?_) (fun c6 => ?_)
      · rw [if_pos c6] at hvv1
        refine kskip 3 [] (by kernel_rfl) ?_
        refine ko [4] 2 (by simp; rfl) ?_
        refine tops_nil ?_
        cases hvv1
        exact ⟨_, rfl, wk (by simp [weak_iff])⟩
      · rw [if_neg (by rw [c6]; decide)] at hvv1
        refine ko [4] 5 (by simp; rfl) ?_
        refine tops_nil ?_
        cases hvv1
        exact ⟨_, rfl, wk (by simp [weak_iff])⟩
    · rw [if_neg (by rw [c5]; decide)] at hvv1
      refine kskip 3 [] (by kernel_rfl) ?_
      refine ko [4] 7 (by simp; rfl) ?_
      refine tops_nil ?_
      cases hvv1
      exact ⟨_, rfl, wk (by simp [weak_iff])⟩
set_option maxHeartbeats 1000000 in
theorem slices_isNaN_int_ok {a0 : Int} {r : Bool} (h0 : slices_isNaN_int a0 = some r) : FnOK Tryz.prog 103 [] [.d (.int .i64 a0)] (.d (.bool r)) [] := by
  unfold slices_isNaN_int at h0
  refine fn_ok (nt := 6) (rs := [.tmp 2]) Tryz.func103 rfl Tryz.ntmps103 rfl (by simp) (by decide) rfl fun K => ?_
  refine kr [0] (by simp; rfl) ?_
  refine kr [2] (by simp; rfl) ?_
  cases h0
  exact tr_ret ⟨[], by simp, rfl, by simp⟩
set_option maxHeartbeats 1000000 in
theorem slices_BinarySearch_int_ok {a0 : List Int} {a1 : Int} {r : Int × Bool} (h0 : slices_BinarySearch_int a0 a1 = some r) : FnOK Tryz.prog 87 [] [.d (.slice (rowsF (iRow .i64) a0)), .d (.int .i64 a1)] (.tup [.d (.int .i64 r.1), .d (.bool r.2)]) [] := by
  unfold slices_BinarySearch_int at h0
  refine fn_ok (nt := 54) (rs := [.tmp 4, .tmp 5]) Tryz.func87 rfl Tryz.ntmps87 rfl (by simp) (by decide) rfl fun K => ?_
  refine kr [0, 1] (by simp; rfl) ?_
  refine kr [0, 1, 6] (by simp; rfl) ?_
  refine kr [0, 1, 6, 7, 8] (by simp; rfl) ?_
  replace h0 := bnd h0; obtain ⟨e1, hI1, h0⟩ := h0
  refine sjv (fun v1 : Int => ({ nt := 54, env := [(0, .d (.slice (rowsF (iRow .i64) a0))), (1, .d (.int .i64 a1)), (6, .d (.int .i64 ((a0).length : Int))), (7, .d (.int .i64 v1))], box := [], vec := [] } : St)) (fun v1 => v1 = e1) (fun v1 hI1e => ?_) ?_
  · subst hI1e
    replace h0 := bnd h0; obtain ⟨v2, hvv2, h0⟩ := h0
    refine sjv (fun v2_ : Bool => ({ nt := 54, env := [(4, .d (.int .i64 v1)), (5, .d (.bool v2_))], box := [], vec := [] } : St)) (fun v2_ => v2 = v2_) (fun v2_ e => ?_) ?_
    · subst e
      cases h0
      exact tr_ret ⟨[], by simp, rfl, by simp⟩
    · refine kc1 ?_
      refine ko [0, 1, 7, 31, 35] 5 (by simp; rfl) ?_
      refine tops_split 35 (decide (v1 < ((a0).length : Int))) (by simp) (fun c11 => ?_) (fun c11 => ?_)
      · rw [if_pos c11] at hvv2
        replace hvv2 := bnd hvv2; obtain ⟨x3, p5, hvv2⟩ := hvv2
        replace p5 := idx_some p5
        have p5' := p5; try simp at p5'
        refine ko [0, 1, 7, 31, 35, 42] 7 (by simp [p5, p5']; rfl) ?_
        refine tops_split 42 (x3 == a1) (by simp) (fun c12 => ?_) (fun c12 => ?_)
        · rw [if_pos c12] at hvv2
          refine kskip 9 [] (by kernel_rfl) ?_
          refine ko [4, 5] 4 (by simp; rfl) ?_
          refine tops_nil ?_
          cases hvv2
          exact ⟨_, rfl, wk (by simp [weak_iff])⟩
        · rw [if_neg (by rw [c12]; decide)] at hvv2
          refine ko [1, 31, 35, 42, 46] 4 (by simp [p5, p5']; rfl) ?_
          replace hvv2 := bnd hvv2; obtain ⟨y4, hy4, hvv2⟩ := hvv2
          refine kcall [1, 31, 35, 42, 47] [] (slices_isNaN_int_ok hy4) rfl rfl rfl Tryz.call103 (by simp) (by simp; rfl) ?_
          refine ko [1, 31, 35, 42, 48] 1 (by simp; rfl) ?_
          refine tops_split 48 y4 (by simp) (fun c13 => ?_) (fun c13 => ?_)
          · rw [if_pos c13] at hvv2
            refine ko [31, 35, 42, 48, 49] 1 (by simp; rfl) ?_
            replace hvv2 := bnd hvv2; obtain ⟨y5, hy5, hvv2⟩ := hvv2
            refine kcall [31, 35, 42, 48, 50] [] (slices_isNaN_int_ok hy5) rfl rfl rfl Tryz.call103 (by simp) (by simp; rfl) ?_
            refine ko [4, 5] 5 (by simp; rfl) ?_
            refine tops_nil ?_
            cases hvv2
            exact ⟨_, rfl, wk (by simp [weak_iff])⟩
          · rw [if_neg (by rw [c13]; decide)] at hvv2
            refine ko [4, 5] 7 (by simp; rfl) ?_
            refine tops_nil ?_
            cases hvv2
            exact ⟨_, rfl, wk (by simp [weak_iff])⟩
      · rw [if_neg (by rw [c11]; decide)] at hvv2
        refine kskip 17 [] (by kernel_rfl) ?_
        refine ko [4, 5] 3 (by simp; rfl) ?_
        refine tops_nil ?_
        cases hvv2
        exact ⟨_, rfl, wk (by simp [weak_iff])⟩
  · refine tr_block (tr_iter (fun s6 : Int × Int => ({ nt := 54, env := [(0, .d (.slice (rowsF (iRow .i64) a0))), (1, .d (.int .i64 a1)), (6, .d (.int .i64 ((a0).length : Int))), (7, .d (.int .i64 s6.1)), (8, .d (.int .i64 s6.2))], box := [], vec := [] } : St)) hI1 (wk (by simp [weak_iff])) fun G1 s6 o1 h1 hg1 he1 => ?_)
    unfold slices_BinarySearch_int_l0 at h1
    refine tr_seq ?_
    refine kr [0, 1, 6, 7, 8, 15] (by simp; rfl) ?_
    refine tr_cond (b := (decide (s6.1 < s6.2))) (by simp) (fun c14 => ?_) (fun c14 => ?_)
    · rw [if_pos c14] at h1
      refine tr_skip ?_
      refine tr_block ?_
      refine kr [0, 1, 6, 7, 8, 9] (by simp; rfl) ?_
      refine kc ?_
      replace h1 := bnd h1; obtain ⟨x7, p6, h1⟩ := h1
      replace p6 := idx_some p6
      have p6' := p6; try simp at p6'
      refine ko [0, 1, 6, 7, 8, 9, 25, 26] 5 (by simp [p6, p6']; rfl) ?_
      replace h1 := bnd h1; obtain ⟨y8, hy8, h1⟩ := h1
      refine kcall [0, 1, 6, 7, 8, 9, 27] [] (cmp_Less_int_ok hy8) rfl rfl rfl Tryz.call100 (by simp) (by simp; rfl) ?_
      refine tops_nil ?_
      refine tr_cond (b := y8) (by simp) (fun c15 => ?_) (fun c15 => ?_)
      · rw [if_pos c15] at h1
        refine lr (by simp; rfl) ?_
        exact ⟨_, hg1 _ (Option.some.inj h1), wk (by simp [weak_iff])⟩
      · rw [if_neg (by rw [c15]; decide)] at h1
        refine lr (by simp; rfl) ?_
        exact ⟨_, hg1 _ (Option.some.inj h1), wk (by simp [weak_iff])⟩
    · rw [if_neg (by rw [c14]; decide)] at h1
      refine tr_exit ?_
      exact ⟨_, he1 _ (Option.some.inj h1), wk (by simp [weak_iff])⟩
set_option maxHeartbeats 1000000 in
theorem calendar_working_ok {a0 : api_Calendar} {a1 : Int} {r : Bool} (h0 : calendar_working a0 a1 = some r) : FnOK Tryz.prog 71 [] [.agg (api_Calendar_av a0), .d (.int .i64 a1)] (.d (.bool r)) [] := by
  unfold calendar_working at h0
  refine fn_ok (nt := 47) (rs := [.tmp 4]) Tryz.func71 rfl Tryz.ntmps71 rfl (by simp) (by decide) rfl fun K => ?_
  refine kr [1, 2] (by simp; rfl) ?_
  refine kd [[], [], [1], [0, 2], [], [], [5], [4, 6], [3], [7]] [] [] none [] 10 fol (by decide +kernel) (by simp) ?_
  replace h0 := bnd h0; obtain ⟨_, p5, h0⟩ := h0
  replace p5 := ck_some p5
  have p5' := p5; try simp at p5'
  replace h0 := bnd h0; obtain ⟨_, p6, h0⟩ := h0
  replace p6 := ck_some p6
  have p6' := p6; try simp at p6'
  refine dr_go 0 2 rfl (by simp (maxSteps := 1000000) [p5, p6, p5', p6']; rfl) ?_
  refine dr_go 2 2 rfl (by simp (maxSteps := 1000000) [p5, p6, p5', p6']; rfl) ?_
  refine dr_go 4 2 rfl (by simp (maxSteps := 1000000) [p5, p6, p5', p6']; rfl) ?_
  refine dr_go 6 2 rfl (by simp (maxSteps := 1000000) [p5, p6, p5', p6']; rfl) ?_
  refine dr_go 8 2 rfl (by simp (maxSteps := 1000000) [p5, p6, p5', p6']; rfl) ?_
  refine dr_end rfl (tops_nil ?_)
  refine kc ?_
  refine ko [2, 5, 6, 19, 20] 3 (by simp; rfl) ?_
  replace h0 := bnd h0; obtain ⟨y1, hy1, h0⟩ := h0
  refine kcall [2, 5, 6, 21] [] (slices_BinarySearch_int_ok hy1) rfl rfl rfl Tryz.call87 (by simp) (by simp; rfl) ?_
  refine ko [2, 5, 6, 8] 5 (by simp; rfl) ?_
  refine tops_nil ?_
  replace h0 := bnd h0; obtain ⟨v2, hvv2, h0⟩ := h0
  refine sjv (fun v2_ : Bool => ({ nt := 47, env := [(4, .d (.bool v2_))], box := [], vec := [] } : St)) (fun v2_ => v2 = v2_) (fun v2_ e => ?_) ?_
  · subst e
    cases h0
    exact tr_ret ⟨[], by simp, rfl, by simp⟩
  · refine kc1 ?_
    refine ko [2, 5, 6, 8, 28] 5 (by simp; rfl) ?_
    refine tops_split 28 (decide (a0.From ≤ ((a1).tmod a0.Day))) (by simp) (fun c7 => ?_) (fun c7 => ?_)
    · rw [if_pos c7] at hvv2
      refine ko [2, 5, 8, 34] 6 (by simp; rfl) ?_
      refine tops_split 34 (decide (((a1).tmod a0.Day) < a0.To)) (by simp) (fun c8 => ?_) (fun c8 => ?_)
      · rw [if_pos c8] at hvv2
        replace hvv2 := bnd hvv2; obtain ⟨_, p9, hvv2⟩ := hvv2
        replace p9 := ck_some p9
        have p9' := p9; try simp at p9'
        refine ko [8, 43] 9 (by simp [p9, p9']; rfl) ?_
        refine tops_split 43 ((bAnd .i64 ((a0.Week).fdiv (2 ^ (min (Int.toNat (((IntKind.i64.wrap ((a1).tdiv a0.Day))).tmod 7)) IntKind.i64.bits))) 1) == 1) (by simp) (fun c9 => ?_) (fun c9 => ?_)
        · rw [if_pos c9] at hvv2
          refine ko [4] 4 (by simp; rfl) ?_
          refine tops_nil ?_
          cases hvv2
          exact ⟨_, rfl, wk (by simp [weak_iff])⟩
        · rw [if_neg (by rw [c9]; decide)] at hvv2
          refine ko [4] 4 (by simp; rfl) ?_
          refine tops_nil ?_
          cases hvv2
          exact ⟨_, rfl, wk (by simp [weak_iff])⟩
      · rw [if_neg (by rw [c8]; decide)] at hvv2
        refine kskip 7 [] (by kernel_rfl) ?_
        refine ko [4] 6 (by simp; rfl) ?_
        refine tops_nil ?_
        cases hvv2
        exact ⟨_, rfl, wk (by simp [weak_iff])⟩
    · rw [if_neg (by rw [c7]; decide)] at hvv2
      refine kskip 4 [] (by kernel_rfl) ?_
      refine ko [2, 5, 8, 34] 2 (by simp; rfl) ?_
      refine kskip 7 [] (by kernel_rfl) ?_
      refine ko [4] 6 (by simp; rfl) ?_
      refine tops_nil ?_
      cases hvv2
      exact ⟨_, rfl, wk (by simp [weak_iff])⟩
set_option maxHeartbeats 1000000 in
theorem calendar_Add_ok {a0 : api_Calendar} {a1 : Int} {a2 : Int} {r : Int × Int} (h0 : calendar_Add a0 a1 a2 = some r) : FnOK Tryz.prog 55 [] [.agg (api_Calendar_av a0), .d (.int .i64 a1), .d (.int .i64 a2)] (.tup [.d (.int .i64 r.1), .d (.int .i64 r.2)]) [] := by
  unfold calendar_Add at h0
  refine fn_ok (nt := 38) (rs := [.tmp 6, .tmp 7]) Tryz.func55 rfl Tryz.ntmps55 rfl (by simp) (by decide) rfl fun K => ?_
  refine kr [1, 2, 3] (by simp; rfl) ?_
  refine tr_seq ?_
  refine tr_block ?_
  refine kc ?_
  refine ko [1, 2, 3, 10] 1 (by simp; rfl) ?_
  replace h0 := bnd h0; obtain ⟨y1, hy1, h0⟩ := h0
  refine kcall [1, 2, 3, 11] [] (calendar_Check_ok hy1) rfl rfl rfl Tryz.call32 (by simp) (by simp; rfl) ?_
  refine ko [1, 2, 3, 9] 2 (by simp; rfl) ?_
  refine tops_nil ?_
  refine tr_cond (b := (y1 != 0)) (by simp) (fun c1 => ?_) (fun c1 => ?_)
  · rw [if_pos c1] at h0
    refine kr [6, 7] (by simp; rfl) ?_
    cases h0
    exact tr_ret ⟨[], by simp, rfl, by simp⟩
  · rw [if_neg (by rw [c1]; decide)] at h0
    replace h0 := bnd h0; obtain ⟨v2, hvv2, h0⟩ := h0
    refine sjv (fun v2_ : Bool => ({ nt := 38, env := [(1, .d (.int .i64 a1)), (2, .d (.int .i64 a2)), (3, .ptr 3 0), (13, .d (.bool v2_))], box := [(3, [.d (.int .i64 a0.Day), .d (.int .i64 a0.From), .d (.int .i64 a0.To), .d (.int .i64 a0.Week), .d (.slice (rowsF (iRow .i64) a0.Holidays))])], vec := [] } : St)) (fun v2_ => v2 = v2_) (fun v2_ e => ?_) ?_
    · subst e
      refine tr_cond (b := v2) (by simp) (fun c4 => ?_) (fun c4 => ?_)
      · rw [if_pos c4] at h0
        refine kr [6, 7] (by simp; rfl) ?_
        cases h0
        exact tr_ret ⟨[], by simp, rfl, by simp⟩
      · rw [if_neg (by rw [c4]; decide)] at h0
        refine tr_skip ?_
        refine tr_seq ?_
        refine kr [1, 2, 3, 8] (by simp; rfl) ?_
        replace h0 := bnd h0; obtain ⟨e1, hI1, h0⟩ := h0
        refine tjv (fun v3 : Unit => ({ nt := 38, env := [], box := [], vec := [] } : St)) (fun v3 => .inl v3 = e1) (fun v3 hI1e _ W1 => ?_) ?_
        · subst hI1e
          dsimp only at h0
          refine tr_wk W1 ?_
          refine kr [6, 7] (by simp; rfl) ?_
          cases h0
          exact tr_ret ⟨[], by simp, rfl, by simp⟩
        · refine tr_block (tr_iter (fun s4 : Int × Int => ({ nt := 38, env := [(1, .d (.int .i64 a1)), (2, .d (.int .i64 s4.1)), (3, .ptr 3 0), (8, .d (.int .i64 s4.2))], box := [(3, [.d (.int .i64 a0.Day), .d (.int .i64 a0.From), .d (.int .i64 a0.To), .d (.int .i64 a0.Week), .d (.slice (rowsF (iRow .i64) a0.Holidays))])], vec := [] } : St)) hI1 (wk (by simp [weak_iff])) fun G1 s4 o1 h1 hg1 he1 => ?_)
          unfold calendar_Add_l0 at h1
          refine tr_seq ?_
          refine kr [1, 2, 3, 8, 27] (by simp; rfl) ?_
          refine tr_cond (b := (decide (s4.2 ≤ (if 1099511627776 < (IntKind.i64.wrap (a1 + 100000)) then 1099511627776 else (IntKind.i64.wrap (a1 + 100000)))))) (by simp) (fun c11 => ?_) (fun c11 => ?_)
          · rw [if_pos c11] at h1
            refine tr_skip ?_
            refine tr_seq ?_
            refine tr_block ?_
            refine tr_seq ?_
            refine kr [1, 2, 3, 8, 31] (by simp; rfl) ?_
            refine tr_cond (b := (s4.1 == 0)) (by simp) (fun c12 => ?_) (fun c12 => ?_)
            · rw [if_pos c12] at h1
              refine kr [6, 7] (by simp; rfl) ?_
              have k1 := he1 _ (Option.some.inj h1)
              subst k1
              dsimp only at h0
              cases h0
              exact tr_ret ⟨[], by simp, rfl, by simp⟩
            · rw [if_neg (by rw [c12]; decide)] at h1
              refine tr_skip ?_
              refine kc ?_
              refine ko [1, 2, 3, 8, 33, 34] 2 (by simp; rfl) ?_
              replace h1 := bnd h1; obtain ⟨y5, hy5, h1⟩ := h1
              refine kcall [1, 2, 3, 8, 35] [] (calendar_working_ok hy5) rfl rfl rfl Tryz.call71 (by simp) (by simp; rfl) ?_
              refine tops_nil ?_
              refine tr_cond (b := y5) (by simp) (fun c13 => ?_) (fun c13 => ?_)
              · rw [if_pos c13] at h1
                refine lr (by simp; rfl) ?_
                refine lr (by simp; rfl) ?_
                exact ⟨_, hg1 _ (Option.some.inj h1), wk (by simp [weak_iff])⟩
              · rw [if_neg (by rw [c13]; decide)] at h1
                refine tr_skip ?_
                refine lr (by simp; rfl) ?_
                exact ⟨_, hg1 _ (Option.some.inj h1), wk (by simp [weak_iff])⟩
          · rw [if_neg (by rw [c11]; decide)] at h1
            refine tr_exit ?_
            exact ⟨_, he1 _ (Option.some.inj h1), wk (by simp [weak_iff])⟩
    · refine kc1 ?_
      refine ko [1, 2, 3, 14] 1 (by simp; rfl) ?_
      replace hvv2 := bnd hvv2; obtain ⟨y8, hy8, hvv2⟩ := hvv2
      refine kcall [1, 2, 3, 15] [] (calendar_tick_ok hy8) rfl rfl rfl Tryz.call70 (by simp) (by simp; rfl) ?_
      refine ko [1, 2, 3, 17] 2 (by simp; rfl) ?_
      refine tops_split 17 (!y8) (by simp) (fun c14 => ?_) (fun c14 => ?_)
      · rw [if_pos c14] at hvv2
        refine kskip 3 [] (by kernel_rfl) ?_
        refine ko [1, 2, 3, 13] 2 (by simp; rfl) ?_
        refine tops_nil ?_
        cases hvv2
        exact ⟨_, rfl, wk (by simp [weak_iff])⟩
      · rw [if_neg (by rw [c14]; decide)] at hvv2
        refine ko [1, 2, 3, 17, 18] 1 (by simp; rfl) ?_
        replace hvv2 := bnd hvv2; obtain ⟨y9, hy9, hvv2⟩ := hvv2
        refine kcall [1, 2, 3, 17, 19] [] (calendar_among_ok hy9) rfl rfl rfl Tryz.call52 (by simp) (by simp; rfl) ?_
        refine ko [1, 2, 3, 13] 3 (by simp; rfl) ?_
        refine tops_nil ?_
        cases hvv2
        exact ⟨_, rfl, wk (by simp [weak_iff])⟩
set_option maxHeartbeats 1000000 in
theorem notice_answered_1_cbb_ok {a0 : api_Case} {a1 : Int} {a2 : Int} {r : Bool × Int × Int} (h0 : notice_answered_1_cbb a0 a1 a2 = some r) : FnOK Tryz.prog 73 [[.d (.int .i64 a1)], [.d (.int .i64 a2)]] [.agg (api_Case_av a0), .ptr (InO 0) 0, .ptr (InO 1) 0] (.d (.bool r.1)) [[.d (.int .i64 r.2.1)], [.d (.int .i64 r.2.2)]] := by
  unfold notice_answered_1_cbb at h0
  refine fn_ok (nt := 15) (rs := [.tmp 4]) Tryz.func73 rfl Tryz.ntmps73 rfl (by simp) (by decide) rfl fun K => ?_
  refine kr [1, 2, 3] (by simp; rfl) ?_
  replace h0 := bnd h0; obtain ⟨v1, hvv1, h0⟩ := h0
  refine sjv (fun v1_ : Bool => ({ nt := 15, env := [(4, .d (.bool v1_))], box := [(1000000, [.d (.int .i64 a1)]), (1000001, [.d (.int .i64 a2)])], vec := [] } : St)) (fun v1_ => v1 = v1_) (fun v1_ e => ?_) ?_
  · subst e
    cases h0
    exact tr_ret ⟨[], by simp, rfl, by simp⟩
  · refine kc1 ?_
    refine ko [2, 3, 9] 5 (by simp; rfl) ?_
    refine tops_split 9 (a0.Case == a1) (by simp) (fun c3 => ?_) (fun c3 => ?_)
    · rw [c3] at hvv1
      refine ko [4] 6 (by simp; rfl) ?_
      refine tops_nil ?_
      cases hvv1
      exact ⟨_, rfl, wk (by simp [weak_iff])⟩
    · rw [c3] at hvv1
      refine kskip 4 [] (by kernel_rfl) ?_
      refine ko [4] 2 (by simp; rfl) ?_
      refine tops_nil ?_
      cases hvv1
      exact ⟨_, rfl, wk (by simp [weak_iff])⟩
set_option maxHeartbeats 1000000 in
theorem slices_IndexFunc_api_Case_at_notice_answered_1_bb_ok {a0 : List api_Case} {b10 : Int} {b11 : Int} {r : Int × Int × Int} (h0 : slices_IndexFunc_api_Case_at_notice_answered_1_bb a0 b10 b11 = some r) : FnOK Tryz.prog 88 [[.d (.int .i64 b10)], [.d (.int .i64 b11)]] [.d (.slice (rowsF api_Case_row a0)), .fn 73 [.ptr (InO 0) 0, .ptr (InO 1) 0]] (.d (.int .i64 r.1)) [[.d (.int .i64 r.2.1)], [.d (.int .i64 r.2.2)]] := by
  unfold slices_IndexFunc_api_Case_at_notice_answered_1_bb at h0
  refine fn_ok (nt := 19) (rs := [.tmp 4]) Tryz.func88 rfl Tryz.ntmps88 rfl (by simp) (by decide) rfl fun K => ?_
  refine kr [0, 1] (by simp; rfl) ?_
  refine tr_seq ?_
  refine kr [0, 1, 7, 8] (by simp; rfl) ?_
  replace h0 := bnd h0; obtain ⟨e1, hI1, h0⟩ := h0
  refine tjv (fun v1 : Int × Int => ({ nt := 19, env := [], box := [(1000000, [.d (.int .i64 v1.1)]), (1000001, [.d (.int .i64 v1.2)])], vec := [] } : St)) (fun v1 => .inl v1 = e1) (fun v1 hI1e _ W1 => ?_) ?_
  · subst hI1e
    dsimp only at h0
    refine tr_wk W1 ?_
    refine kr [4] (by simp; rfl) ?_
    cases h0
    exact tr_ret ⟨[], by simp, rfl, by simp⟩
  · refine tr_block (tr_iter (fun s2 : Int × Int × Int => ({ nt := 19, env := [(0, .d (.slice (rowsF api_Case_row a0))), (1, .fn 73 [.ptr 1000000 0, .ptr 1000001 0]), (7, .d (.int .i64 ((a0).length : Int))), (8, .d (.int .i64 s2.1))], box := [(1000000, [.d (.int .i64 s2.2.1)]), (1000001, [.d (.int .i64 s2.2.2)])], vec := [] } : St)) hI1 (wk (by simp [weak_iff])) fun G1 s2 o1 h1 hg1 he1 => ?_)
    unfold slices_IndexFunc_api_Case_at_notice_answered_1_bb_l0 at h1
    refine kr [0, 1, 7, 8, 9] (by simp; rfl) ?_
    refine tr_seq ?_
    refine tr_cond (b := (decide (s2.1 < ((a0).length : Int)))) (by simp) (fun c5 => ?_) (fun c5 => ?_)
    · rw [if_pos c5] at h1
      refine tr_skip ?_
      refine tr_seq ?_
      refine tr_block ?_
      refine kr [0, 1, 5, 7, 8] (by simp; rfl) ?_
      refine kc ?_
      replace h1 := bnd h1; obtain ⟨x3, p3, h1⟩ := h1
      replace p3 := idx_some p3
      have p3' := p3; try simp at p3'
      refine ko [0, 1, 5, 7, 8, 11, 15] 5 (by simp [p3, p3']; rfl) ?_
      replace h1 := bnd h1; obtain ⟨y4, hy4, h1⟩ := h1
      refine kcallV [0, 1, 5, 7, 8, 16] [1000000, 1000001] [] [] (notice_answered_1_cbb_ok hy4) rfl rfl rfl Tryz.call73 (by simp) (by simp; rfl) ?_
      refine tops_nil ?_
      refine tr_cond (b := y4.1) (by simp) (fun c6 => ?_) (fun c6 => ?_)
      · rw [if_pos c6] at h1
        refine kr [4] (by simp; rfl) ?_
        have k1 := he1 _ (Option.some.inj h1)
        subst k1
        dsimp only at h0
        cases h0
        exact tr_ret ⟨[], by simp, rfl, by simp⟩
      · rw [if_neg (by rw [c6]; decide)] at h1
        refine tr_skip ?_
        refine lr (by simp; rfl) ?_
        exact ⟨_, hg1 _ (Option.some.inj h1), wk (by simp [weak_iff])⟩
    · rw [if_neg (by rw [c5]; decide)] at h1
      refine tr_exit ?_
      exact ⟨_, he1 _ (Option.some.inj h1), wk (by simp [weak_iff])⟩
set_option maxHeartbeats 1000000 in
theorem slices_ContainsFunc_api_Case_at_notice_answered_1_bb_ok {a0 : List api_Case} {b10 : Int} {b11 : Int} {r : Bool × Int × Int} (h0 : slices_ContainsFunc_api_Case_at_notice_answered_1_bb a0 b10 b11 = some r) : FnOK Tryz.prog 72 [[.d (.int .i64 b10)], [.d (.int .i64 b11)]] [.d (.slice (rowsF api_Case_row a0)), .fn 73 [.ptr (InO 0) 0, .ptr (InO 1) 0]] (.d (.bool r.1)) [[.d (.int .i64 r.2.1)], [.d (.int .i64 r.2.2)]] := by
  unfold slices_ContainsFunc_api_Case_at_notice_answered_1_bb at h0
  refine fn_ok (nt := 9) (rs := [.tmp 4]) Tryz.func72 rfl Tryz.ntmps72 rfl (by simp) (by decide) rfl fun K => ?_
  refine kr [0, 1] (by simp; rfl) ?_
  refine kc ?_
  refine ko [5, 6] 2 (by simp; rfl) ?_
  replace h0 := bnd h0; obtain ⟨y1, hy1, h0⟩ := h0
  refine kcall [7] [1000000, 1000001] (slices_IndexFunc_api_Case_at_notice_answered_1_bb_ok hy1) rfl rfl rfl Tryz.call88 (by simp) (by simp; rfl) ?_
  refine ko [4] 2 (by simp; rfl) ?_
  refine tops_nil ?_
  cases h0
  exact tr_ret ⟨[], by simp, rfl, by simp⟩
set_option maxHeartbeats 1000000 in
theorem notice_answered_ok {a0 : List api_Case} {a1 : Int} {a2 : Int} {r : Bool} (h0 : notice_answered a0 a1 a2 = some r) : FnOK Tryz.prog 56 [] [.d (.slice (rowsF api_Case_row a0)), .d (.int .i64 a1), .d (.int .i64 a2)] (.d (.bool r)) [] := by
  unfold notice_answered at h0
  refine fn_ok (nt := 10) (rs := [.tmp 6]) Tryz.func56 rfl Tryz.ntmps56 rfl (by simp) (by decide) rfl fun K => ?_
  refine kr [0, 4, 5] (by simp; rfl) ?_
  refine kc ?_
  refine ko [7, 8] 2 (by simp; rfl) ?_
  replace h0 := bnd h0; obtain ⟨y1, hy1, h0⟩ := h0
  refine kcall [9] [4, 5] (slices_ContainsFunc_api_Case_at_notice_answered_1_bb_ok hy1) rfl rfl rfl Tryz.call72 (by simp) (by simp; rfl) ?_
  refine ko [6] 1 (by simp; rfl) ?_
  refine tops_nil ?_
  cases h0
  exact tr_ret ⟨[], by simp, rfl, by simp⟩
set_option maxHeartbeats 1000000 in
theorem owners_known_ok {a0 : api_Directory} {a1 : List api_Steward} {a2 : Int} {r : Bool} (h0 : owners_known a0 a1 a2 = some r) : FnOK Tryz.prog 74 [] [.agg (api_Directory_av a0), .d (.slice (rowsF api_Steward_row a1)), .d (.int .i64 a2)] (.d (.bool r)) [] := by
  unfold owners_known at h0
  refine fn_ok (nt := 16) (rs := [.tmp 6]) Tryz.func74 rfl Tryz.ntmps74 rfl (by simp) (by decide) rfl fun K => ?_
  refine kr [1, 2, 3] (by simp; rfl) ?_
  replace h0 := bnd h0; obtain ⟨v1, hvv1, h0⟩ := h0
  refine sjv (fun v1_ : Bool => ({ nt := 16, env := [(6, .d (.bool v1_))], box := [], vec := [] } : St)) (fun v1_ => v1 = v1_) (fun v1_ e => ?_) ?_
  · subst e
    cases h0
    exact tr_ret ⟨[], by simp, rfl, by simp⟩
  · refine kc1 ?_
    refine ko [2, 3, 7, 8] 2 (by simp; rfl) ?_
    replace hvv1 := bnd hvv1; obtain ⟨y2, hy2, hvv1⟩ := hvv1
    refine kcall [2, 3, 9] [] (owners_Check_ok hy2) rfl rfl rfl Tryz.call33 (by simp) (by simp; rfl) ?_
    refine ko [2, 3, 11] 2 (by simp; rfl) ?_
    refine tops_split 11 (y2 == 0) (by simp) (fun c3 => ?_) (fun c3 => ?_)
    · rw [if_pos c3] at hvv1
      refine ko [11, 12, 13] 2 (by simp; rfl) ?_
      replace hvv1 := bnd hvv1; obtain ⟨y3, hy3, hvv1⟩ := hvv1
      refine kcall [11, 14] [] (owners_exists_ok hy3) rfl rfl rfl Tryz.call54 (by simp) (by simp; rfl) ?_
      refine ko [6] 2 (by simp; rfl) ?_
      refine tops_nil ?_
      cases hvv1
      exact ⟨_, rfl, wk (by simp [weak_iff])⟩
    · rw [if_neg (by rw [c3]; decide)] at hvv1
      refine kskip 3 [] (by kernel_rfl) ?_
      refine ko [6] 2 (by simp; rfl) ?_
      refine tops_nil ?_
      cases hvv1
      exact ⟨_, rfl, wk (by simp [weak_iff])⟩
set_option maxHeartbeats 1000000 in
theorem slices_Index_int_ok {a0 : List Int} {a1 : Int} {r : Int} (h0 : slices_Index_int a0 a1 = some r) : FnOK Tryz.prog 67 [] [.d (.slice (rowsF (iRow .i64) a0)), .d (.int .i64 a1)] (.d (.int .i64 r)) [] := by
  unfold slices_Index_int at h0
  refine fn_ok (nt := 19) (rs := [.tmp 4]) Tryz.func67 rfl Tryz.ntmps67 rfl (by simp) (by decide) rfl fun K => ?_
  refine kr [0, 1] (by simp; rfl) ?_
  refine tr_seq ?_
  refine kr [0, 1, 7, 8] (by simp; rfl) ?_
  replace h0 := bnd h0; obtain ⟨e1, hI1, h0⟩ := h0
  refine tjv (fun v1 : Unit => ({ nt := 19, env := [], box := [], vec := [] } : St)) (fun v1 => .inl v1 = e1) (fun v1 hI1e _ W1 => ?_) ?_
  · subst hI1e
    dsimp only at h0
    refine tr_wk W1 ?_
    refine kr [4] (by simp; rfl) ?_
    cases h0
    exact tr_ret ⟨[], by simp, rfl, by simp⟩
  · refine tr_block (tr_iter (fun s2 : Int => ({ nt := 19, env := [(0, .d (.slice (rowsF (iRow .i64) a0))), (1, .d (.int .i64 a1)), (7, .d (.int .i64 ((a0).length : Int))), (8, .d (.int .i64 s2))], box := [], vec := [] } : St)) hI1 (wk (by simp [weak_iff])) fun G1 s2 o1 h1 hg1 he1 => ?_)
    unfold slices_Index_int_l0 at h1
    refine kr [0, 1, 7, 8, 9] (by simp; rfl) ?_
    refine tr_seq ?_
    refine tr_cond (b := (decide (s2 < ((a0).length : Int)))) (by simp) (fun c5 => ?_) (fun c5 => ?_)
    · rw [if_pos c5] at h1
      refine tr_skip ?_
      refine tr_seq ?_
      refine tr_block ?_
      refine kr [0, 1, 5, 7, 8] (by simp; rfl) ?_
      replace h1 := bnd h1; obtain ⟨x3, p3, h1⟩ := h1
      replace p3 := idx_some p3
      have p3' := p3; try simp at p3'
      refine kr [0, 1, 5, 7, 8, 16] (by simp [p3, p3']; rfl) ?_
      refine tr_cond (b := (a1 == x3)) (by simp) (fun c6 => ?_) (fun c6 => ?_)
      · rw [if_pos c6] at h1
        refine kr [4] (by simp; rfl) ?_
        have k1 := he1 _ (Option.some.inj h1)
        subst k1
        dsimp only at h0
        cases h0
        exact tr_ret ⟨[], by simp, rfl, by simp⟩
      · rw [if_neg (by rw [c6]; decide)] at h1
        refine tr_skip ?_
        refine lr (by simp; rfl) ?_
        exact ⟨_, hg1 _ (Option.some.inj h1), wk (by simp [weak_iff])⟩
    · rw [if_neg (by rw [c5]; decide)] at h1
      refine tr_exit ?_
      exact ⟨_, he1 _ (Option.some.inj h1), wk (by simp [weak_iff])⟩
set_option maxHeartbeats 1000000 in
theorem slices_Contains_int_ok {a0 : List Int} {a1 : Int} {r : Bool} (h0 : slices_Contains_int a0 a1 = some r) : FnOK Tryz.prog 44 [] [.d (.slice (rowsF (iRow .i64) a0)), .d (.int .i64 a1)] (.d (.bool r)) [] := by
  unfold slices_Contains_int at h0
  refine fn_ok (nt := 9) (rs := [.tmp 4]) Tryz.func44 rfl Tryz.ntmps44 rfl (by simp) (by decide) rfl fun K => ?_
  refine kr [0, 1] (by simp; rfl) ?_
  refine kc ?_
  refine ko [5, 6] 2 (by simp; rfl) ?_
  replace h0 := bnd h0; obtain ⟨y1, hy1, h0⟩ := h0
  refine kcall [7] [] (slices_Index_int_ok hy1) rfl rfl rfl Tryz.call67 (by simp) (by simp; rfl) ?_
  refine ko [4] 2 (by simp; rfl) ?_
  refine tops_nil ?_
  cases h0
  exact tr_ret ⟨[], by simp, rfl, by simp⟩
set_option maxHeartbeats 1000000 in
theorem owners_of_ok {a0 : List api_Steward} {a1 : Int} {a2 : Int} {r : Int} (h0 : owners_of a0 a1 a2 = some r) : FnOK Tryz.prog 75 [] [.d (.slice (rowsF api_Steward_row a0)), .d (.int .i64 a1), .d (.int .i64 a2)] (.d (.int .i64 r)) [] := by
  unfold owners_of at h0
  refine fn_ok (nt := 30) (rs := [.tmp 6]) Tryz.func75 rfl Tryz.ntmps75 rfl (by simp) (by decide) rfl fun K => ?_
  refine kr [0, 1, 2] (by simp; rfl) ?_
  refine kr [0, 1, 2, 7] (by simp; rfl) ?_
  refine tr_seq ?_
  refine kr [1, 2, 7, 10, 11, 12] (by simp; rfl) ?_
  replace h0 := bnd h0; obtain ⟨e1, hI1, h0⟩ := h0
  refine tjv (fun v1 : Int => ({ nt := 30, env := [(7, .d (.int .i64 v1))], box := [], vec := [] } : St)) (fun v1 => v1 = e1) (fun v1 hI1e _ W1 => ?_) ?_
  · subst hI1e
    refine tr_wk W1 ?_
    refine kr [6] (by simp; rfl) ?_
    cases h0
    exact tr_ret ⟨[], by simp, rfl, by simp⟩
  · refine tr_block (tr_iter (fun s2 : Int × Int => ({ nt := 30, env := [(1, .d (.int .i64 a1)), (2, .d (.int .i64 a2)), (7, .d (.int .i64 s2.1)), (10, .d (.slice (rowsF api_Steward_row a0))), (11, .d (.int .i64 ((a0).length : Int))), (12, .d (.int .i64 s2.2))], box := [], vec := [] } : St)) hI1 (wk (by simp [weak_iff])) fun G1 s2 o1 h1 hg1 he1 => ?_)
    unfold owners_of_l0 at h1
    refine kr [1, 2, 7, 10, 11, 12, 13] (by simp; rfl) ?_
    refine tr_seq ?_
    refine tr_cond (b := (decide (s2.2 < ((a0).length : Int)))) (by simp) (fun c7 => ?_) (fun c7 => ?_)
    · rw [if_pos c7] at h1
      refine tr_skip ?_
      refine tr_seq ?_
      refine tr_block ?_
      replace h1 := bnd h1; obtain ⟨x3, p3, h1⟩ := h1
      replace p3 := idx_some p3
      have p3' := p3; try simp at p3'
      refine kr [1, 2, 7, 9, 10, 11, 12] (by simp [p3, p3']; rfl) ?_
      replace h1 := bnd h1; obtain ⟨v4, hvv4, h1⟩ := h1
      refine sjv (fun v4_ : Bool => ({ nt := 30, env := [(1, .d (.int .i64 a1)), (2, .d (.int .i64 a2)), (7, .d (.int .i64 s2.1)), (9, .ptr 9 0), (10, .d (.slice (rowsF api_Steward_row a0))), (11, .d (.int .i64 ((a0).length : Int))), (12, .d (.int .i64 s2.2)), (25, .d (.bool v4_))], box := [(9, [.d (.int .i64 x3.Time), .d (.int .i64 x3.Subject), .d (.int .i64 x3.Steward)])], vec := [] } : St)) (fun v4_ => v4 = v4_) (fun v4_ e => ?_) ?_
      · subst e
        refine tr_cond (b := v4) (by simp) (fun c10 => ?_) (fun c10 => ?_)
        · rw [if_pos c10] at h1
          refine lr (by simp; rfl) ?_
          refine lr (by simp; rfl) ?_
          exact ⟨_, hg1 _ (Option.some.inj h1), wk (by simp [weak_iff])⟩
        · rw [if_neg (by rw [c10]; decide)] at h1
          refine tr_skip ?_
          refine lr (by simp; rfl) ?_
          exact ⟨_, hg1 _ (Option.some.inj h1), wk (by simp [weak_iff])⟩
      · refine kc1 ?_
        refine ko [1, 2, 7, 9, 10, 11, 12, 20] 5 (by simp; rfl) ?_
        refine tops_split 20 (x3.Subject == a1) (by simp) (fun c11 => ?_) (fun c11 => ?_)
        · rw [c11] at hvv4
          refine ko [1, 2, 7, 9, 10, 11, 12, 21, 22, 23, 24, 25] 5 (by simp; rfl) ?_
          refine tops_nil ?_
          cases hvv4
          exact ⟨_, rfl, wk (by simp [weak_iff])⟩
        · rw [c11] at hvv4
          refine kskip 4 [] (by kernel_rfl) ?_
          refine ko [1, 2, 7, 9, 10, 11, 12, 25] 1 (by simp; rfl) ?_
          refine tops_nil ?_
          cases hvv4
          exact ⟨_, rfl, wk (by simp [weak_iff])⟩
    · rw [if_neg (by rw [c7]; decide)] at h1
      refine tr_exit ?_
      exact ⟨_, he1 _ (Option.some.inj h1), wk (by simp [weak_iff])⟩
set_option maxHeartbeats 1000000 in
theorem owners_Way_ok {a0 : api_Directory} {a1 : List api_Steward} {a2 : Int} {a3 : Int} {r : (List Int)} (h0 : owners_Way a0 a1 a2 a3 = some r) : FnOK Tryz.prog 57 [] [.agg (api_Directory_av a0), .d (.slice (rowsF api_Steward_row a1)), .d (.int .i64 a2), .d (.int .i64 a3)] (.d (.slice (rowsF (iRow .i64) r))) [] := by
  unfold owners_Way at h0
  refine fn_ok (nt := 32) (rs := [.tmp 8]) Tryz.func57 rfl Tryz.ntmps57 rfl (by simp) (by decide) rfl fun K => ?_
  refine kr [1, 2, 3, 4] (by simp; rfl) ?_
  refine tr_seq ?_
  refine kc ?_
  refine ko [1, 2, 3, 10, 11, 12] 3 (by simp; rfl) ?_
  replace h0 := bnd h0; obtain ⟨y1, hy1, h0⟩ := h0
  refine kcall [1, 2, 3, 13] [] (owners_known_ok hy1) rfl rfl rfl Tryz.call74 (by simp) (by simp; rfl) ?_
  refine ko [1, 2, 3, 14] 1 (by simp; rfl) ?_
  refine tops_nil ?_
  refine tr_cond (b := (!y1)) (by simp) (fun c1 => ?_) (fun c1 => ?_)
  · rw [if_pos c1] at h0
    refine kr [8] (by simp; rfl) ?_
    cases h0
    exact tr_ret ⟨[], by simp, rfl, by simp⟩
  · rw [if_neg (by rw [c1]; decide)] at h0
    refine tr_skip ?_
    refine kr [1, 2, 3, 9] (by simp; rfl) ?_
    refine tr_wk (wk_own 9 30 3 1 (by simp) (by simp)) ?_
    replace h0 := bnd h0; obtain ⟨e1, hI1, h0⟩ := h0
    refine sjv (fun v2 : (List Int) => ({ nt := 32, env := [(9, .vec 30)], box := [], vec := [(30, ⟨3, 1, rowsF (iRow .i64) v2⟩)] } : St)) (fun v2 => v2 = e1) (fun v2 hI1e => ?_) ?_
    · subst hI1e
      refine kr [8] (by simp; rfl) ?_
      cases h0
      exact tr_ret ⟨[30], by simp, rfl, by simp⟩
    · refine tr_block (tr_iter (fun s3 : Int × (List Int) => ({ nt := 32, env := [(1, .d (.slice (rowsF api_Steward_row a1))), (2, .d (.int .i64 s3.1)), (3, .d (.int .i64 a3)), (9, .vec 30)], box := [], vec := [(30, ⟨3, 1, rowsF (iRow .i64) s3.2⟩)] } : St)) hI1 (wk (by simp [weak_iff])) fun G1 s3 o1 h1 hg1 he1 => ?_)
      unfold owners_Way_l0 at h1
      refine tr_seq ?_
      replace h1 := bnd h1; obtain ⟨v4, hvv4, h1⟩ := h1
      refine sjv (fun v4_ : Bool => ({ nt := 32, env := [(1, .d (.slice (rowsF api_Steward_row a1))), (2, .d (.int .i64 s3.1)), (3, .d (.int .i64 a3)), (9, .vec 30), (22, .d (.bool v4_))], box := [], vec := [(30, ⟨3, 1, rowsF (iRow .i64) s3.2⟩)] } : St)) (fun v4_ => v4 = v4_) (fun v4_ e => ?_) ?_
      · subst e
        refine tr_cond (b := v4) (by simp) (fun c10 => ?_) (fun c10 => ?_)
        · rw [if_pos c10] at h1
          refine tr_skip ?_
          refine tr_seq ?_
          refine tr_block ?_
          replace h1 := bnd h1; obtain ⟨_, p3, h1⟩ := h1
          replace p3 := ck_some p3
          have p3' := p3; try simp at p3'
          refine lr (by simp [p3, p3']; rfl) ?_
          refine kc1 ?_
          refine ko [1, 3, 9, 23, 24, 25] 3 (by simp; rfl) ?_
          replace h1 := bnd h1; obtain ⟨y5, hy5, h1⟩ := h1
          refine kcall [1, 3, 9, 26] [] (owners_of_ok hy5) rfl rfl rfl Tryz.call75 (by simp) (by simp; rfl) ?_
          refine ko [1, 2, 3, 9] 1 (by simp; rfl) ?_
          refine tops_nil ?_
          exact ⟨_, hg1 _ (Option.some.inj h1), wk (by simp [weak_iff])⟩
        · rw [if_neg (by rw [c10]; decide)] at h1
          refine tr_exit ?_
          exact ⟨_, he1 _ (Option.some.inj h1), wk (by simp [weak_iff])⟩
      · refine kc1 ?_
        refine ko [1, 2, 3, 9, 17] 3 (by simp; rfl) ?_
        refine tops_split 17 (s3.1 != (-1)) (by simp) (fun c11 => ?_) (fun c11 => ?_)
        · rw [if_pos c11] at hvv4
          refine ko [1, 2, 3, 9, 17, 18, 19] 2 (by simp; rfl) ?_
          replace hvv4 := bnd hvv4; obtain ⟨y6, hy6, hvv4⟩ := hvv4
          refine kcallv [1, 2, 3, 9, 17, 18, 19, 20] (slices_Contains_int_ok hy6) rfl rfl rfl Tryz.call44 (by simp) (by simp; rfl) ?_
          refine ko [1, 2, 3, 9, 18, 19, 20, 21, 22] 2 (by simp; rfl) ?_
          refine tops_nil ?_
          cases hvv4
          exact ⟨_, rfl, wk (by simp [weak_iff])⟩
        · rw [if_neg (by rw [c11]; decide)] at hvv4
          refine kskip 4 [] (by kernel_rfl) ?_
          refine ko [1, 2, 3, 9, 22] 1 (by simp; rfl) ?_
          refine tops_nil ?_
          cases hvv4
          exact ⟨_, rfl, wk (by simp [weak_iff])⟩
set_option maxHeartbeats 1000000 in
theorem notice_all_ok {a0 : api_Calendar} {a1 : api_Directory} {a2 : List api_Steward} {a3 : List api_Case} {a4 : Int} {a5 : Int} {r : (List api_Notice) × Int} (h0 : notice_all a0 a1 a2 a3 a4 a5 = some r) : FnOK Tryz.prog 34 [] [.agg (api_Calendar_av a0), .agg (api_Directory_av a1), .d (.slice (rowsF api_Steward_row a2)), .d (.slice (rowsF api_Case_row a3)), .d (.int .i64 a4), .d (.int .i64 a5)] (.tup [.d (.slice (rowsF api_Notice_row r.1)), .d (.int .i64 r.2)]) [] := by
  unfold notice_all at h0
  refine fn_ok (nt := 93) (rs := [.tmp 12, .tmp 13]) Tryz.func34 rfl Tryz.ntmps34 rfl (by simp) (by decide) rfl fun K => ?_
  refine kr [2, 3, 4, 5, 6, 7] (by simp; rfl) ?_
  replace h0 := bnd h0; obtain ⟨x1, p1, h0⟩ := h0
  replace p1 := idx_some p1
  have p1' := p1; try simp at p1'
  refine kr [2, 3, 4, 5, 6, 7, 14] (by simp [p1, p1']; rfl) ?_
  refine tr_seq ?_
  refine kr [2, 3, 4, 5, 6, 7, 14, 27] (by simp; rfl) ?_
  refine tr_cond (b := (decide (a5 < x1.Time))) (by simp) (fun c1 => ?_) (fun c1 => ?_)
  · rw [if_pos c1] at h0
    refine kr [12, 13] (by simp; rfl) ?_
    cases h0
    exact tr_ret ⟨[], by simp, rfl, by simp⟩
  · rw [if_neg (by rw [c1]; decide)] at h0
    refine tr_skip ?_
    refine kr [2, 3, 4, 5, 6, 7, 14, 15] (by simp; rfl) ?_
    refine tr_seq ?_
    refine kr [2, 3, 4, 5, 6, 7, 14, 15, 16] (by simp; rfl) ?_
    replace h0 := bnd h0; obtain ⟨l2, hl2, h0⟩ := h0
    replace hl2 := Option.some.inj hl2
    replace h0 := bnd h0; obtain ⟨e1, hI1, h0⟩ := h0
    refine tjv (fun v3 : (List api_Notice) => ({ nt := 93, env := [(15, .vec 35)], box := [], vec := [(35, ⟨59, 4, rowsF api_Notice_row v3⟩)] } : St)) (fun v3 => .inl v3 = e1) (fun v3 hI1e _ W1 => ?_) ?_
    · subst hI1e
      dsimp only at h0
      refine tr_wk W1 ?_
      refine kr [12, 13] (by simp; rfl) ?_
      cases h0
      exact tr_ret ⟨[35], by simp, rfl, by simp⟩
    · refine tr_block (tr_iter (fun s4 : Int × (List api_Notice) => ({ nt := 93, env := [(2, .d (.slice (rowsF api_Steward_row a2))), (3, .d (.slice (rowsF api_Case_row a3))), (4, .d (.int .i64 a4)), (5, .d (.int .i64 a5)), (6, .ptr 6 0), (7, .ptr 7 0), (14, .ptr 14 0), (15, .vec 35), (16, .d (.int .i64 s4.1))], box := [(6, [.d (.int .i64 a0.Day), .d (.int .i64 a0.From), .d (.int .i64 a0.To), .d (.int .i64 a0.Week), .d (.slice (rowsF (iRow .i64) a0.Holidays))]), (7, [.d (.slice (rowsF (iRow .i64) a1.Kinds)), .d (.slice (rowsF api_Member_row a1.Events))]), (14, [.d (.int .i64 x1.Time), .d (.int .i64 x1.Kind), .d (.int .i64 x1.Case), .d (.int .i64 x1.Level), .d (.int .i64 x1.Owner)])], vec := [(35, ⟨59, 4, rowsF api_Notice_row s4.2⟩)] } : St)) hI1 (wk (by subst hl2; simp [weak_iff])) fun G1 s4 o1 h1 hg1 he1 => ?_)
      unfold notice_all_l0 at h1
      refine tr_seq ?_
      refine kr [2, 3, 4, 5, 6, 7, 14, 15, 16, 37] (by simp; rfl) ?_
      refine tr_cond (b := (decide (s4.1 ≤ 3))) (by simp) (fun c14 => ?_) (fun c14 => ?_)
      · rw [if_pos c14] at h1
        refine tr_skip ?_
        refine tr_seq ?_
        refine tr_block ?_
        refine kd [[], [], [], [2], [1, 3], [4], [5], [], [7], [8], [0, 6, 9], [10], [11], [11], [12], [13]] [] [] none [] 16 fol (by decide +kernel) (by simp) ?_
        replace h1 := bnd h1; obtain ⟨_, p36, h1⟩ := h1
        replace p36 := ck_some p36
        have p36' := p36; try simp at p36'
        have p36o : IntKind.i64.wrap (s4.1 - 1) < (((s4.2)).length : Int) := by omega
        replace h1 := bnd h1; obtain ⟨x5, p37, h1⟩ := h1
        replace p37 := idx_some p37
        have p37' := p37; try simp at p37'
        refine dr_go 0 2 rfl (by simp (maxSteps := 1000000) [-getElem?_pos, List.getElem?_cons_zero, List.getElem?_cons_succ, p36, p36o, p37, p36', p37']; rfl) ?_
        refine dr_go 2 2 rfl (by simp (maxSteps := 1000000) [-getElem?_pos, List.getElem?_cons_zero, List.getElem?_cons_succ, p36, p36o, p37, p36', p37']; rfl) ?_
        refine dr_go 4 2 rfl (by simp (maxSteps := 1000000) [-getElem?_pos, List.getElem?_cons_zero, List.getElem?_cons_succ, p36, p36o, p37, p36', p37']; rfl) ?_
        refine dr_go 6 2 rfl (by simp (maxSteps := 1000000) [-getElem?_pos, List.getElem?_cons_zero, List.getElem?_cons_succ, p36, p36o, p37, p36', p37']; rfl) ?_
        refine dr_go 8 1 rfl (by simp (maxSteps := 1000000) [-getElem?_pos, List.getElem?_cons_zero, List.getElem?_cons_succ, p36, p36o, p37, p36', p37']; rfl) ?_
        replace h1 := bnd h1; obtain ⟨y6, hy6, h1⟩ := h1
        refine dr_call 9 [] (notice_Deadline_ok hy6) rfl rfl rfl rfl rfl Tryz.call11 (by simp) ?_
        replace h1 := bnd h1; obtain ⟨y7, hy7, h1⟩ := h1
        refine dr_call 10 [] (calendar_Add_ok hy7) rfl rfl rfl rfl rfl Tryz.call55 (by simp) ?_
        refine dr_go 11 2 rfl (by simp (maxSteps := 1000000); rfl) ?_
        refine dr_go 13 2 rfl (by simp (maxSteps := 1000000); rfl) ?_
        refine dr_go 15 1 rfl (by simp (maxSteps := 1000000); rfl) ?_
        refine dr_end rfl (tops_nil ?_)
        refine tr_seq ?_
        refine kr [2, 3, 4, 5, 6, 7, 14, 15, 16, 17, 18, 55] (by simp; rfl) ?_
        refine tr_cond (b := (y7.2 != 0)) (by simp) (fun c15 => ?_) (fun c15 => ?_)
        · rw [if_pos c15] at h1
          refine kr [12, 13] (by simp; rfl) ?_
          have k1 := he1 _ (Option.some.inj h1)
          subst k1
          dsimp only at h0
          cases h0
          exact tr_ret ⟨[], by simp, rfl, by simp⟩
        · rw [if_neg (by rw [c15]; decide)] at h1
          refine tr_skip ?_
          refine tr_seq ?_
          replace h1 := bnd h1; obtain ⟨v8, hvv8, h1⟩ := h1
          refine sjv (fun v8_ : Bool => ({ nt := 93, env := [(2, .d (.slice (rowsF api_Steward_row a2))), (3, .d (.slice (rowsF api_Case_row a3))), (4, .d (.int .i64 a4)), (5, .d (.int .i64 a5)), (6, .ptr 6 0), (7, .ptr 7 0), (14, .ptr 14 0), (15, .vec 35), (16, .d (.int .i64 s4.1)), (17, .d (.int .i64 y7.1)), (69, .d (.bool v8_))], box := [(6, [.d (.int .i64 a0.Day), .d (.int .i64 a0.From), .d (.int .i64 a0.To), .d (.int .i64 a0.Week), .d (.slice (rowsF (iRow .i64) a0.Holidays))]), (7, [.d (.slice (rowsF (iRow .i64) a1.Kinds)), .d (.slice (rowsF api_Member_row a1.Events))]), (14, [.d (.int .i64 x1.Time), .d (.int .i64 x1.Kind), .d (.int .i64 x1.Case), .d (.int .i64 x1.Level), .d (.int .i64 x1.Owner)])], vec := [(35, ⟨59, 4, rowsF api_Notice_row s4.2⟩)] } : St)) (fun v8_ => v8 = v8_) (fun v8_ e => ?_) ?_
          · subst e
            refine tr_cond (b := v8) (by simp) (fun c22 => ?_) (fun c22 => ?_)
            · rw [if_pos c22] at h1
              refine tr_exit ?_
              exact ⟨_, he1 _ (Option.some.inj h1), wk (by simp [weak_iff])⟩
            · rw [if_neg (by rw [c22]; decide)] at h1
              refine tr_skip ?_
              refine kc ?_
              refine ko [2, 3, 4, 5, 6, 7, 14, 15, 16, 17, 70, 71, 73, 74] 5 (by simp; rfl) ?_
              replace h1 := bnd h1; obtain ⟨y9, hy9, h1⟩ := h1
              refine kcall [2, 3, 4, 5, 6, 7, 14, 15, 16, 17, 75] [] (owners_Way_ok hy9) rfl rfl rfl Tryz.call57 (by simp) (by simp; rfl) ?_
              refine ko [2, 3, 4, 5, 6, 7, 14, 15, 16, 17, 19] 1 (by simp; rfl) ?_
              refine tops_nil ?_
              refine kd1 [[], [], [], [2], [], [], [], [6], [7], [5, 7, 8], [4, 7, 9], [7, 9, 10], [], [1, 3, 7, 9, 11, 12], [7, 9, 13], [0, 7, 9, 14], [0, 7, 9, 15]] [] [] (some (15, 35)) [15, 76] 17 fol (by decide +kernel) (by simp) ?_
              replace h1 := bnd h1; obtain ⟨x10, p48, h1⟩ := h1
              replace p48 := idx_some p48
              have p48' := p48; try simp at p48'
              replace h1 := bnd h1; obtain ⟨_, p49, h1⟩ := h1
              replace p49 := ck_some p49
              have p49' := p49; try simp at p49'
              refine dr_go 0 2 rfl (by simp (maxSteps := 1000000) [p48, p49, p48', p49']; rfl) ?_
              refine dr_go 2 2 rfl (by simp (maxSteps := 1000000) [p48, p49, p48', p49']; rfl) ?_
              refine dr_go 4 2 rfl (by simp (maxSteps := 1000000) [p48, p49, p48', p49']; rfl) ?_
              refine dr_go 6 2 rfl (by simp (maxSteps := 1000000) [p48, p49, p48', p49']; rfl) ?_
              refine dr_go 8 2 rfl (by simp (maxSteps := 1000000) [p48, p49, p48', p49']; rfl) ?_
              refine dr_go 10 2 rfl (by simp (maxSteps := 1000000) [p48, p49, p48', p49']; rfl) ?_
              refine dr_go 12 2 rfl (by simp (maxSteps := 1000000) [p48, p49, p48', p49']; rfl) ?_
              refine dr_go 14 2 rfl (by simp (maxSteps := 1000000) [p48, p49, p48', p49']; rfl) ?_
              refine dr_go 16 1 rfl (by simp (maxSteps := 1000000) [p48, p49, p48', p49']; rfl) ?_
              refine dr_end rfl (tops_nil ?_)
              refine lr (by simp; rfl) ?_
              exact ⟨_, hg1 _ (Option.some.inj h1), Wk.trans (wk_ren 91 35) (wk (by simp [weak_iff]))⟩
          · refine kd1 [[], [], [0, 1], [2], [3], [3], [3, 5], [3, 4, 6], [3], [3, 8], [3], [3, 7, 9, 10], [3, 11]] [] [] none [] 13 fol (by decide +kernel) (by simp) ?_
            refine dr_go 0 2 rfl (by simp (maxSteps := 1000000); rfl) ?_
            refine dr_go 2 2 rfl (by simp (maxSteps := 1000000); rfl) ?_
            refine dr_split 3 60 (decide (a5 < y7.1)) (by simp) (fun c25 => ?_) (fun c25 => ?_)
            · rw [if_pos c25] at hvv8
              refine dr_skip 4 93 [some 61, some 62, some 63, some 64, some 65, some 66, some 67, some 68] rfl rfl (by decide) (by kernel_rfl) (by simp only [skEf, List.map_cons, List.map_nil, List.cons_append, List.nil_append]; rfl) ?_
              refine dr_go 12 1 rfl (by simp (maxSteps := 1000000); rfl) ?_
              refine dr_end rfl (tops_nil ?_)
              cases hvv8
              exact ⟨_, rfl, wk (by simp [weak_iff])⟩
            · rw [if_neg (by rw [c25]; decide)] at hvv8
              replace hvv8 := bnd hvv8; obtain ⟨_, p52, hvv8⟩ := hvv8
              replace p52 := ck_some p52
              have p52' := p52; try simp at p52'
              refine dr_go 4 2 rfl (by simp (maxSteps := 1000000) [p52, p52']; rfl) ?_
              refine dr_go 6 2 rfl (by simp (maxSteps := 1000000) [p52, p52']; rfl) ?_
              refine dr_go 8 2 rfl (by simp (maxSteps := 1000000) [p52, p52']; rfl) ?_
              refine dr_go 10 1 rfl (by simp (maxSteps := 1000000) [p52, p52']; rfl) ?_
              replace hvv8 := bnd hvv8; obtain ⟨y11, hy11, hvv8⟩ := hvv8
              refine dr_call 11 [] (notice_answered_ok hy11) rfl rfl rfl rfl rfl Tryz.call56 (by simp) ?_
              refine dr_go 12 1 rfl (by simp (maxSteps := 1000000); rfl) ?_
              refine dr_end rfl (tops_nil ?_)
              cases hvv8
              exact ⟨_, rfl, wk (by simp [weak_iff])⟩
      · rw [if_neg (by rw [c14]; decide)] at h1
        refine tr_exit ?_
        exact ⟨_, he1 _ (Option.some.inj h1), wk (by simp [weak_iff])⟩
set_option maxHeartbeats 1000000 in
theorem notice_All_ok {a0 : api_Calendar} {a1 : api_Directory} {a2 : List api_Steward} {a3 : List api_Case} {a4 : Int} {r : (List api_Notice) × Int} (h0 : notice_All a0 a1 a2 a3 a4 = some r) : FnOK Tryz.prog 15 [] [.agg (api_Calendar_av a0), .agg (api_Directory_av a1), .d (.slice (rowsF api_Steward_row a2)), .d (.slice (rowsF api_Case_row a3)), .d (.int .i64 a4)] (.tup [.d (.slice (rowsF api_Notice_row r.1)), .d (.int .i64 r.2)]) [] := by
  unfold notice_All at h0
  refine fn_ok (nt := 67) (rs := [.tmp 10, .tmp 11]) Tryz.func15 rfl Tryz.ntmps15 rfl (by simp) (by decide) rfl fun K => ?_
  refine kr [2, 3, 4, 5, 6] (by simp; rfl) ?_
  refine tr_seq ?_
  refine kd [[], [0], [], [], [2, 3], [], [], [5, 6], [1, 4, 7], [8], [9]] [] [] none [] 11 fol (by decide +kernel) (by simp) ?_
  refine dr_go 0 1 rfl (by simp (maxSteps := 1000000); rfl) ?_
  replace h0 := bnd h0; obtain ⟨y1, hy1, h0⟩ := h0
  refine dr_call 1 [] (calendar_Check_ok hy1) rfl rfl rfl rfl rfl Tryz.call32 (by simp) ?_
  refine dr_go 2 2 rfl (by simp (maxSteps := 1000000); rfl) ?_
  replace h0 := bnd h0; obtain ⟨y2, hy2, h0⟩ := h0
  refine dr_call 4 [] (owners_Check_ok hy2) rfl rfl rfl rfl rfl Tryz.call33 (by simp) ?_
  refine dr_go 5 2 rfl (by simp (maxSteps := 1000000); rfl) ?_
  replace h0 := bnd h0; obtain ⟨y3, hy3, h0⟩ := h0
  refine dr_call 7 [] (notice_Check_ok hy3) rfl rfl rfl rfl rfl Tryz.call13 (by simp) ?_
  refine dr_go 8 1 rfl (by simp (maxSteps := 1000000); rfl) ?_
  replace h0 := bnd h0; obtain ⟨y4, hy4, h0⟩ := h0
  refine dr_call 9 [] (notice_first_ok hy4) rfl rfl rfl rfl rfl Tryz.call31 (by simp) ?_
  refine dr_go 10 1 rfl (by simp (maxSteps := 1000000); rfl) ?_
  refine dr_end rfl (tops_nil ?_)
  refine kr [2, 3, 4, 5, 6, 12, 29] (by simp; rfl) ?_
  refine tr_cond (b := (y4 != 0)) (by simp) (fun c1 => ?_) (fun c1 => ?_)
  · rw [if_pos c1] at h0
    refine kr [10, 11] (by simp; rfl) ?_
    cases h0
    exact tr_ret ⟨[], by simp, rfl, by simp⟩
  · rw [if_neg (by rw [c1]; decide)] at h0
    refine tr_skip ?_
    refine tr_seq ?_
    replace h0 := bnd h0; obtain ⟨v5, hvv5, h0⟩ := h0
    refine sjv (fun v5_ : Bool => ({ nt := 67, env := [(2, .d (.slice (rowsF api_Steward_row a2))), (3, .d (.slice (rowsF api_Case_row a3))), (4, .d (.int .i64 a4)), (5, .ptr 5 0), (6, .ptr 6 0), (36, .d (.bool v5_))], box := [(5, [.d (.int .i64 a0.Day), .d (.int .i64 a0.From), .d (.int .i64 a0.To), .d (.int .i64 a0.Week), .d (.slice (rowsF (iRow .i64) a0.Holidays))]), (6, [.d (.slice (rowsF (iRow .i64) a1.Kinds)), .d (.slice (rowsF api_Member_row a1.Events))])], vec := [] } : St)) (fun v5_ => v5 = v5_) (fun v5_ e => ?_) ?_
    · subst e
      refine tr_cond (b := v5) (by simp) (fun c4 => ?_) (fun c4 => ?_)
      · rw [if_pos c4] at h0
        refine kr [10, 11] (by simp; rfl) ?_
        cases h0
        exact tr_ret ⟨[], by simp, rfl, by simp⟩
      · rw [if_neg (by rw [c4]; decide)] at h0
        refine tr_skip ?_
        refine kr [2, 3, 4, 5, 6, 13] (by simp; rfl) ?_
        refine tr_seq ?_
        refine kr [2, 3, 4, 5, 6, 13, 37, 38, 39] (by simp; rfl) ?_
        refine tr_wk (wk_own 13 62 59 4 (by simp) (by simp)) ?_
        replace h0 := bnd h0; obtain ⟨e1, hI1, h0⟩ := h0
        refine tjv (fun v6 : (List api_Notice) => ({ nt := 67, env := [(13, .vec 62)], box := [], vec := [(62, ⟨59, 4, rowsF api_Notice_row v6⟩)] } : St)) (fun v6 => .inl v6 = e1) (fun v6 hI1e _ W1 => ?_) ?_
        · subst hI1e
          dsimp only at h0
          refine tr_wk W1 ?_
          refine kc ?_
          refine ko [13, 64] 1 (by simp; rfl) ?_
          replace h0 := bnd h0; obtain ⟨y7, hy7, h0⟩ := h0
          refine kcallH [13] [] [62] [(13, 62), (64, 62)] (slices_SortFunc_api_Notice_vec0_at_notice_All_1_ok hy7) rfl rfl rfl Tryz.call35 (by simp) (by simp; rfl) ?_
          refine tops_nil ?_
          refine kr [10, 11] (by simp; rfl) ?_
          cases h0
          exact tr_ret ⟨[62], by simp, rfl, by simp⟩
        · refine tr_block (tr_iter (fun s8 : Int × (List api_Notice) => ({ nt := 67, env := [(2, .d (.slice (rowsF api_Steward_row a2))), (3, .d (.slice (rowsF api_Case_row a3))), (4, .d (.int .i64 a4)), (5, .ptr 5 0), (6, .ptr 6 0), (13, .vec 62), (37, .d (.slice (rowsF api_Case_row a3))), (38, .d (.int .i64 ((a3).length : Int))), (39, .d (.int .i64 s8.1))], box := [(5, [.d (.int .i64 a0.Day), .d (.int .i64 a0.From), .d (.int .i64 a0.To), .d (.int .i64 a0.Week), .d (.slice (rowsF (iRow .i64) a0.Holidays))]), (6, [.d (.slice (rowsF (iRow .i64) a1.Kinds)), .d (.slice (rowsF api_Member_row a1.Events))])], vec := [(62, ⟨59, 4, rowsF api_Notice_row s8.2⟩)] } : St)) hI1 (wk (by simp [weak_iff])) fun G1 s8 o1 h1 hg1 he1 => ?_)
          unfold notice_All_l0 at h1
          refine kr [2, 3, 4, 5, 6, 13, 37, 38, 39, 40] (by simp; rfl) ?_
          refine tr_seq ?_
          refine tr_cond (b := (decide (s8.1 < ((a3).length : Int)))) (by simp) (fun c14 => ?_) (fun c14 => ?_)
          · rw [if_pos c14] at h1
            refine tr_skip ?_
            refine tr_seq ?_
            refine tr_block ?_
            replace h1 := bnd h1; obtain ⟨x9, p7, h1⟩ := h1
            replace p7 := idx_some p7
            have p7' := p7; try simp at p7'
            refine kr [2, 3, 4, 5, 6, 13, 14, 15, 37, 38, 39] (by simp [p7, p7']; rfl) ?_
            refine tr_seq ?_
            refine kr [2, 3, 4, 5, 6, 13, 14, 37, 38, 39, 46] (by simp; rfl) ?_
            refine tr_cond (b := (x9.Kind != 1)) (by simp) (fun c15 => ?_) (fun c15 => ?_)
            · rw [if_pos c15] at h1
              refine tr_exit ?_
              refine lr (by simp; rfl) ?_
              exact ⟨_, hg1 _ (Option.some.inj h1), wk (by simp [weak_iff])⟩
            · rw [if_neg (by rw [c15]; decide)] at h1
              refine tr_skip ?_
              refine kc ?_
              refine ko [2, 3, 4, 5, 6, 13, 37, 38, 39, 48, 49, 50, 51, 52, 53] 6 (by simp; rfl) ?_
              replace h1 := bnd h1; obtain ⟨y10, hy10, h1⟩ := h1
              refine kcall [2, 3, 4, 5, 6, 13, 37, 38, 39, 54] [] (notice_all_ok hy10) rfl rfl rfl Tryz.call34 (by simp) (by simp; rfl) ?_
              refine ko [2, 3, 4, 5, 6, 13, 16, 17, 37, 38, 39] 5 (by simp; rfl) ?_
              refine tops_nil ?_
              refine tr_seq ?_
              refine kr [2, 3, 4, 5, 6, 13, 16, 17, 37, 38, 39, 58] (by simp; rfl) ?_
              refine tr_cond (b := (y10.2 != 0)) (by simp) (fun c16 => ?_) (fun c16 => ?_)
              · rw [if_pos c16] at h1
                refine kr [10, 11] (by simp; rfl) ?_
                have k1 := he1 _ (Option.some.inj h1)
                subst k1
                dsimp only at h0
                cases h0
                exact tr_ret ⟨[], by simp, rfl, by simp⟩
              · rw [if_neg (by rw [c16]; decide)] at h1
                refine tr_skip ?_
                replace h1 := bnd h1; obtain ⟨_, p8, h1⟩ := h1
                replace p8 := ck_some p8
                have p8' := p8; try simp at p8'
                refine lr (by simp [p8, p8']; rfl) ?_
                refine lr (by simp; rfl) ?_
                exact ⟨_, hg1 _ (Option.some.inj h1), wk (by simp [weak_iff])⟩
          · rw [if_neg (by rw [c14]; decide)] at h1
            refine tr_exit ?_
            exact ⟨_, he1 _ (Option.some.inj h1), wk (by simp [weak_iff])⟩
    · refine kc1 ?_
      refine ko [2, 3, 4, 5, 6, 33] 3 (by simp; rfl) ?_
      refine tops_split 33 (decide (a4 < 0)) (by simp) (fun c17 => ?_) (fun c17 => ?_)
      · rw [c17] at hvv5
        refine ko [2, 3, 4, 5, 6, 36] 3 (by simp; rfl) ?_
        refine tops_nil ?_
        cases hvv5
        exact ⟨_, rfl, wk (by simp [weak_iff])⟩
      · rw [c17] at hvv5
        refine ko [2, 3, 4, 5, 6, 36] 3 (by simp; rfl) ?_
        refine tops_nil ?_
        cases hvv5
        exact ⟨_, rfl, wk (by simp [weak_iff])⟩
set_option maxHeartbeats 1000000 in
theorem make_Tape_Next_ok {a0 : make_Tape} {a1 : Int} {r : Int × make_Tape} (h0 : make_Tape_Next a0 a1 = some r) : FnOK Tryz.prog 9 [make_Tape_av a0] [.ptr (InO 0) 0, .d (.int .i64 a1)] (.d (.int .i64 r.1)) [make_Tape_av r.2] := by
  unfold make_Tape_Next at h0
  refine fn_ok (nt := 37) (rs := [.tmp 4]) Tryz.func9 rfl Tryz.ntmps9 rfl (by simp) (by decide) rfl fun K => ?_
  refine kr [0, 1] (by simp; rfl) ?_
  refine tr_seq ?_
  refine kd [[], [0], [1], [2], [], [4], [5], [6], [7], [3, 8]] [] [] none [] 10 fol (by decide +kernel) (by simp) ?_
  refine dr_go 0 2 rfl (by simp (maxSteps := 1000000); rfl) ?_
  refine dr_go 2 2 rfl (by simp (maxSteps := 1000000); rfl) ?_
  refine dr_go 4 2 rfl (by simp (maxSteps := 1000000); rfl) ?_
  refine dr_go 6 2 rfl (by simp (maxSteps := 1000000); rfl) ?_
  refine dr_go 8 2 rfl (by simp (maxSteps := 1000000); rfl) ?_
  refine dr_end rfl (tops_nil ?_)
  refine tr_cond (b := (decide (((a0.L).length : Int) ≤ a0.at_))) (by simp) (fun c1 => ?_) (fun c1 => ?_)
  · rw [if_pos c1] at h0
    refine kr [4] (by simp; rfl) ?_
    cases h0
    exact tr_ret ⟨[], by simp, rfl, by simp⟩
  · rw [if_neg (by rw [c1]; decide)] at h0
    refine tr_skip ?_
    refine kd [[], [0], [1], [2], [], [4], [5], [6], [3, 7], [8], [9], [10]] [] [] none [] 12 fol (by decide +kernel) (by simp) ?_
    replace h0 := bnd h0; obtain ⟨x1, p3, h0⟩ := h0
    replace p3 := idx_some p3
    have p3' := p3; try simp at p3'
    refine dr_go 0 2 rfl (by simp (maxSteps := 1000000) [p3, p3']; rfl) ?_
    refine dr_go 2 2 rfl (by simp (maxSteps := 1000000) [p3, p3']; rfl) ?_
    refine dr_go 4 2 rfl (by simp (maxSteps := 1000000) [p3, p3']; rfl) ?_
    refine dr_go 6 2 rfl (by simp (maxSteps := 1000000) [p3, p3']; rfl) ?_
    refine dr_go 8 2 rfl (by simp (maxSteps := 1000000) [p3, p3']; rfl) ?_
    refine dr_go 10 2 rfl (by simp (maxSteps := 1000000) [p3, p3']; rfl) ?_
    refine dr_end rfl (tops_nil ?_)
    refine kr [1, 5] (by simp; rfl) ?_
    replace h0 := bnd h0; obtain ⟨_, p4, h0⟩ := h0
    replace p4 := ck_some p4
    have p4' := p4; try simp at p4'
    refine kr [4] (by simp [p4, p4']; rfl) ?_
    cases h0
    exact tr_ret ⟨[], by simp, rfl, by simp⟩
set_option maxHeartbeats 1000000 in
theorem make_Tape_Between_ok {a0 : make_Tape} {a1 : Int} {a2 : Int} {r : Int × make_Tape} (h0 : make_Tape_Between a0 a1 a2 = some r) : FnOK Tryz.prog 10 [make_Tape_av a0] [.ptr (InO 0) 0, .d (.int .i64 a1), .d (.int .i64 a2)] (.d (.int .i64 r.1)) [make_Tape_av r.2] := by
  unfold make_Tape_Between at h0
  refine fn_ok (nt := 15) (rs := [.tmp 6]) Tryz.func10 rfl Tryz.ntmps10 rfl (by simp) (by decide) rfl fun K => ?_
  refine kr [0, 1, 2] (by simp; rfl) ?_
  refine kc ?_
  refine ko [7, 8, 12] 6 (by simp; rfl) ?_
  replace h0 := bnd h0; obtain ⟨y1, hy1, h0⟩ := h0
  refine kcall [7, 13] [1000000] (make_Tape_Next_ok hy1) rfl rfl rfl Tryz.call9 (by simp) (by simp; rfl) ?_
  refine ko [6] 2 (by simp; rfl) ?_
  refine tops_nil ?_
  cases h0
  exact tr_ret ⟨[], by simp, rfl, by simp⟩
set_option maxHeartbeats 1000000 in
theorem make_Clock_ok {a0 : make_Tape} {a1 : Int} {r : (List Int) × make_Tape} (h0 : make_Clock a0 a1 = some r) : FnOK Tryz.prog 25 [make_Tape_av a0] [.ptr (InO 0) 0, .d (.int .i64 a1)] (.d (.slice (rowsF (iRow .i64) r.1))) [make_Tape_av r.2] := by
  unfold make_Clock at h0
  refine fn_ok (nt := 24) (rs := [.tmp 4]) Tryz.func25 rfl Tryz.ntmps25 rfl (by simp) (by decide) rfl fun K => ?_
  refine kr [0, 1] (by simp; rfl) ?_
  refine kr [0, 1, 5] (by simp; rfl) ?_
  refine kc ?_
  refine ko [0, 1, 5, 8] 1 (by simp; rfl) ?_
  replace h0 := bnd h0; obtain ⟨y1, hy1, h0⟩ := h0
  refine kcall [0, 1, 5, 9] [1000000] (make_Tape_Next_ok hy1) rfl rfl rfl Tryz.call9 (by simp) (by simp; rfl) ?_
  refine ko [0, 1, 5, 6] 1 (by simp; rfl) ?_
  refine tops_nil ?_
  refine tr_seq ?_
  refine kr [0, 1, 5, 6, 7] (by simp; rfl) ?_
  refine tr_wk (wk_own 5 22 3 1 (by simp) (by simp)) ?_
  replace h0 := bnd h0; obtain ⟨e1, hI1, h0⟩ := h0
  refine tjv (fun v2 : (List Int) × Int × (List Int) => ({ nt := 24, env := [(5, .vec 22)], box := [(1000000, [.d (.slice (rowsF (iRow .i64) v2.1)), .d (.int .i64 v2.2.1)])], vec := [(22, ⟨3, 1, rowsF (iRow .i64) v2.2.2⟩)] } : St)) (fun v2 => v2 = e1) (fun v2 hI1e _ W1 => ?_) ?_
  · subst hI1e
    refine tr_wk W1 ?_
    refine kr [4] (by simp; rfl) ?_
    cases h0
    exact tr_ret ⟨[22], by simp, rfl, by simp⟩
  · refine tr_block (tr_iter (fun s3 : Int × Int × (List Int) × Int × (List Int) => ({ nt := 24, env := [(0, .ptr 1000000 0), (1, .d (.int .i64 a1)), (5, .vec 22), (6, .d (.int .i64 s3.1)), (7, .d (.int .i64 s3.2.1))], box := [(1000000, [.d (.slice (rowsF (iRow .i64) s3.2.2.1)), .d (.int .i64 s3.2.2.2.1)])], vec := [(22, ⟨3, 1, rowsF (iRow .i64) s3.2.2.2.2⟩)] } : St)) hI1 (wk (by simp [weak_iff])) fun G1 s3 o1 h1 hg1 he1 => ?_)
    unfold make_Clock_l0 at h1
    refine tr_seq ?_
    refine kr [0, 1, 5, 6, 7, 12] (by simp; rfl) ?_
    refine tr_cond (b := (decide (s3.2.1 < a1))) (by simp) (fun c4 => ?_) (fun c4 => ?_)
    · rw [if_pos c4] at h1
      refine tr_skip ?_
      refine tr_seq ?_
      refine tr_block ?_
      refine kc ?_
      refine ko [0, 1, 5, 7, 15, 16] 2 (by simp; rfl) ?_
      replace h1 := bnd h1; obtain ⟨y4, hy4, h1⟩ := h1
      refine kcall [0, 1, 5, 7, 15, 17] [1000000] (make_Tape_Next_ok hy4) rfl rfl rfl Tryz.call9 (by simp) (by simp; rfl) ?_
      refine ko [0, 1, 5, 6, 7] 2 (by simp; rfl) ?_
      refine tops_nil ?_
      replace h1 := bnd h1; obtain ⟨_, p3, h1⟩ := h1
      replace p3 := ck_some p3
      have p3' := p3; try simp at p3'
      refine lr (by simp [p3, p3']; rfl) ?_
      refine lr (by simp; rfl) ?_
      exact ⟨_, hg1 _ (Option.some.inj h1), wk (by simp [weak_iff])⟩
    · rw [if_neg (by rw [c4]; decide)] at h1
      refine tr_exit ?_
      exact ⟨_, he1 _ (Option.some.inj h1), wk (by simp [weak_iff])⟩
end Go.Vl
