/- Walks: each function of the given program computes what its mirror says. Conditions: none. -/
import Derived.Test.YtphnihphnboneaaCalm
import Derived.Test.YtphnihphnboneaaTyCal
set_option linter.unusedSimpArgs false
set_option linter.unusedVariables false
namespace Go.Vl
open Go Go.Proofs
set_option maxHeartbeats 1000000 in
theorem law40_week_ok  {r : api_Calendar} (h0 : law40_week = some r) : FnOK Try.prog 23 [] [] (.agg (api_Calendar_av r)) [] := by
  unfold law40_week at h0
  refine fn_ok (nt := 2) (rs := [.cell 0 24]) Try.func23 rfl Try.ntmps23 rfl (by simp) (by decide) rfl fun K => ?_
  refine kr [0] (by simp; rfl) ?_
  refine kr [0] (by simp; rfl) ?_
  cases h0
  exact tr_ret ⟨[], by simp, rfl, by simp⟩
set_option maxHeartbeats 1000000 in
theorem calendar_among_ok {a0 : Int} {a1 : Int} {a2 : Int} {r : Bool} (h0 : calendar_among a0 a1 a2 = some r) : FnOK Try.prog 25 [] [.d (.int .i64 a0), .d (.int .i64 a1), .d (.int .i64 a2)] (.d (.bool r)) [] := by
  unfold calendar_among at h0
  refine fn_ok (nt := 15) (rs := [.tmp 6]) Try.func25 rfl Try.ntmps25 rfl (by simp) (by decide) rfl fun K => ?_
  refine kr [0, 1, 2] (by simp; rfl) ?_
  replace h0 := bnd h0; obtain ⟨v1, hvv1, h0⟩ := h0
  refine sjv (fun v1_ : Bool => ({ nt := 15, env := [(6, .d (.bool v1_))], box := [], vec := [] } : St)) (fun v1_ => v1 = v1_) (fun v1_ e => ?_) ?_
  · subst e
    cases h0
    exact tr_ret ⟨[], by simp, rfl, by simp⟩
  · refine kc1 ?_
    refine ko [0, 2, 10] 4 (by simp; rfl) ?_
    refine tops_split 10 (decide (a1 ≤ a0)) (by simp) (fun c3 => ?_) (fun c3 => ?_)
    · rw [c3] at hvv1
      refine ko [6] 5 (by simp; rfl) ?_
      refine tops_nil ?_
      cases hvv1
      exact ⟨_, rfl, wk (by simp [weak_iff])⟩
    · rw [c3] at hvv1
      refine ko [6] 5 (by simp; rfl) ?_
      refine tops_nil ?_
      cases hvv1
      exact ⟨_, rfl, wk (by simp [weak_iff])⟩
set_option maxHeartbeats 1000000 in
theorem directory_Ascending_ok {a0 : List Int} {r : Bool} (h0 : directory_Ascending a0 = some r) : FnOK Try.prog 26 [] [.d (.slice (rowsF (iRow .i64) a0))] (.d (.bool r)) [] := by
  unfold directory_Ascending at h0
  refine fn_ok (nt := 20) (rs := [.tmp 2]) Try.func26 rfl Try.ntmps26 rfl (by simp) (by decide) rfl fun K => ?_
  refine kr [0] (by simp; rfl) ?_
  refine tr_seq ?_
  refine kr [0, 3] (by simp; rfl) ?_
  replace h0 := bnd h0; obtain ⟨e1, hI1, h0⟩ := h0
  refine tjv (fun v1 : Unit => ({ nt := 20, env := [], box := [], vec := [] } : St)) (fun v1 => .inl v1 = e1) (fun v1 hI1e _ W1 => ?_) ?_
  · subst hI1e
    dsimp only at h0
    refine tr_wk W1 ?_
    refine kr [2] (by simp; rfl) ?_
    cases h0
    exact tr_ret ⟨[], by simp, rfl, by simp⟩
  · refine tr_block (tr_iter (fun s2 : Int => ({ nt := 20, env := [(0, .d (.slice (rowsF (iRow .i64) a0))), (3, .d (.int .i64 s2))], box := [], vec := [] } : St)) hI1 (wk (by simp [weak_iff])) fun G1 s2 o1 h1 hg1 he1 => ?_)
    unfold directory_Ascending_l0 at h1
    refine tr_seq ?_
    refine kr [0, 3, 7] (by simp; rfl) ?_
    refine tr_cond (b := (decide (s2 < ((a0).length : Int)))) (by simp) (fun c5 => ?_) (fun c5 => ?_)
    · rw [if_pos c5] at h1
      refine tr_skip ?_
      refine tr_seq ?_
      refine tr_block ?_
      refine kd [[], [], [1], [0, 2], [3], [], [], [5, 6], [7], [4, 8]] [] [] 10 fol (by decide +kernel) ?_
      replace h1 := bnd h1; obtain ⟨x3, p11, h1⟩ := h1
      replace p11 := idx_some p11
      have p11' := p11; try simp at p11'
      replace h1 := bnd h1; obtain ⟨x4, p12, h1⟩ := h1
      replace p12 := idx_some p12
      have p12' := p12; try simp at p12'
      refine dr_go 0 10 rfl (by simp (maxSteps := 1000000) [p11, p12, p11', p12']; rfl) ?_
      refine dr_end rfl (tops_nil ?_)
      refine tr_cond (b := (decide (x4 ≤ x3))) (by simp) (fun c6 => ?_) (fun c6 => ?_)
      · rw [if_pos c6] at h1
        refine kr [2] (by simp; rfl) ?_
        have k1 := he1 _ (Option.some.inj h1)
        subst k1
        dsimp only at h0
        cases h0
        exact tr_ret ⟨[], by simp, rfl, by simp⟩
      · rw [if_neg (by rw [c6]; decide)] at h1
        refine tr_skip ?_
        refine lr (by simp; rfl) ?_
        exact ⟨_, hg1 _ (Option.some.inj h1), wk (by simp [weak_iff])⟩
    · rw [if_neg (by rw [c5]; decide)] at h1
      refine tr_exit ?_
      exact ⟨_, he1 _ (Option.some.inj h1), wk (by simp [weak_iff])⟩
set_option maxHeartbeats 1000000 in
theorem calendar_Check_ok {a0 : api_Calendar} {r : Int} (h0 : calendar_Check a0 = some r) : FnOK Try.prog 13 [] [.agg (api_Calendar_av a0)] (.d (.int .i64 r)) [] := by
  unfold calendar_Check at h0
  refine fn_ok (nt := 55) (rs := [.tmp 2]) Try.func13 rfl Try.ntmps13 rfl (by simp) (by decide) rfl fun K => ?_
  refine kr [1] (by simp; rfl) ?_
  refine tr_seq ?_
  replace h0 := bnd h0; obtain ⟨v1, hvv1, h0⟩ := h0
  refine sjv (fun v1_ : Bool => ({ nt := 55, env := [(1, .ptr 1 0), (31, .d (.bool v1_))], box := [(1, [.d (.int .i64 a0.Day), .d (.int .i64 a0.From), .d (.int .i64 a0.To), .d (.int .i64 a0.Week), .d (.slice (rowsF (iRow .i64) a0.Holidays))])], vec := [] } : St)) (fun v1_ => v1 = v1_) (fun v1_ e => ?_) ?_
  · subst e
    refine tr_cond (b := v1) (by simp) (fun c9 => ?_) (fun c9 => ?_)
    · rw [if_pos c9] at h0
      refine kr [2] (by simp; rfl) ?_
      cases h0
      exact tr_ret ⟨[], by simp, rfl, by simp⟩
    · rw [if_neg (by rw [c9]; decide)] at h0
      refine tr_skip ?_
      refine tr_seq ?_
      replace h0 := bnd h0; obtain ⟨v2, hvv2, h0⟩ := h0
      refine sjv (fun v2_ : Bool => ({ nt := 55, env := [(54, .d (.bool v2_))], box := [], vec := [] } : St)) (fun v2_ => v2 = v2_) (fun v2_ e => ?_) ?_
      · subst e
        refine tr_cond (b := v2) (by simp) (fun c16 => ?_) (fun c16 => ?_)
        · rw [if_pos c16] at h0
          refine kr [2] (by simp; rfl) ?_
          cases h0
          exact tr_ret ⟨[], by simp, rfl, by simp⟩
        · rw [if_neg (by rw [c16]; decide)] at h0
          refine tr_skip ?_
          refine kr [2] (by simp; rfl) ?_
          cases h0
          exact tr_ret ⟨[], by simp, rfl, by simp⟩
      · refine kc1 ?_
        refine ko [1, 36] 5 (by simp; rfl) ?_
        refine tops_split 36 (decide (40 < ((a0.Holidays).length : Int))) (by simp) (fun c17 => ?_) (fun c17 => ?_)
        · rw [if_pos c17] at hvv2
          refine ko [54] 18 (by simp; rfl) ?_
          refine tops_nil ?_
          cases hvv2
          exact ⟨_, rfl, wk (by simp [weak_iff])⟩
        · rw [if_neg (by rw [c17]; decide)] at hvv2
          refine ko [1, 36, 38] 2 (by simp; rfl) ?_
          replace hvv2 := bnd hvv2; obtain ⟨y3, hy3, hvv2⟩ := hvv2
          refine kcall [1, 36, 39] [] (directory_Ascending_ok hy3) rfl rfl rfl Try.call26 (by simp) (by simp; rfl) ?_
          refine ko [1, 42] 3 (by simp; rfl) ?_
          refine tops_split 42 (!y3) (by simp) (fun c18 => ?_) (fun c18 => ?_)
          · rw [if_pos c18] at hvv2
            refine ko [54] 12 (by simp; rfl) ?_
            refine tops_nil ?_
            cases hvv2
            exact ⟨_, rfl, wk (by simp [weak_iff])⟩
          · rw [if_neg (by rw [c18]; decide)] at hvv2
            refine ko [1, 42, 47] 5 (by simp; rfl) ?_
            refine tops_split 47 (decide (0 < ((a0.Holidays).length : Int))) (by simp) (fun c19 => ?_) (fun c19 => ?_)
            · rw [if_pos c19] at hvv2
              replace hvv2 := bnd hvv2; obtain ⟨x4, p3, hvv2⟩ := hvv2
              replace p3 := idx_some p3
              have p3' := p3; try simp at p3'
              refine ko [54] 7 (by simp [p3, p3']; rfl) ?_
              refine tops_nil ?_
              cases hvv2
              exact ⟨_, rfl, wk (by simp [weak_iff])⟩
            · rw [if_neg (by rw [c19]; decide)] at hvv2
              refine ko [54] 7 (by simp; rfl) ?_
              refine tops_nil ?_
              cases hvv2
              exact ⟨_, rfl, wk (by simp [weak_iff])⟩
  · refine kc1 ?_
    refine ko [1, 4] 2 (by simp; rfl) ?_
    replace hvv1 := bnd hvv1; obtain ⟨y5, hy5, hvv1⟩ := hvv1
    refine kcall [1, 5] [] (calendar_among_ok hy5) rfl rfl rfl Try.call25 (by simp) (by simp; rfl) ?_
    refine ko [1, 7] 2 (by simp; rfl) ?_
    refine tops_split 7 (!y5) (by simp) (fun c20 => ?_) (fun c20 => ?_)
    · rw [if_pos c20] at hvv1
      refine ko [1, 31] 24 (by simp; rfl) ?_
      refine tops_nil ?_
      cases hvv1
      exact ⟨_, rfl, wk (by simp [weak_iff])⟩
    · rw [if_neg (by rw [c20]; decide)] at hvv1
      refine ko [1, 12] 5 (by simp; rfl) ?_
      refine tops_split 12 (decide (a0.From < 0)) (by simp) (fun c21 => ?_) (fun c21 => ?_)
      · rw [if_pos c21] at hvv1
        refine ko [1, 31] 19 (by simp; rfl) ?_
        refine tops_nil ?_
        cases hvv1
        exact ⟨_, rfl, wk (by simp [weak_iff])⟩
      · rw [if_neg (by rw [c21]; decide)] at hvv1
        refine ko [1, 19] 7 (by simp; rfl) ?_
        refine tops_split 19 (decide (a0.To ≤ a0.From)) (by simp) (fun c22 => ?_) (fun c22 => ?_)
        · rw [if_pos c22] at hvv1
          refine ko [1, 31] 12 (by simp; rfl) ?_
          refine tops_nil ?_
          cases hvv1
          exact ⟨_, rfl, wk (by simp [weak_iff])⟩
        · rw [if_neg (by rw [c22]; decide)] at hvv1
          refine ko [1, 26] 7 (by simp; rfl) ?_
          refine tops_split 26 (decide (a0.Day < a0.To)) (by simp) (fun c23 => ?_) (fun c23 => ?_)
          · rw [if_pos c23] at hvv1
            refine ko [1, 31] 5 (by simp; rfl) ?_
            refine tops_nil ?_
            cases hvv1
            exact ⟨_, rfl, wk (by simp [weak_iff])⟩
          · rw [if_neg (by rw [c23]; decide)] at hvv1
            refine ko [1, 26, 28] 2 (by simp; rfl) ?_
            replace hvv1 := bnd hvv1; obtain ⟨y6, hy6, hvv1⟩ := hvv1
            refine kcall [1, 26, 29] [] (calendar_among_ok hy6) rfl rfl rfl Try.call25 (by simp) (by simp; rfl) ?_
            refine ko [1, 31] 2 (by simp; rfl) ?_
            refine tops_nil ?_
            cases hvv1
            exact ⟨_, rfl, wk (by simp [weak_iff])⟩
set_option maxHeartbeats 1000000 in
theorem calendar_tick_ok {a0 : Int} {r : Bool} (h0 : calendar_tick a0 = some r) : FnOK Try.prog 28 [] [.d (.int .i64 a0)] (.d (.bool r)) [] := by
  unfold calendar_tick at h0
  refine fn_ok (nt := 5) (rs := [.tmp 2]) Try.func28 rfl Try.ntmps28 rfl (by simp) (by decide) rfl fun K => ?_
  refine kr [0] (by simp; rfl) ?_
  refine kc ?_
  refine ko [3] 1 (by simp; rfl) ?_
  replace h0 := bnd h0; obtain ⟨y1, hy1, h0⟩ := h0
  refine kcall [4] [] (calendar_among_ok hy1) rfl rfl rfl Try.call25 (by simp) (by simp; rfl) ?_
  refine ko [2] 1 (by simp; rfl) ?_
  refine tops_nil ?_
  cases h0
  exact tr_ret ⟨[], by simp, rfl, by simp⟩
set_option maxHeartbeats 1000000 in
theorem cmp_isNaN_int_ok {a0 : Int} {r : Bool} (h0 : cmp_isNaN_int a0 = some r) : FnOK Try.prog 35 [] [.d (.int .i64 a0)] (.d (.bool r)) [] := by
  unfold cmp_isNaN_int at h0
  refine fn_ok (nt := 6) (rs := [.tmp 2]) Try.func35 rfl Try.ntmps35 rfl (by simp) (by decide) rfl fun K => ?_
  refine kr [0] (by simp; rfl) ?_
  refine kr [2] (by simp; rfl) ?_
  cases h0
  exact tr_ret ⟨[], by simp, rfl, by simp⟩
set_option maxHeartbeats 1000000 in
theorem cmp_Less_int_ok {a0 : Int} {a1 : Int} {r : Bool} (h0 : cmp_Less_int a0 a1 = some r) : FnOK Try.prog 33 [] [.d (.int .i64 a0), .d (.int .i64 a1)] (.d (.bool r)) [] := by
  unfold cmp_Less_int at h0
  refine fn_ok (nt := 17) (rs := [.tmp 4]) Try.func33 rfl Try.ntmps33 rfl (by simp) (by decide) rfl fun K => ?_
  refine kr [0, 1] (by simp; rfl) ?_
  replace h0 := bnd h0; obtain ⟨v1, hvv1, h0⟩ := h0
  refine sjv (fun v1_ : Bool => ({ nt := 17, env := [(4, .d (.bool v1_))], box := [], vec := [] } : St)) (fun v1_ => v1 = v1_) (fun v1_ e => ?_) ?_
  · subst e
    cases h0
    exact tr_ret ⟨[], by simp, rfl, by simp⟩
  · refine kc1 ?_
    refine ko [0, 1, 5] 1 (by simp; rfl) ?_
    replace hvv1 := bnd hvv1; obtain ⟨y2, hy2, hvv1⟩ := hvv1
    refine kcall [0, 1, 6] [] (cmp_isNaN_int_ok hy2) rfl rfl rfl Try.call35 (by simp) (by simp; rfl) ?_
    refine ko [0, 1, 7] 1 (by simp; rfl) ?_
    refine tops_split 7 y2 (by simp) (fun c5 => ?_) (fun c5 => ?_)
    · rw [if_pos c5] at hvv1
      refine ko [0, 1, 7, 8] 1 (by simp; rfl) ?_
      replace hvv1 := bnd hvv1; obtain ⟨y3, hy3, hvv1⟩ := hvv1
      refine kcall [0, 1, 7, 9] [] (cmp_isNaN_int_ok hy3) rfl rfl rfl Try.call35 (by simp) (by simp; rfl) ?_
      refine ko [0, 1, 12] 3 (by simp; rfl) ?_
      refine tops_split 12 (!y3) (by simp) (fun c6 => ?_) (fun c6 => ?_)
      · rw [if_pos c6] at hvv1
        refine ko [4] 5 (by simp; rfl) ?_
        refine tops_nil ?_
        cases hvv1
        exact ⟨_, rfl, wk (by simp [weak_iff])⟩
      · rw [if_neg (by rw [c6]; decide)] at hvv1
        refine ko [4] 5 (by simp; rfl) ?_
        refine tops_nil ?_
        cases hvv1
        exact ⟨_, rfl, wk (by simp [weak_iff])⟩
    · rw [if_neg (by rw [c5]; decide)] at hvv1
      refine ko [4] 10 (by simp; rfl) ?_
      refine tops_nil ?_
      cases hvv1
      exact ⟨_, rfl, wk (by simp [weak_iff])⟩
set_option maxHeartbeats 1000000 in
theorem slices_isNaN_int_ok {a0 : Int} {r : Bool} (h0 : slices_isNaN_int a0 = some r) : FnOK Try.prog 34 [] [.d (.int .i64 a0)] (.d (.bool r)) [] := by
  unfold slices_isNaN_int at h0
  refine fn_ok (nt := 6) (rs := [.tmp 2]) Try.func34 rfl Try.ntmps34 rfl (by simp) (by decide) rfl fun K => ?_
  refine kr [0] (by simp; rfl) ?_
  refine kr [2] (by simp; rfl) ?_
  cases h0
  exact tr_ret ⟨[], by simp, rfl, by simp⟩
set_option maxHeartbeats 1000000 in
theorem slices_BinarySearch_int_ok {a0 : List Int} {a1 : Int} {r : Int × Bool} (h0 : slices_BinarySearch_int a0 a1 = some r) : FnOK Try.prog 32 [] [.d (.slice (rowsF (iRow .i64) a0)), .d (.int .i64 a1)] (.tup [.d (.int .i64 r.1), .d (.bool r.2)]) [] := by
  unfold slices_BinarySearch_int at h0
  refine fn_ok (nt := 54) (rs := [.tmp 4, .tmp 5]) Try.func32 rfl Try.ntmps32 rfl (by simp) (by decide) rfl fun K => ?_
  refine kr [0, 1] (by simp; rfl) ?_
  refine kr [0, 1, 6] (by simp; rfl) ?_
  refine kr [0, 1, 6, 7, 8] (by simp; rfl) ?_
  replace h0 := bnd h0; obtain ⟨e1, hI1, h0⟩ := h0
  refine sjv (fun v1 : Int => ({ nt := 54, env := [(0, .d (.slice (rowsF (iRow .i64) a0))), (1, .d (.int .i64 a1)), (6, .d (.int .i64 ((a0).length : Int))), (7, .d (.int .i64 v1))], box := [], vec := [] } : St)) (fun v1 => v1 = e1) (fun v1 hI1e => ?_) ?_
  · subst hI1e
    replace h0 := bnd h0; obtain ⟨v2, hvv2, h0⟩ := h0
    refine sjv (fun v2_ : Bool => ({ nt := 54, env := [(4, .d (.int .i64 v1)), (5, .d (.bool v2_))], box := [], vec := [] } : St)) (fun v2_ => v2 = v2_) (fun v2_ e => ?_) ?_
    · subst e
      cases h0
      exact tr_ret ⟨[], by simp, rfl, by simp⟩
    · refine kc1 ?_
      refine ko [0, 1, 7, 31, 35] 5 (by simp; rfl) ?_
      refine tops_split 35 (decide (v1 < ((a0).length : Int))) (by simp) (fun c11 => ?_) (fun c11 => ?_)
      · rw [if_pos c11] at hvv2
        replace hvv2 := bnd hvv2; obtain ⟨x3, p7, hvv2⟩ := hvv2
        replace p7 := idx_some p7
        have p7' := p7; try simp at p7'
        refine ko [0, 1, 7, 31, 35, 42] 7 (by simp [p7, p7']; rfl) ?_
        refine tops_split 42 (x3 == a1) (by simp) (fun c12 => ?_) (fun c12 => ?_)
        · rw [if_pos c12] at hvv2
          refine ko [4, 5] 13 (by simp; rfl) ?_
          refine tops_nil ?_
          cases hvv2
          exact ⟨_, rfl, wk (by simp [weak_iff])⟩
        · rw [if_neg (by rw [c12]; decide)] at hvv2
          replace hvv2 := bnd hvv2; obtain ⟨x4, p8, hvv2⟩ := hvv2
          replace p8 := idx_some p8
          have p8' := p8; try simp at p8'
          refine ko [1, 31, 35, 42, 46] 4 (by simp [p8, p8']; rfl) ?_
          replace hvv2 := bnd hvv2; obtain ⟨y5, hy5, hvv2⟩ := hvv2
          refine kcall [1, 31, 35, 42, 47] [] (slices_isNaN_int_ok hy5) rfl rfl rfl Try.call34 (by simp) (by simp; rfl) ?_
          refine ko [1, 31, 35, 42, 48] 1 (by simp; rfl) ?_
          refine tops_split 48 y5 (by simp) (fun c13 => ?_) (fun c13 => ?_)
          · rw [if_pos c13] at hvv2
            refine ko [31, 35, 42, 48, 49] 1 (by simp; rfl) ?_
            replace hvv2 := bnd hvv2; obtain ⟨y6, hy6, hvv2⟩ := hvv2
            refine kcall [31, 35, 42, 48, 50] [] (slices_isNaN_int_ok hy6) rfl rfl rfl Try.call34 (by simp) (by simp; rfl) ?_
            refine ko [4, 5] 5 (by simp; rfl) ?_
            refine tops_nil ?_
            cases hvv2
            exact ⟨_, rfl, wk (by simp [weak_iff])⟩
          · rw [if_neg (by rw [c13]; decide)] at hvv2
            refine ko [4, 5] 7 (by simp; rfl) ?_
            refine tops_nil ?_
            cases hvv2
            exact ⟨_, rfl, wk (by simp [weak_iff])⟩
      · rw [if_neg (by rw [c11]; decide)] at hvv2
        refine ko [4, 5] 20 (by simp; rfl) ?_
        refine tops_nil ?_
        cases hvv2
        exact ⟨_, rfl, wk (by simp [weak_iff])⟩
  · refine tr_block (tr_iter (fun s7 : Int × Int => ({ nt := 54, env := [(0, .d (.slice (rowsF (iRow .i64) a0))), (1, .d (.int .i64 a1)), (6, .d (.int .i64 ((a0).length : Int))), (7, .d (.int .i64 s7.1)), (8, .d (.int .i64 s7.2))], box := [], vec := [] } : St)) hI1 (wk (by simp [weak_iff])) fun G1 s7 o1 h1 hg1 he1 => ?_)
    unfold slices_BinarySearch_int_l0 at h1
    refine tr_seq ?_
    refine kr [0, 1, 6, 7, 8, 15] (by simp; rfl) ?_
    refine tr_cond (b := (decide (s7.1 < s7.2))) (by simp) (fun c14 => ?_) (fun c14 => ?_)
    · rw [if_pos c14] at h1
      refine tr_skip ?_
      refine tr_block ?_
      refine kr [0, 1, 6, 7, 8, 9] (by simp; rfl) ?_
      refine kc ?_
      replace h1 := bnd h1; obtain ⟨x8, p9, h1⟩ := h1
      replace p9 := idx_some p9
      have p9' := p9; try simp at p9'
      refine ko [0, 1, 6, 7, 8, 9, 25, 26] 5 (by simp [p9, p9']; rfl) ?_
      replace h1 := bnd h1; obtain ⟨y9, hy9, h1⟩ := h1
      refine kcall [0, 1, 6, 7, 8, 9, 27] [] (cmp_Less_int_ok hy9) rfl rfl rfl Try.call33 (by simp) (by simp; rfl) ?_
      refine tops_nil ?_
      refine tr_cond (b := y9) (by simp) (fun c15 => ?_) (fun c15 => ?_)
      · rw [if_pos c15] at h1
        refine lr (by simp; rfl) ?_
        exact ⟨_, hg1 _ (Option.some.inj h1), wk (by simp [weak_iff])⟩
      · rw [if_neg (by rw [c15]; decide)] at h1
        refine lr (by simp; rfl) ?_
        exact ⟨_, hg1 _ (Option.some.inj h1), wk (by simp [weak_iff])⟩
    · rw [if_neg (by rw [c14]; decide)] at h1
      refine tr_exit ?_
      exact ⟨_, he1 _ (Option.some.inj h1), wk (by simp [weak_iff])⟩
set_option maxHeartbeats 1000000 in
theorem calendar_working_ok {a0 : api_Calendar} {a1 : Int} {r : Bool} (h0 : calendar_working a0 a1 = some r) : FnOK Try.prog 29 [] [.agg (api_Calendar_av a0), .d (.int .i64 a1)] (.d (.bool r)) [] := by
  unfold calendar_working at h0
  refine fn_ok (nt := 47) (rs := [.tmp 4]) Try.func29 rfl Try.ntmps29 rfl (by simp) (by decide) rfl fun K => ?_
  refine kr [1, 2] (by simp; rfl) ?_
  refine kd [[], [], [1], [0, 2], [], [], [5], [4, 6], [3], [7]] [] [] 10 fol (by decide +kernel) ?_
  replace h0 := bnd h0; obtain ⟨_, p3, h0⟩ := h0
  replace p3 := ck_some p3
  have p3' := p3; try simp at p3'
  replace h0 := bnd h0; obtain ⟨_, p4, h0⟩ := h0
  replace p4 := ck_some p4
  have p4' := p4; try simp at p4'
  refine dr_go 0 10 rfl (by simp (maxSteps := 1000000) [p3, p4, p3', p4']; rfl) ?_
  refine dr_end rfl (tops_nil ?_)
  refine kc ?_
  refine ko [2, 5, 6, 19, 20] 3 (by simp; rfl) ?_
  replace h0 := bnd h0; obtain ⟨y1, hy1, h0⟩ := h0
  refine kcall [2, 5, 6, 21] [] (slices_BinarySearch_int_ok hy1) rfl rfl rfl Try.call32 (by simp) (by simp; rfl) ?_
  refine ko [2, 5, 6, 8] 5 (by simp; rfl) ?_
  refine tops_nil ?_
  replace h0 := bnd h0; obtain ⟨v2, hvv2, h0⟩ := h0
  refine sjv (fun v2_ : Bool => ({ nt := 47, env := [(4, .d (.bool v2_))], box := [], vec := [] } : St)) (fun v2_ => v2 = v2_) (fun v2_ e => ?_) ?_
  · subst e
    cases h0
    exact tr_ret ⟨[], by simp, rfl, by simp⟩
  · refine kc1 ?_
    refine ko [2, 5, 6, 8, 28] 5 (by simp; rfl) ?_
    refine tops_split 28 (decide (a0.From ≤ ((a1).tmod a0.Day))) (by simp) (fun c7 => ?_) (fun c7 => ?_)
    · rw [if_pos c7] at hvv2
      refine ko [2, 5, 8, 34] 6 (by simp; rfl) ?_
      refine tops_split 34 (decide (((a1).tmod a0.Day) < a0.To)) (by simp) (fun c8 => ?_) (fun c8 => ?_)
      · rw [if_pos c8] at hvv2
        replace hvv2 := bnd hvv2; obtain ⟨_, p7, hvv2⟩ := hvv2
        replace p7 := ck_some p7
        have p7' := p7; try simp at p7'
        refine ko [8, 43] 9 (by simp [p7, p7']; rfl) ?_
        refine tops_split 43 ((bAnd .i64 ((a0.Week).fdiv (2 ^ (min (Int.toNat (((IntKind.i64.wrap ((a1).tdiv a0.Day))).tmod 7)) IntKind.i64.bits))) 1) == 1) (by simp) (fun c9 => ?_) (fun c9 => ?_)
        · rw [if_pos c9] at hvv2
          refine ko [4] 4 (by simp; rfl) ?_
          refine tops_nil ?_
          cases hvv2
          exact ⟨_, rfl, wk (by simp [weak_iff])⟩
        · rw [if_neg (by rw [c9]; decide)] at hvv2
          refine ko [4] 4 (by simp; rfl) ?_
          refine tops_nil ?_
          cases hvv2
          exact ⟨_, rfl, wk (by simp [weak_iff])⟩
      · rw [if_neg (by rw [c8]; decide)] at hvv2
        refine ko [4] 13 (by simp; rfl) ?_
        refine tops_nil ?_
        cases hvv2
        exact ⟨_, rfl, wk (by simp [weak_iff])⟩
    · rw [if_neg (by rw [c7]; decide)] at hvv2
      refine ko [4] 19 (by simp; rfl) ?_
      refine tops_nil ?_
      cases hvv2
      exact ⟨_, rfl, wk (by simp [weak_iff])⟩
set_option maxHeartbeats 1000000 in
theorem calendar_Add_ok {a0 : api_Calendar} {a1 : Int} {a2 : Int} {r : Int × Int} (h0 : calendar_Add a0 a1 a2 = some r) : FnOK Try.prog 19 [] [.agg (api_Calendar_av a0), .d (.int .i64 a1), .d (.int .i64 a2)] (.tup [.d (.int .i64 r.1), .d (.int .i64 r.2)]) [] := by
  unfold calendar_Add at h0
  refine fn_ok (nt := 38) (rs := [.tmp 6, .tmp 7]) Try.func19 rfl Try.ntmps19 rfl (by simp) (by decide) rfl fun K => ?_
  refine kr [1, 2, 3] (by simp; rfl) ?_
  refine tr_seq ?_
  refine tr_block ?_
  refine kc ?_
  refine ko [1, 2, 3, 10] 1 (by simp; rfl) ?_
  replace h0 := bnd h0; obtain ⟨y1, hy1, h0⟩ := h0
  refine kcall [1, 2, 3, 11] [] (calendar_Check_ok hy1) rfl rfl rfl Try.call13 (by simp) (by simp; rfl) ?_
  refine ko [1, 2, 3, 9] 2 (by simp; rfl) ?_
  refine tops_nil ?_
  refine tr_cond (b := (y1 != 0)) (by simp) (fun c1 => ?_) (fun c1 => ?_)
  · rw [if_pos c1] at h0
    refine kr [6, 7] (by simp; rfl) ?_
    cases h0
    exact tr_ret ⟨[], by simp, rfl, by simp⟩
  · rw [if_neg (by rw [c1]; decide)] at h0
    replace h0 := bnd h0; obtain ⟨v2, hvv2, h0⟩ := h0
    refine sjv (fun v2_ : Bool => ({ nt := 38, env := [(1, .d (.int .i64 a1)), (2, .d (.int .i64 a2)), (3, .ptr 3 0), (13, .d (.bool v2_))], box := [(3, [.d (.int .i64 a0.Day), .d (.int .i64 a0.From), .d (.int .i64 a0.To), .d (.int .i64 a0.Week), .d (.slice (rowsF (iRow .i64) a0.Holidays))])], vec := [] } : St)) (fun v2_ => v2 = v2_) (fun v2_ e => ?_) ?_
    · subst e
      refine tr_cond (b := v2) (by simp) (fun c4 => ?_) (fun c4 => ?_)
      · rw [if_pos c4] at h0
        refine kr [6, 7] (by simp; rfl) ?_
        cases h0
        exact tr_ret ⟨[], by simp, rfl, by simp⟩
      · rw [if_neg (by rw [c4]; decide)] at h0
        refine tr_skip ?_
        refine tr_seq ?_
        refine kr [1, 2, 3, 8] (by simp; rfl) ?_
        replace h0 := bnd h0; obtain ⟨e1, hI1, h0⟩ := h0
        refine tjv (fun v3 : Unit => ({ nt := 38, env := [], box := [], vec := [] } : St)) (fun v3 => .inl v3 = e1) (fun v3 hI1e _ W1 => ?_) ?_
        · subst hI1e
          dsimp only at h0
          refine tr_wk W1 ?_
          refine kr [6, 7] (by simp; rfl) ?_
          cases h0
          exact tr_ret ⟨[], by simp, rfl, by simp⟩
        · refine tr_block (tr_iter (fun s4 : Int × Int => ({ nt := 38, env := [(1, .d (.int .i64 a1)), (2, .d (.int .i64 s4.1)), (3, .ptr 3 0), (8, .d (.int .i64 s4.2))], box := [(3, [.d (.int .i64 a0.Day), .d (.int .i64 a0.From), .d (.int .i64 a0.To), .d (.int .i64 a0.Week), .d (.slice (rowsF (iRow .i64) a0.Holidays))])], vec := [] } : St)) hI1 (wk (by simp [weak_iff])) fun G1 s4 o1 h1 hg1 he1 => ?_)
          unfold calendar_Add_l0 at h1
          refine tr_seq ?_
          refine kr [1, 2, 3, 8, 27] (by simp; rfl) ?_
          refine tr_cond (b := (decide (s4.2 ≤ (if 1099511627776 < (IntKind.i64.wrap (a1 + 100000)) then 1099511627776 else (IntKind.i64.wrap (a1 + 100000)))))) (by simp) (fun c11 => ?_) (fun c11 => ?_)
          · rw [if_pos c11] at h1
            refine tr_skip ?_
            refine tr_seq ?_
            refine tr_block ?_
            refine tr_seq ?_
            refine kr [1, 2, 3, 8, 31] (by simp; rfl) ?_
            refine tr_cond (b := (s4.1 == 0)) (by simp) (fun c12 => ?_) (fun c12 => ?_)
            · rw [if_pos c12] at h1
              refine kr [6, 7] (by simp; rfl) ?_
              have k1 := he1 _ (Option.some.inj h1)
              subst k1
              dsimp only at h0
              cases h0
              exact tr_ret ⟨[], by simp, rfl, by simp⟩
            · rw [if_neg (by rw [c12]; decide)] at h1
              refine tr_skip ?_
              refine kc ?_
              refine ko [1, 2, 3, 8, 33, 34] 2 (by simp; rfl) ?_
              replace h1 := bnd h1; obtain ⟨y5, hy5, h1⟩ := h1
              refine kcall [1, 2, 3, 8, 35] [] (calendar_working_ok hy5) rfl rfl rfl Try.call29 (by simp) (by simp; rfl) ?_
              refine tops_nil ?_
              refine tr_cond (b := y5) (by simp) (fun c13 => ?_) (fun c13 => ?_)
              · rw [if_pos c13] at h1
                refine lr (by simp; rfl) ?_
                refine lr (by simp; rfl) ?_
                exact ⟨_, hg1 _ (Option.some.inj h1), wk (by simp [weak_iff])⟩
              · rw [if_neg (by rw [c13]; decide)] at h1
                refine tr_skip ?_
                refine lr (by simp; rfl) ?_
                exact ⟨_, hg1 _ (Option.some.inj h1), wk (by simp [weak_iff])⟩
          · rw [if_neg (by rw [c11]; decide)] at h1
            refine tr_exit ?_
            exact ⟨_, he1 _ (Option.some.inj h1), wk (by simp [weak_iff])⟩
    · refine kc1 ?_
      refine ko [1, 2, 3, 14] 1 (by simp; rfl) ?_
      replace hvv2 := bnd hvv2; obtain ⟨y8, hy8, hvv2⟩ := hvv2
      refine kcall [1, 2, 3, 15] [] (calendar_tick_ok hy8) rfl rfl rfl Try.call28 (by simp) (by simp; rfl) ?_
      refine ko [1, 2, 3, 17] 2 (by simp; rfl) ?_
      refine tops_split 17 (!y8) (by simp) (fun c14 => ?_) (fun c14 => ?_)
      · rw [if_pos c14] at hvv2
        refine ko [1, 2, 3, 13] 5 (by simp; rfl) ?_
        refine tops_nil ?_
        cases hvv2
        exact ⟨_, rfl, wk (by simp [weak_iff])⟩
      · rw [if_neg (by rw [c14]; decide)] at hvv2
        refine ko [1, 2, 3, 17, 18] 1 (by simp; rfl) ?_
        replace hvv2 := bnd hvv2; obtain ⟨y9, hy9, hvv2⟩ := hvv2
        refine kcall [1, 2, 3, 17, 19] [] (calendar_among_ok hy9) rfl rfl rfl Try.call25 (by simp) (by simp; rfl) ?_
        refine ko [1, 2, 3, 13] 3 (by simp; rfl) ?_
        refine tops_nil ?_
        cases hvv2
        exact ⟨_, rfl, wk (by simp [weak_iff])⟩
set_option maxHeartbeats 1000000 in
theorem calendar_Between_ok {a0 : api_Calendar} {a1 : Int} {a2 : Int} {r : Int × Int} (h0 : calendar_Between a0 a1 a2 = some r) : FnOK Try.prog 15 [] [.agg (api_Calendar_av a0), .d (.int .i64 a1), .d (.int .i64 a2)] (.tup [.d (.int .i64 r.1), .d (.int .i64 r.2)]) [] := by
  unfold calendar_Between at h0
  refine fn_ok (nt := 45) (rs := [.tmp 6, .tmp 7]) Try.func15 rfl Try.ntmps15 rfl (by simp) (by decide) rfl fun K => ?_
  refine kr [1, 2, 3] (by simp; rfl) ?_
  refine tr_seq ?_
  refine tr_block ?_
  refine kc ?_
  refine ko [1, 2, 3, 11] 1 (by simp; rfl) ?_
  replace h0 := bnd h0; obtain ⟨y1, hy1, h0⟩ := h0
  refine kcall [1, 2, 3, 12] [] (calendar_Check_ok hy1) rfl rfl rfl Try.call13 (by simp) (by simp; rfl) ?_
  refine ko [1, 2, 3, 10] 2 (by simp; rfl) ?_
  refine tops_nil ?_
  refine tr_cond (b := (y1 != 0)) (by simp) (fun c1 => ?_) (fun c1 => ?_)
  · rw [if_pos c1] at h0
    refine kr [6, 7] (by simp; rfl) ?_
    cases h0
    exact tr_ret ⟨[], by simp, rfl, by simp⟩
  · rw [if_neg (by rw [c1]; decide)] at h0
    replace h0 := bnd h0; obtain ⟨v2, hvv2, h0⟩ := h0
    refine sjv (fun v2_ : Bool => ({ nt := 45, env := [(1, .d (.int .i64 a1)), (2, .d (.int .i64 a2)), (3, .ptr 3 0), (14, .d (.bool v2_))], box := [(3, [.d (.int .i64 a0.Day), .d (.int .i64 a0.From), .d (.int .i64 a0.To), .d (.int .i64 a0.Week), .d (.slice (rowsF (iRow .i64) a0.Holidays))])], vec := [] } : St)) (fun v2_ => v2 = v2_) (fun v2_ e => ?_) ?_
    · subst e
      refine tr_cond (b := v2) (by simp) (fun c6 => ?_) (fun c6 => ?_)
      · rw [if_pos c6] at h0
        refine kr [6, 7] (by simp; rfl) ?_
        cases h0
        exact tr_ret ⟨[], by simp, rfl, by simp⟩
      · rw [if_neg (by rw [c6]; decide)] at h0
        refine kr [1, 2, 3, 28] (by simp; rfl) ?_
        refine tr_cond (b := (decide (100000 < (IntKind.i64.wrap (a2 - a1))))) (by simp) (fun c7 => ?_) (fun c7 => ?_)
        · rw [if_pos c7] at h0
          refine kr [6, 7] (by simp; rfl) ?_
          cases h0
          exact tr_ret ⟨[], by simp, rfl, by simp⟩
        · rw [if_neg (by rw [c7]; decide)] at h0
          refine tr_skip ?_
          refine kr [1, 2, 3, 8] (by simp; rfl) ?_
          refine tr_seq ?_
          refine kr [2, 3, 8, 9] (by simp; rfl) ?_
          replace h0 := bnd h0; obtain ⟨e1, hI1, h0⟩ := h0
          refine tjv (fun v3 : Int => ({ nt := 45, env := [(8, .d (.int .i64 v3))], box := [], vec := [] } : St)) (fun v3 => v3 = e1) (fun v3 hI1e _ W1 => ?_) ?_
          · subst hI1e
            refine tr_wk W1 ?_
            refine kr [6, 7] (by simp; rfl) ?_
            cases h0
            exact tr_ret ⟨[], by simp, rfl, by simp⟩
          · refine tr_block (tr_iter (fun s4 : Int × Int => ({ nt := 45, env := [(2, .d (.int .i64 a2)), (3, .ptr 3 0), (8, .d (.int .i64 s4.1)), (9, .d (.int .i64 s4.2))], box := [(3, [.d (.int .i64 a0.Day), .d (.int .i64 a0.From), .d (.int .i64 a0.To), .d (.int .i64 a0.Week), .d (.slice (rowsF (iRow .i64) a0.Holidays))])], vec := [] } : St)) hI1 (wk (by simp [weak_iff])) fun G1 s4 o1 h1 hg1 he1 => ?_)
            unfold calendar_Between_l0 at h1
            refine tr_seq ?_
            refine kr [2, 3, 8, 9, 36] (by simp; rfl) ?_
            refine tr_cond (b := (decide (s4.2 < a2))) (by simp) (fun c12 => ?_) (fun c12 => ?_)
            · rw [if_pos c12] at h1
              refine tr_skip ?_
              refine tr_seq ?_
              refine tr_block ?_
              refine kc ?_
              refine ko [2, 3, 8, 9, 39, 40] 2 (by simp; rfl) ?_
              replace h1 := bnd h1; obtain ⟨y5, hy5, h1⟩ := h1
              refine kcall [2, 3, 8, 9, 41] [] (calendar_working_ok hy5) rfl rfl rfl Try.call29 (by simp) (by simp; rfl) ?_
              refine tops_nil ?_
              refine tr_cond (b := y5) (by simp) (fun c13 => ?_) (fun c13 => ?_)
              · rw [if_pos c13] at h1
                refine lr (by simp; rfl) ?_
                refine lr (by simp; rfl) ?_
                exact ⟨_, hg1 _ (Option.some.inj h1), wk (by simp [weak_iff])⟩
              · rw [if_neg (by rw [c13]; decide)] at h1
                refine tr_skip ?_
                refine lr (by simp; rfl) ?_
                exact ⟨_, hg1 _ (Option.some.inj h1), wk (by simp [weak_iff])⟩
            · rw [if_neg (by rw [c12]; decide)] at h1
              refine tr_exit ?_
              exact ⟨_, he1 _ (Option.some.inj h1), wk (by simp [weak_iff])⟩
    · refine kc1 ?_
      refine ko [1, 2, 3, 15] 1 (by simp; rfl) ?_
      replace hvv2 := bnd hvv2; obtain ⟨y6, hy6, hvv2⟩ := hvv2
      refine kcall [1, 2, 3, 16] [] (calendar_tick_ok hy6) rfl rfl rfl Try.call28 (by simp) (by simp; rfl) ?_
      refine ko [1, 2, 3, 18] 2 (by simp; rfl) ?_
      refine tops_split 18 (!y6) (by simp) (fun c14 => ?_) (fun c14 => ?_)
      · rw [if_pos c14] at hvv2
        refine ko [1, 2, 3, 14] 10 (by simp; rfl) ?_
        refine tops_nil ?_
        cases hvv2
        exact ⟨_, rfl, wk (by simp [weak_iff])⟩
      · rw [if_neg (by rw [c14]; decide)] at hvv2
        refine ko [1, 2, 3, 18, 19] 1 (by simp; rfl) ?_
        replace hvv2 := bnd hvv2; obtain ⟨y7, hy7, hvv2⟩ := hvv2
        refine kcall [1, 2, 3, 18, 20] [] (calendar_tick_ok hy7) rfl rfl rfl Try.call28 (by simp) (by simp; rfl) ?_
        refine ko [1, 2, 3, 23] 3 (by simp; rfl) ?_
        refine tops_split 23 (!y7) (by simp) (fun c15 => ?_) (fun c15 => ?_)
        · rw [if_pos c15] at hvv2
          refine ko [1, 2, 3, 14] 5 (by simp; rfl) ?_
          refine tops_nil ?_
          cases hvv2
          exact ⟨_, rfl, wk (by simp [weak_iff])⟩
        · rw [if_neg (by rw [c15]; decide)] at hvv2
          refine ko [1, 2, 3, 14] 5 (by simp; rfl) ?_
          refine tops_nil ?_
          cases hvv2
          exact ⟨_, rfl, wk (by simp [weak_iff])⟩
set_option maxHeartbeats 1000000 in
theorem calendar_Next_ok {a0 : api_Calendar} {a1 : Int} {r : Int × Int} (h0 : calendar_Next a0 a1 = some r) : FnOK Try.prog 21 [] [.agg (api_Calendar_av a0), .d (.int .i64 a1)] (.tup [.d (.int .i64 r.1), .d (.int .i64 r.2)]) [] := by
  unfold calendar_Next at h0
  refine fn_ok (nt := 27) (rs := [.tmp 4, .tmp 5]) Try.func21 rfl Try.ntmps21 rfl (by simp) (by decide) rfl fun K => ?_
  refine kr [1, 2] (by simp; rfl) ?_
  refine tr_seq ?_
  refine tr_block ?_
  refine kc ?_
  refine ko [1, 2, 8] 1 (by simp; rfl) ?_
  replace h0 := bnd h0; obtain ⟨y1, hy1, h0⟩ := h0
  refine kcall [1, 2, 9] [] (calendar_Check_ok hy1) rfl rfl rfl Try.call13 (by simp) (by simp; rfl) ?_
  refine ko [1, 2, 7] 2 (by simp; rfl) ?_
  refine tops_nil ?_
  refine tr_cond (b := (y1 != 0)) (by simp) (fun c1 => ?_) (fun c1 => ?_)
  · rw [if_pos c1] at h0
    refine kr [4, 5] (by simp; rfl) ?_
    cases h0
    exact tr_ret ⟨[], by simp, rfl, by simp⟩
  · rw [if_neg (by rw [c1]; decide)] at h0
    refine kc ?_
    refine ko [1, 2, 12] 1 (by simp; rfl) ?_
    replace h0 := bnd h0; obtain ⟨y2, hy2, h0⟩ := h0
    refine kcall [1, 2, 13] [] (calendar_tick_ok hy2) rfl rfl rfl Try.call28 (by simp) (by simp; rfl) ?_
    refine ko [1, 2, 11] 2 (by simp; rfl) ?_
    refine tops_nil ?_
    refine tr_cond (b := (!y2)) (by simp) (fun c2 => ?_) (fun c2 => ?_)
    · rw [if_pos c2] at h0
      refine kr [4, 5] (by simp; rfl) ?_
      cases h0
      exact tr_ret ⟨[], by simp, rfl, by simp⟩
    · rw [if_neg (by rw [c2]; decide)] at h0
      refine tr_skip ?_
      refine tr_seq ?_
      refine kr [1, 2, 6] (by simp; rfl) ?_
      replace h0 := bnd h0; obtain ⟨e1, hI1, h0⟩ := h0
      refine tjv (fun v3 : Unit => ({ nt := 27, env := [], box := [], vec := [] } : St)) (fun v3 => .inl v3 = e1) (fun v3 hI1e _ W1 => ?_) ?_
      · subst hI1e
        dsimp only at h0
        refine tr_wk W1 ?_
        refine kr [4, 5] (by simp; rfl) ?_
        cases h0
        exact tr_ret ⟨[], by simp, rfl, by simp⟩
      · refine tr_block (tr_iter (fun s4 : Int => ({ nt := 27, env := [(1, .d (.int .i64 a1)), (2, .ptr 2 0), (6, .d (.int .i64 s4))], box := [(2, [.d (.int .i64 a0.Day), .d (.int .i64 a0.From), .d (.int .i64 a0.To), .d (.int .i64 a0.Week), .d (.slice (rowsF (iRow .i64) a0.Holidays))])], vec := [] } : St)) hI1 (wk (by simp [weak_iff])) fun G1 s4 o1 h1 hg1 he1 => ?_)
        unfold calendar_Next_l0 at h1
        refine tr_seq ?_
        refine kr [1, 2, 6, 20] (by simp; rfl) ?_
        refine tr_cond (b := (decide (s4 ≤ (if 1099511627776 < (IntKind.i64.wrap (a1 + 100000)) then 1099511627776 else (IntKind.i64.wrap (a1 + 100000)))))) (by simp) (fun c7 => ?_) (fun c7 => ?_)
        · rw [if_pos c7] at h1
          refine tr_skip ?_
          refine tr_seq ?_
          refine tr_block ?_
          refine kc ?_
          refine ko [1, 2, 6, 23, 24] 2 (by simp; rfl) ?_
          replace h1 := bnd h1; obtain ⟨y5, hy5, h1⟩ := h1
          refine kcall [1, 2, 6, 25] [] (calendar_working_ok hy5) rfl rfl rfl Try.call29 (by simp) (by simp; rfl) ?_
          refine tops_nil ?_
          refine tr_cond (b := y5) (by simp) (fun c8 => ?_) (fun c8 => ?_)
          · rw [if_pos c8] at h1
            refine kr [4, 5] (by simp; rfl) ?_
            have k1 := he1 _ (Option.some.inj h1)
            subst k1
            dsimp only at h0
            cases h0
            exact tr_ret ⟨[], by simp, rfl, by simp⟩
          · rw [if_neg (by rw [c8]; decide)] at h1
            refine tr_skip ?_
            refine lr (by simp; rfl) ?_
            exact ⟨_, hg1 _ (Option.some.inj h1), wk (by simp [weak_iff])⟩
        · rw [if_neg (by rw [c7]; decide)] at h1
          refine tr_exit ?_
          exact ⟨_, he1 _ (Option.some.inj h1), wk (by simp [weak_iff])⟩
set_option maxHeartbeats 1000000 in
theorem calendar_Working_ok {a0 : api_Calendar} {a1 : Int} {r : Bool} (h0 : calendar_Working a0 a1 = some r) : FnOK Try.prog 17 [] [.agg (api_Calendar_av a0), .d (.int .i64 a1)] (.d (.bool r)) [] := by
  unfold calendar_Working at h0
  refine fn_ok (nt := 17) (rs := [.tmp 4]) Try.func17 rfl Try.ntmps17 rfl (by simp) (by decide) rfl fun K => ?_
  refine kr [1, 2] (by simp; rfl) ?_
  replace h0 := bnd h0; obtain ⟨v1, hvv1, h0⟩ := h0
  refine sjv (fun v1_ : Bool => ({ nt := 17, env := [(4, .d (.bool v1_))], box := [], vec := [] } : St)) (fun v1_ => v1 = v1_) (fun v1_ e => ?_) ?_
  · subst e
    cases h0
    exact tr_ret ⟨[], by simp, rfl, by simp⟩
  · refine kc1 ?_
    refine ko [1, 2, 5] 1 (by simp; rfl) ?_
    replace hvv1 := bnd hvv1; obtain ⟨y2, hy2, hvv1⟩ := hvv1
    refine kcall [1, 2, 6] [] (calendar_Check_ok hy2) rfl rfl rfl Try.call13 (by simp) (by simp; rfl) ?_
    refine ko [1, 2, 8] 2 (by simp; rfl) ?_
    refine tops_split 8 (y2 == 0) (by simp) (fun c5 => ?_) (fun c5 => ?_)
    · rw [if_pos c5] at hvv1
      refine ko [1, 2, 8, 9] 1 (by simp; rfl) ?_
      replace hvv1 := bnd hvv1; obtain ⟨y3, hy3, hvv1⟩ := hvv1
      refine kcall [1, 2, 8, 10] [] (calendar_tick_ok hy3) rfl rfl rfl Try.call28 (by simp) (by simp; rfl) ?_
      refine ko [1, 2, 12] 2 (by simp; rfl) ?_
      refine tops_split 12 y3 (by simp) (fun c6 => ?_) (fun c6 => ?_)
      · rw [if_pos c6] at hvv1
        refine ko [12, 13, 14] 2 (by simp; rfl) ?_
        replace hvv1 := bnd hvv1; obtain ⟨y4, hy4, hvv1⟩ := hvv1
        refine kcall [12, 15] [] (calendar_working_ok hy4) rfl rfl rfl Try.call29 (by simp) (by simp; rfl) ?_
        refine ko [4] 2 (by simp; rfl) ?_
        refine tops_nil ?_
        cases hvv1
        exact ⟨_, rfl, wk (by simp [weak_iff])⟩
      · rw [if_neg (by rw [c6]; decide)] at hvv1
        refine ko [4] 5 (by simp; rfl) ?_
        refine tops_nil ?_
        cases hvv1
        exact ⟨_, rfl, wk (by simp [weak_iff])⟩
    · rw [if_neg (by rw [c5]; decide)] at hvv1
      refine ko [4] 9 (by simp; rfl) ?_
      refine tops_nil ?_
      cases hvv1
      exact ⟨_, rfl, wk (by simp [weak_iff])⟩
set_option maxHeartbeats 1000000 in
theorem law40_awake_ok  {r : Bool} (h0 : law40_awake = some r) : FnOK Try.prog 8 [] [] (.d (.bool r)) [] := by
  unfold law40_awake at h0
  refine fn_ok (nt := 53) (rs := [.tmp 0]) Try.func8 rfl Try.ntmps8 rfl (by simp) (by decide) rfl fun K => ?_
  refine kr [] (by simp; rfl) ?_
  refine kc ?_
  replace h0 := bnd h0; obtain ⟨y1, hy1, h0⟩ := h0
  refine kcall [8] [] (law40_week_ok hy1) rfl rfl rfl Try.call23 (by simp) (by simp; rfl) ?_
  replace h0 := bnd h0; obtain ⟨y2, hy2, h0⟩ := h0
  refine kcall [9] [] (calendar_Add_ok hy2) rfl rfl rfl Try.call19 (by simp) (by simp; rfl) ?_
  refine ko [1, 2] 5 (by simp; rfl) ?_
  refine tops_nil ?_
  refine kc ?_
  replace h0 := bnd h0; obtain ⟨y3, hy3, h0⟩ := h0
  refine kcall [1, 2, 13] [] (law40_week_ok hy3) rfl rfl rfl Try.call23 (by simp) (by simp; rfl) ?_
  replace h0 := bnd h0; obtain ⟨y4, hy4, h0⟩ := h0
  refine kcall [1, 2, 14] [] (calendar_Between_ok hy4) rfl rfl rfl Try.call15 (by simp) (by simp; rfl) ?_
  refine ko [1, 2, 3, 4] 5 (by simp; rfl) ?_
  refine tops_nil ?_
  refine kc ?_
  replace h0 := bnd h0; obtain ⟨y5, hy5, h0⟩ := h0
  refine kcall [1, 2, 3, 4, 18] [] (law40_week_ok hy5) rfl rfl rfl Try.call23 (by simp) (by simp; rfl) ?_
  replace h0 := bnd h0; obtain ⟨y6, hy6, h0⟩ := h0
  refine kcall [1, 2, 3, 4, 19] [] (calendar_Next_ok hy6) rfl rfl rfl Try.call21 (by simp) (by simp; rfl) ?_
  refine ko [1, 2, 3, 4, 5, 6] 5 (by simp; rfl) ?_
  refine tops_nil ?_
  replace h0 := bnd h0; obtain ⟨v7, hvv7, h0⟩ := h0
  refine sjv (fun v7_ : Bool => ({ nt := 53, env := [(0, .d (.bool v7_))], box := [], vec := [] } : St)) (fun v7_ => v7 = v7_) (fun v7_ e => ?_) ?_
  · subst e
    cases h0
    exact tr_ret ⟨[], by simp, rfl, by simp⟩
  · refine kc1 ?_
    refine ko [1, 3, 4, 5, 6, 24] 3 (by simp; rfl) ?_
    refine tops_split 24 (y2.2 == 0) (by simp) (fun c15 => ?_) (fun c15 => ?_)
    · rw [if_pos c15] at hvv7
      refine ko [3, 4, 5, 6, 28] 4 (by simp; rfl) ?_
      refine tops_split 28 (y2.1 == 33) (by simp) (fun c16 => ?_) (fun c16 => ?_)
      · rw [if_pos c16] at hvv7
        refine ko [3, 5, 6, 32] 4 (by simp; rfl) ?_
        refine tops_split 32 (y4.2 == 0) (by simp) (fun c17 => ?_) (fun c17 => ?_)
        · rw [if_pos c17] at hvv7
          refine ko [5, 6, 36] 4 (by simp; rfl) ?_
          refine tops_split 36 (y4.1 == 2) (by simp) (fun c18 => ?_) (fun c18 => ?_)
          · rw [if_pos c18] at hvv7
            refine ko [5, 40] 4 (by simp; rfl) ?_
            refine tops_split 40 (y6.2 == 0) (by simp) (fun c19 => ?_) (fun c19 => ?_)
            · rw [if_pos c19] at hvv7
              refine ko [44] 4 (by simp; rfl) ?_
              refine tops_split 44 (y6.1 == 32) (by simp) (fun c20 => ?_) (fun c20 => ?_)
              · rw [if_pos c20] at hvv7
                replace hvv7 := bnd hvv7; obtain ⟨y8, hy8, hvv7⟩ := hvv7
                refine kcall [44, 45] [] (law40_week_ok hy8) rfl rfl rfl Try.call23 (by simp) (by simp; rfl) ?_
                replace hvv7 := bnd hvv7; obtain ⟨y9, hy9, hvv7⟩ := hvv7
                refine kcall [44, 46] [] (calendar_Working_ok hy9) rfl rfl rfl Try.call17 (by simp) (by simp; rfl) ?_
                refine ko [48] 2 (by simp; rfl) ?_
                refine tops_split 48 y9 (by simp) (fun c21 => ?_) (fun c21 => ?_)
                · rw [if_pos c21] at hvv7
                  replace hvv7 := bnd hvv7; obtain ⟨y10, hy10, hvv7⟩ := hvv7
                  refine kcall [48, 49] [] (law40_week_ok hy10) rfl rfl rfl Try.call23 (by simp) (by simp; rfl) ?_
                  replace hvv7 := bnd hvv7; obtain ⟨y11, hy11, hvv7⟩ := hvv7
                  refine kcall [48, 50] [] (calendar_Working_ok hy11) rfl rfl rfl Try.call17 (by simp) (by simp; rfl) ?_
                  refine ko [0] 3 (by simp; rfl) ?_
                  refine tops_nil ?_
                  cases hvv7
                  exact ⟨_, rfl, wk (by simp [weak_iff])⟩
                · rw [if_neg (by rw [c21]; decide)] at hvv7
                  refine ko [0] 5 (by simp; rfl) ?_
                  refine tops_nil ?_
                  cases hvv7
                  exact ⟨_, rfl, wk (by simp [weak_iff])⟩
              · rw [if_neg (by rw [c20]; decide)] at hvv7
                refine ko [0] 9 (by simp; rfl) ?_
                refine tops_nil ?_
                cases hvv7
                exact ⟨_, rfl, wk (by simp [weak_iff])⟩
            · rw [if_neg (by rw [c19]; decide)] at hvv7
              refine ko [0] 13 (by simp; rfl) ?_
              refine tops_nil ?_
              cases hvv7
              exact ⟨_, rfl, wk (by simp [weak_iff])⟩
          · rw [if_neg (by rw [c18]; decide)] at hvv7
            refine ko [0] 17 (by simp; rfl) ?_
            refine tops_nil ?_
            cases hvv7
            exact ⟨_, rfl, wk (by simp [weak_iff])⟩
        · rw [if_neg (by rw [c17]; decide)] at hvv7
          refine ko [0] 21 (by simp; rfl) ?_
          refine tops_nil ?_
          cases hvv7
          exact ⟨_, rfl, wk (by simp [weak_iff])⟩
      · rw [if_neg (by rw [c16]; decide)] at hvv7
        refine ko [0] 25 (by simp; rfl) ?_
        refine tops_nil ?_
        cases hvv7
        exact ⟨_, rfl, wk (by simp [weak_iff])⟩
    · rw [if_neg (by rw [c15]; decide)] at hvv7
      refine ko [0] 29 (by simp; rfl) ?_
      refine tops_nil ?_
      cases hvv7
      exact ⟨_, rfl, wk (by simp [weak_iff])⟩
set_option maxHeartbeats 1000000 in
theorem make_Tape_Next_ok {a0 : make_Tape} {a1 : Int} {r : Int × make_Tape} (h0 : make_Tape_Next a0 a1 = some r) : FnOK Try.prog 10 [make_Tape_av a0] [.ptr (InO 0) 0, .d (.int .i64 a1)] (.d (.int .i64 r.1)) [make_Tape_av r.2] := by
  unfold make_Tape_Next at h0
  refine fn_ok (nt := 37) (rs := [.tmp 4]) Try.func10 rfl Try.ntmps10 rfl (by simp) (by decide) rfl fun K => ?_
  refine kr [0, 1] (by simp; rfl) ?_
  refine tr_seq ?_
  refine kd [[], [0], [1], [2], [], [4], [5], [6], [7], [3, 8]] [] [] 10 fol (by decide +kernel) ?_
  refine dr_go 0 10 rfl (by simp (maxSteps := 1000000); rfl) ?_
  refine dr_end rfl (tops_nil ?_)
  refine tr_cond (b := (decide (((a0.L).length : Int) ≤ a0.at_))) (by simp) (fun c1 => ?_) (fun c1 => ?_)
  · rw [if_pos c1] at h0
    refine kr [4] (by simp; rfl) ?_
    cases h0
    exact tr_ret ⟨[], by simp, rfl, by simp⟩
  · rw [if_neg (by rw [c1]; decide)] at h0
    refine tr_skip ?_
    refine kd [[], [0], [1], [2], [], [4], [5], [6], [3, 7], [8], [9], [10]] [] [] 12 fol (by decide +kernel) ?_
    replace h0 := bnd h0; obtain ⟨x1, p2, h0⟩ := h0
    replace p2 := idx_some p2
    have p2' := p2; try simp at p2'
    refine dr_go 0 12 rfl (by simp (maxSteps := 1000000) [p2, p2']; rfl) ?_
    refine dr_end rfl (tops_nil ?_)
    refine kr [1, 5] (by simp; rfl) ?_
    replace h0 := bnd h0; obtain ⟨_, p3, h0⟩ := h0
    replace p3 := ck_some p3
    have p3' := p3; try simp at p3'
    refine kr [4] (by simp [p3, p3']; rfl) ?_
    cases h0
    exact tr_ret ⟨[], by simp, rfl, by simp⟩
set_option maxHeartbeats 1000000 in
theorem make_Tape_Between_ok {a0 : make_Tape} {a1 : Int} {a2 : Int} {r : Int × make_Tape} (h0 : make_Tape_Between a0 a1 a2 = some r) : FnOK Try.prog 11 [make_Tape_av a0] [.ptr (InO 0) 0, .d (.int .i64 a1), .d (.int .i64 a2)] (.d (.int .i64 r.1)) [make_Tape_av r.2] := by
  unfold make_Tape_Between at h0
  refine fn_ok (nt := 15) (rs := [.tmp 6]) Try.func11 rfl Try.ntmps11 rfl (by simp) (by decide) rfl fun K => ?_
  refine kr [0, 1, 2] (by simp; rfl) ?_
  refine kc ?_
  refine ko [7, 8, 12] 6 (by simp; rfl) ?_
  replace h0 := bnd h0; obtain ⟨y1, hy1, h0⟩ := h0
  refine kcall [7, 13] [1000000] (make_Tape_Next_ok hy1) rfl rfl rfl Try.call10 (by simp) (by simp; rfl) ?_
  refine ko [6] 2 (by simp; rfl) ?_
  refine tops_nil ?_
  cases h0
  exact tr_ret ⟨[], by simp, rfl, by simp⟩
set_option maxHeartbeats 1000000 in
theorem make_Pick_ok {a0 : make_Tape} {a1 : List Int} {r : Int × make_Tape} (h0 : make_Pick a0 a1 = some r) : FnOK Try.prog 12 [make_Tape_av a0] [.ptr (InO 0) 0, .d (.slice (rowsF (iRow .i64) a1))] (.d (.int .i64 r.1)) [make_Tape_av r.2] := by
  unfold make_Pick at h0
  refine fn_ok (nt := 12) (rs := [.tmp 4]) Try.func12 rfl Try.ntmps12 rfl (by simp) (by decide) rfl fun K => ?_
  refine kr [0, 1] (by simp; rfl) ?_
  refine kc ?_
  refine ko [5, 6, 8] 4 (by simp; rfl) ?_
  replace h0 := bnd h0; obtain ⟨y1, hy1, h0⟩ := h0
  refine kcall [5, 9] [1000000] (make_Tape_Next_ok hy1) rfl rfl rfl Try.call10 (by simp) (by simp; rfl) ?_
  replace h0 := bnd h0; obtain ⟨x2, p1, h0⟩ := h0
  replace p1 := idx_some p1
  have p1' := p1; try simp at p1'
  refine ko [4] 3 (by simp [p1, p1']; rfl) ?_
  refine tops_nil ?_
  cases h0
  exact tr_ret ⟨[], by simp, rfl, by simp⟩
set_option maxHeartbeats 1000000 in
theorem make_Few_ok {a0 : make_Tape} {a1 : Int} {a2 : Int} {r : (List Int) × make_Tape} (h0 : make_Few a0 a1 a2 = some r) : FnOK Try.prog 24 [make_Tape_av a0] [.ptr (InO 0) 0, .d (.int .i64 a1), .d (.int .i64 a2)] (.d (.slice (rowsF (iRow .i64) r.1))) [make_Tape_av r.2] := by
  unfold make_Few at h0
  refine fn_ok (nt := 25) (rs := [.tmp 6]) Try.func24 rfl Try.ntmps24 rfl (by simp) (by decide) rfl fun K => ?_
  refine kr [0, 1, 2] (by simp; rfl) ?_
  refine kr [0, 1, 2, 7] (by simp; rfl) ?_
  refine tr_seq ?_
  refine kr [0, 1, 2, 7, 8] (by simp; rfl) ?_
  refine tr_wk (wk_own 7 23 3 1 (by simp) (by simp)) ?_
  replace h0 := bnd h0; obtain ⟨e1, hI1, h0⟩ := h0
  refine tjv (fun v1 : (List Int) × Int × (List Int) => ({ nt := 25, env := [(7, .vec 23)], box := [(1000000, [.d (.slice (rowsF (iRow .i64) v1.1)), .d (.int .i64 v1.2.1)])], vec := [(23, ⟨3, 1, rowsF (iRow .i64) v1.2.2⟩)] } : St)) (fun v1 => v1 = e1) (fun v1 hI1e _ W1 => ?_) ?_
  · subst hI1e
    refine tr_wk W1 ?_
    refine kr [6] (by simp; rfl) ?_
    cases h0
    exact tr_ret ⟨[23], by simp, rfl, by simp⟩
  · refine tr_block (tr_iter (fun s2 : Int × (List Int) × Int × (List Int) => ({ nt := 25, env := [(0, .ptr 1000000 0), (1, .d (.int .i64 a1)), (2, .d (.int .i64 a2)), (7, .vec 23), (8, .d (.int .i64 s2.1))], box := [(1000000, [.d (.slice (rowsF (iRow .i64) s2.2.1)), .d (.int .i64 s2.2.2.1)])], vec := [(23, ⟨3, 1, rowsF (iRow .i64) s2.2.2.2⟩)] } : St)) hI1 (wk (by simp [weak_iff])) fun G1 s2 o1 h1 hg1 he1 => ?_)
    unfold make_Few_l0 at h1
    refine tr_seq ?_
    refine kr [0, 1, 2, 7, 8, 11] (by simp; rfl) ?_
    refine tr_cond (b := (decide (s2.1 < a1))) (by simp) (fun c7 => ?_) (fun c7 => ?_)
    · rw [if_pos c7] at h1
      refine tr_skip ?_
      refine tr_seq ?_
      refine tr_block ?_
      refine kc ?_
      refine ko [0, 1, 2, 7, 8, 14, 15] 2 (by simp; rfl) ?_
      replace h1 := bnd h1; obtain ⟨y3, hy3, h1⟩ := h1
      refine kcall [0, 1, 2, 7, 8, 16] [1000000] (make_Tape_Next_ok hy3) rfl rfl rfl Try.call10 (by simp) (by simp; rfl) ?_
      refine ko [0, 1, 2, 7, 8, 19] 3 (by simp; rfl) ?_
      refine tops_nil ?_
      refine tr_cond (b := (y3.1 == (IntKind.i64.wrap (a2 - 1)))) (by simp) (fun c8 => ?_) (fun c8 => ?_)
      · rw [if_pos c8] at h1
        replace h1 := bnd h1; obtain ⟨_, p3, h1⟩ := h1
        replace p3 := ck_some p3
        have p3' := p3; try simp at p3'
        refine lr (by simp [p3, p3']; rfl) ?_
        refine lr (by simp; rfl) ?_
        exact ⟨_, hg1 _ (Option.some.inj h1), wk (by simp [weak_iff])⟩
      · rw [if_neg (by rw [c8]; decide)] at h1
        refine tr_skip ?_
        refine lr (by simp; rfl) ?_
        exact ⟨_, hg1 _ (Option.some.inj h1), wk (by simp [weak_iff])⟩
    · rw [if_neg (by rw [c7]; decide)] at h1
      refine tr_exit ?_
      exact ⟨_, he1 _ (Option.some.inj h1), wk (by simp [weak_iff])⟩
set_option maxHeartbeats 1000000 in
theorem make_Calendar_ok {a0 : make_Tape} {r : api_Calendar × make_Tape} (h0 : make_Calendar a0 = some r) : FnOK Try.prog 9 [make_Tape_av a0] [.ptr (InO 0) 0] (.agg (api_Calendar_av r.1)) [make_Tape_av r.2] := by
  unfold make_Calendar at h0
  refine fn_ok (nt := 27) (rs := [.cell 2 24]) Try.func9 rfl Try.ntmps9 rfl (by simp) (by decide) rfl fun K => ?_
  refine kr [0, 2] (by simp; rfl) ?_
  refine kc ?_
  refine ko [0, 2, 4] 1 (by simp; rfl) ?_
  replace h0 := bnd h0; obtain ⟨y1, hy1, h0⟩ := h0
  refine kcall [0, 2, 5] [1000000] (make_Tape_Between_ok hy1) rfl rfl rfl Try.call11 (by simp) (by simp; rfl) ?_
  refine ko [0, 2, 5, 6, 7] 2 (by simp; rfl) ?_
  refine tops_wk (wk_frz 7) ?_
  replace h0 := bnd h0; obtain ⟨y2, hy2, h0⟩ := h0
  refine kcall [0, 2, 5, 8] [1000000] (make_Pick_ok hy2) rfl rfl rfl Try.call12 (by simp) (by simp; rfl) ?_
  refine ko [0, 2, 3] 3 (by simp; rfl) ?_
  refine tops_nil ?_
  refine kc ?_
  refine ko [0, 2, 3, 10, 12] 3 (by simp; rfl) ?_
  replace h0 := bnd h0; obtain ⟨y3, hy3, h0⟩ := h0
  refine kcall [0, 2, 3, 13] [1000000] (make_Tape_Next_ok hy3) rfl rfl rfl Try.call10 (by simp) (by simp; rfl) ?_
  refine ko [0, 2, 3] 2 (by simp; rfl) ?_
  refine tops_nil ?_
  refine kc ?_
  refine ko [0, 2, 3, 15, 18, 20] 6 (by simp; rfl) ?_
  replace h0 := bnd h0; obtain ⟨y4, hy4, h0⟩ := h0
  refine kcall [0, 2, 3, 21] [1000000] (make_Tape_Between_ok hy4) rfl rfl rfl Try.call11 (by simp) (by simp; rfl) ?_
  refine ko [0, 2, 3] 2 (by simp; rfl) ?_
  refine tops_nil ?_
  refine kc ?_
  refine ko [2, 3, 23] 1 (by simp; rfl) ?_
  replace h0 := bnd h0; obtain ⟨y5, hy5, h0⟩ := h0
  refine kcall [2, 3, 24] [1000000] (make_Few_ok hy5) rfl rfl rfl Try.call24 (by simp) (by simp; rfl) ?_
  refine ko [2, 3] 2 (by simp; rfl) ?_
  refine tops_nil ?_
  refine kr [2] (by simp; rfl) ?_
  cases h0
  exact tr_ret ⟨[], by simp, rfl, by simp⟩
set_option maxHeartbeats 1000000 in
theorem ref40_in_ok {a0 : Int} {a1 : Int} {a2 : Int} {r : Bool} (h0 : ref40_in a0 a1 a2 = some r) : FnOK Try.prog 30 [] [.d (.int .i64 a0), .d (.int .i64 a1), .d (.int .i64 a2)] (.d (.bool r)) [] := by
  unfold ref40_in at h0
  refine fn_ok (nt := 15) (rs := [.tmp 6]) Try.func30 rfl Try.ntmps30 rfl (by simp) (by decide) rfl fun K => ?_
  refine kr [0, 1, 2] (by simp; rfl) ?_
  replace h0 := bnd h0; obtain ⟨v1, hvv1, h0⟩ := h0
  refine sjv (fun v1_ : Bool => ({ nt := 15, env := [(6, .d (.bool v1_))], box := [], vec := [] } : St)) (fun v1_ => v1 = v1_) (fun v1_ e => ?_) ?_
  · subst e
    cases h0
    exact tr_ret ⟨[], by simp, rfl, by simp⟩
  · refine kc1 ?_
    refine ko [0, 2, 10] 4 (by simp; rfl) ?_
    refine tops_split 10 (decide (a1 ≤ a0)) (by simp) (fun c3 => ?_) (fun c3 => ?_)
    · rw [c3] at hvv1
      refine ko [6] 5 (by simp; rfl) ?_
      refine tops_nil ?_
      cases hvv1
      exact ⟨_, rfl, wk (by simp [weak_iff])⟩
    · rw [c3] at hvv1
      refine ko [6] 5 (by simp; rfl) ?_
      refine tops_nil ?_
      cases hvv1
      exact ⟨_, rfl, wk (by simp [weak_iff])⟩
set_option maxHeartbeats 1000000 in
theorem ref40_Valid_ok {a0 : api_Calendar} {r : Bool} (h0 : ref40_Valid a0 = some r) : FnOK Try.prog 27 [] [.agg (api_Calendar_av a0)] (.d (.bool r)) [] := by
  unfold ref40_Valid at h0
  refine fn_ok (nt := 65) (rs := [.tmp 2]) Try.func27 rfl Try.ntmps27 rfl (by simp) (by decide) rfl fun K => ?_
  refine kr [1] (by simp; rfl) ?_
  refine tr_seq ?_
  replace h0 := bnd h0; obtain ⟨v1, hvv1, h0⟩ := h0
  refine sjv (fun v1_ : Bool => ({ nt := 65, env := [(1, .ptr 1 0), (39, .d (.bool v1_))], box := [(1, [.d (.int .i64 a0.Day), .d (.int .i64 a0.From), .d (.int .i64 a0.To), .d (.int .i64 a0.Week), .d (.slice (rowsF (iRow .i64) a0.Holidays))])], vec := [] } : St)) (fun v1_ => v1 = v1_) (fun v1_ e => ?_) ?_
  · subst e
    refine tr_cond (b := v1) (by simp) (fun c11 => ?_) (fun c11 => ?_)
    · rw [if_pos c11] at h0
      refine kr [2] (by simp; rfl) ?_
      cases h0
      exact tr_ret ⟨[], by simp, rfl, by simp⟩
    · rw [if_neg (by rw [c11]; decide)] at h0
      refine tr_skip ?_
      refine tr_seq ?_
      refine kr [1, 41, 42, 43] (by simp; rfl) ?_
      replace h0 := bnd h0; obtain ⟨e1, hI1, h0⟩ := h0
      refine tjv (fun v2 : Unit => ({ nt := 65, env := [], box := [], vec := [] } : St)) (fun v2 => .inl v2 = e1) (fun v2 hI1e _ W1 => ?_) ?_
      · subst hI1e
        dsimp only at h0
        refine tr_wk W1 ?_
        refine kr [2] (by simp; rfl) ?_
        cases h0
        exact tr_ret ⟨[], by simp, rfl, by simp⟩
      · refine tr_block (tr_iter (fun s3 : Int => ({ nt := 65, env := [(1, .ptr 1 0), (41, .d (.slice (rowsF (iRow .i64) a0.Holidays))), (42, .d (.int .i64 ((a0.Holidays).length : Int))), (43, .d (.int .i64 s3))], box := [(1, [.d (.int .i64 a0.Day), .d (.int .i64 a0.From), .d (.int .i64 a0.To), .d (.int .i64 a0.Week), .d (.slice (rowsF (iRow .i64) a0.Holidays))])], vec := [] } : St)) hI1 (wk (by simp [weak_iff])) fun G1 s3 o1 h1 hg1 he1 => ?_)
        unfold ref40_Valid_l0 at h1
        refine kr [1, 41, 42, 43, 44] (by simp; rfl) ?_
        refine tr_seq ?_
        refine tr_cond (b := (decide (s3 < ((a0.Holidays).length : Int)))) (by simp) (fun c20 => ?_) (fun c20 => ?_)
        · rw [if_pos c20] at h1
          refine tr_skip ?_
          refine tr_seq ?_
          refine tr_block ?_
          replace h1 := bnd h1; obtain ⟨x4, p5, h1⟩ := h1
          replace p5 := idx_some p5
          have p5' := p5; try simp at p5'
          refine kr [1, 3, 4, 41, 42, 43] (by simp [p5, p5']; rfl) ?_
          replace h1 := bnd h1; obtain ⟨v5, hvv5, h1⟩ := h1
          refine sjv (fun v5_ : Bool => ({ nt := 65, env := [(1, .ptr 1 0), (41, .d (.slice (rowsF (iRow .i64) a0.Holidays))), (42, .d (.int .i64 ((a0.Holidays).length : Int))), (43, .d (.int .i64 s3)), (63, .d (.bool v5_))], box := [(1, [.d (.int .i64 a0.Day), .d (.int .i64 a0.From), .d (.int .i64 a0.To), .d (.int .i64 a0.Week), .d (.slice (rowsF (iRow .i64) a0.Holidays))])], vec := [] } : St)) (fun v5_ => v5 = v5_) (fun v5_ e => ?_) ?_
          · subst e
            refine tr_cond (b := v5) (by simp) (fun c25 => ?_) (fun c25 => ?_)
            · rw [if_pos c25] at h1
              refine kr [2] (by simp; rfl) ?_
              have k1 := he1 _ (Option.some.inj h1)
              subst k1
              dsimp only at h0
              cases h0
              exact tr_ret ⟨[], by simp, rfl, by simp⟩
            · rw [if_neg (by rw [c25]; decide)] at h1
              refine tr_skip ?_
              refine lr (by simp; rfl) ?_
              exact ⟨_, hg1 _ (Option.some.inj h1), wk (by simp [weak_iff])⟩
          · refine kc1 ?_
            refine ko [1, 3, 4, 41, 42, 43, 50] 3 (by simp; rfl) ?_
            refine tops_split 50 (decide (x4 < 0)) (by simp) (fun c26 => ?_) (fun c26 => ?_)
            · rw [if_pos c26] at hvv5
              refine ko [1, 41, 42, 43, 51, 52, 53, 54, 55, 56, 57, 58, 59, 60, 61, 62, 63] 13 (by simp; rfl) ?_
              refine tops_nil ?_
              cases hvv5
              exact ⟨_, rfl, wk (by simp [weak_iff])⟩
            · rw [if_neg (by rw [c26]; decide)] at hvv5
              refine ko [1, 3, 4, 41, 42, 43, 50, 51, 52, 53] 3 (by simp; rfl) ?_
              refine tops_split 53 (decide (0 < s3)) (by simp) (fun c27 => ?_) (fun c27 => ?_)
              · rw [if_pos c27] at hvv5
                replace hvv5 := bnd hvv5; obtain ⟨x6, p8, hvv5⟩ := hvv5
                replace p8 := idx_some p8
                have p8' := p8; try simp at p8'
                refine ko [1, 41, 42, 43, 51, 52, 53, 54, 55, 56, 57, 58, 59, 60, 61, 62, 63] 10 (by simp [p8, p8']; rfl) ?_
                refine tops_nil ?_
                cases hvv5
                exact ⟨_, rfl, wk (by simp [weak_iff])⟩
              · rw [if_neg (by rw [c27]; decide)] at hvv5
                refine ko [1, 41, 42, 43, 51, 52, 53, 54, 55, 56, 57, 58, 59, 60, 61, 62, 63] 10 (by simp; rfl) ?_
                refine tops_nil ?_
                cases hvv5
                exact ⟨_, rfl, wk (by simp [weak_iff])⟩
        · rw [if_neg (by rw [c20]; decide)] at h1
          refine tr_exit ?_
          exact ⟨_, he1 _ (Option.some.inj h1), wk (by simp [weak_iff])⟩
  · refine kc1 ?_
    refine ko [1, 6] 2 (by simp; rfl) ?_
    replace hvv1 := bnd hvv1; obtain ⟨y9, hy9, hvv1⟩ := hvv1
    refine kcall [1, 7] [] (ref40_in_ok hy9) rfl rfl rfl Try.call30 (by simp) (by simp; rfl) ?_
    refine ko [1, 9] 2 (by simp; rfl) ?_
    refine tops_split 9 (!y9) (by simp) (fun c28 => ?_) (fun c28 => ?_)
    · rw [if_pos c28] at hvv1
      refine ko [1, 39] 30 (by simp; rfl) ?_
      refine tops_nil ?_
      cases hvv1
      exact ⟨_, rfl, wk (by simp [weak_iff])⟩
    · rw [if_neg (by rw [c28]; decide)] at hvv1
      refine ko [1, 14] 5 (by simp; rfl) ?_
      refine tops_split 14 (decide (a0.From < 0)) (by simp) (fun c29 => ?_) (fun c29 => ?_)
      · rw [if_pos c29] at hvv1
        refine ko [1, 39] 25 (by simp; rfl) ?_
        refine tops_nil ?_
        cases hvv1
        exact ⟨_, rfl, wk (by simp [weak_iff])⟩
      · rw [if_neg (by rw [c29]; decide)] at hvv1
        refine ko [1, 21] 7 (by simp; rfl) ?_
        refine tops_split 21 (decide (a0.To ≤ a0.From)) (by simp) (fun c30 => ?_) (fun c30 => ?_)
        · rw [if_pos c30] at hvv1
          refine ko [1, 39] 18 (by simp; rfl) ?_
          refine tops_nil ?_
          cases hvv1
          exact ⟨_, rfl, wk (by simp [weak_iff])⟩
        · rw [if_neg (by rw [c30]; decide)] at hvv1
          refine ko [1, 28] 7 (by simp; rfl) ?_
          refine tops_split 28 (decide (a0.Day < a0.To)) (by simp) (fun c31 => ?_) (fun c31 => ?_)
          · rw [if_pos c31] at hvv1
            refine ko [1, 39] 11 (by simp; rfl) ?_
            refine tops_nil ?_
            cases hvv1
            exact ⟨_, rfl, wk (by simp [weak_iff])⟩
          · rw [if_neg (by rw [c31]; decide)] at hvv1
            refine ko [1, 28, 30] 2 (by simp; rfl) ?_
            replace hvv1 := bnd hvv1; obtain ⟨y10, hy10, hvv1⟩ := hvv1
            refine kcall [1, 28, 31] [] (ref40_in_ok hy10) rfl rfl rfl Try.call30 (by simp) (by simp; rfl) ?_
            refine ko [1, 34] 3 (by simp; rfl) ?_
            refine tops_split 34 (!y10) (by simp) (fun c32 => ?_) (fun c32 => ?_)
            · rw [if_pos c32] at hvv1
              refine ko [1, 39] 5 (by simp; rfl) ?_
              refine tops_nil ?_
              cases hvv1
              exact ⟨_, rfl, wk (by simp [weak_iff])⟩
            · rw [if_neg (by rw [c32]; decide)] at hvv1
              refine ko [1, 39] 5 (by simp; rfl) ?_
              refine tops_nil ?_
              cases hvv1
              exact ⟨_, rfl, wk (by simp [weak_iff])⟩
set_option maxHeartbeats 1000000 in
theorem ref40_Check_ok {a0 : api_Calendar} {r : Int} (h0 : ref40_Check a0 = some r) : FnOK Try.prog 14 [] [.agg (api_Calendar_av a0)] (.d (.int .i64 r)) [] := by
  unfold ref40_Check at h0
  refine fn_ok (nt := 6) (rs := [.tmp 2]) Try.func14 rfl Try.ntmps14 rfl (by simp) (by decide) rfl fun K => ?_
  refine kr [1] (by simp; rfl) ?_
  refine tr_seq ?_
  refine kc ?_
  refine ko [3] 1 (by simp; rfl) ?_
  replace h0 := bnd h0; obtain ⟨y1, hy1, h0⟩ := h0
  refine kcall [4] [] (ref40_Valid_ok hy1) rfl rfl rfl Try.call27 (by simp) (by simp; rfl) ?_
  refine ko [5] 1 (by simp; rfl) ?_
  refine tops_nil ?_
  refine tr_cond (b := (!y1)) (by simp) (fun c1 => ?_) (fun c1 => ?_)
  · rw [if_pos c1] at h0
    refine kr [2] (by simp; rfl) ?_
    cases h0
    exact tr_ret ⟨[], by simp, rfl, by simp⟩
  · rw [if_neg (by rw [c1]; decide)] at h0
    refine tr_skip ?_
    refine kr [2] (by simp; rfl) ?_
    cases h0
    exact tr_ret ⟨[], by simp, rfl, by simp⟩
set_option maxHeartbeats 1000000 in
theorem ref40_working_ok {a0 : api_Calendar} {a1 : Int} {r : Bool} (h0 : ref40_working a0 a1 = some r) : FnOK Try.prog 31 [] [.agg (api_Calendar_av a0), .d (.int .i64 a1)] (.d (.bool r)) [] := by
  unfold ref40_working at h0
  refine fn_ok (nt := 47) (rs := [.tmp 4]) Try.func31 rfl Try.ntmps31 rfl (by simp) (by decide) rfl fun K => ?_
  refine kr [1, 2] (by simp; rfl) ?_
  refine kd [[], [], [1], [0, 2], [], [], [5], [4, 6], [3], [7]] [] [] 10 fol (by decide +kernel) ?_
  replace h0 := bnd h0; obtain ⟨_, p3, h0⟩ := h0
  replace p3 := ck_some p3
  have p3' := p3; try simp at p3'
  replace h0 := bnd h0; obtain ⟨_, p4, h0⟩ := h0
  replace p4 := ck_some p4
  have p4' := p4; try simp at p4'
  refine dr_go 0 10 rfl (by simp (maxSteps := 1000000) [p3, p4, p3', p4']; rfl) ?_
  refine dr_end rfl (tops_nil ?_)
  refine tr_seq ?_
  replace h0 := bnd h0; obtain ⟨v1, hvv1, h0⟩ := h0
  refine sjv (fun v1_ : Bool => ({ nt := 47, env := [(2, .ptr 2 0), (5, .d (.int .i64 (IntKind.i64.wrap ((a1).tdiv a0.Day)))), (35, .d (.bool v1_))], box := [(2, [.d (.int .i64 a0.Day), .d (.int .i64 a0.From), .d (.int .i64 a0.To), .d (.int .i64 a0.Week), .d (.slice (rowsF (iRow .i64) a0.Holidays))])], vec := [] } : St)) (fun v1_ => v1 = v1_) (fun v1_ e => ?_) ?_
  · subst e
    refine tr_cond (b := v1) (by simp) (fun c5 => ?_) (fun c5 => ?_)
    · rw [if_pos c5] at h0
      refine kr [4] (by simp; rfl) ?_
      cases h0
      exact tr_ret ⟨[], by simp, rfl, by simp⟩
    · rw [if_neg (by rw [c5]; decide)] at h0
      refine tr_skip ?_
      refine tr_seq ?_
      refine kr [5, 37, 38, 39] (by simp; rfl) ?_
      replace h0 := bnd h0; obtain ⟨e1, hI1, h0⟩ := h0
      refine tjv (fun v2 : Unit => ({ nt := 47, env := [], box := [], vec := [] } : St)) (fun v2 => .inl v2 = e1) (fun v2 hI1e _ W1 => ?_) ?_
      · subst hI1e
        dsimp only at h0
        refine tr_wk W1 ?_
        refine kr [4] (by simp; rfl) ?_
        cases h0
        exact tr_ret ⟨[], by simp, rfl, by simp⟩
      · refine tr_block (tr_iter (fun s3 : Int => ({ nt := 47, env := [(5, .d (.int .i64 (IntKind.i64.wrap ((a1).tdiv a0.Day)))), (37, .d (.slice (rowsF (iRow .i64) a0.Holidays))), (38, .d (.int .i64 ((a0.Holidays).length : Int))), (39, .d (.int .i64 s3))], box := [], vec := [] } : St)) hI1 (wk (by simp [weak_iff])) fun G1 s3 o1 h1 hg1 he1 => ?_)
        unfold ref40_working_l0 at h1
        refine kr [5, 37, 38, 39, 40] (by simp; rfl) ?_
        refine tr_seq ?_
        refine tr_cond (b := (decide (s3 < ((a0.Holidays).length : Int)))) (by simp) (fun c10 => ?_) (fun c10 => ?_)
        · rw [if_pos c10] at h1
          refine tr_skip ?_
          refine tr_seq ?_
          refine tr_block ?_
          replace h1 := bnd h1; obtain ⟨x4, p9, h1⟩ := h1
          replace p9 := idx_some p9
          have p9' := p9; try simp at p9'
          refine kr [5, 8, 37, 38, 39] (by simp [p9, p9']; rfl) ?_
          refine kr [5, 37, 38, 39, 45] (by simp; rfl) ?_
          refine tr_cond (b := (x4 == (IntKind.i64.wrap ((a1).tdiv a0.Day)))) (by simp) (fun c11 => ?_) (fun c11 => ?_)
          · rw [if_pos c11] at h1
            refine kr [4] (by simp; rfl) ?_
            have k1 := he1 _ (Option.some.inj h1)
            subst k1
            dsimp only at h0
            cases h0
            exact tr_ret ⟨[], by simp, rfl, by simp⟩
          · rw [if_neg (by rw [c11]; decide)] at h1
            refine tr_skip ?_
            refine lr (by simp; rfl) ?_
            exact ⟨_, hg1 _ (Option.some.inj h1), wk (by simp [weak_iff])⟩
        · rw [if_neg (by rw [c10]; decide)] at h1
          refine tr_exit ?_
          exact ⟨_, he1 _ (Option.some.inj h1), wk (by simp [weak_iff])⟩
  · refine kc1 ?_
    refine ko [2, 5, 6, 21] 5 (by simp; rfl) ?_
    refine tops_split 21 (decide (((a1).tmod a0.Day) < a0.From)) (by simp) (fun c12 => ?_) (fun c12 => ?_)
    · rw [if_pos c12] at hvv1
      refine ko [2, 5, 35] 14 (by simp; rfl) ?_
      refine tops_nil ?_
      cases hvv1
      exact ⟨_, rfl, wk (by simp [weak_iff])⟩
    · rw [if_neg (by rw [c12]; decide)] at hvv1
      refine ko [2, 5, 27] 6 (by simp; rfl) ?_
      refine tops_split 27 (decide (a0.To ≤ ((a1).tmod a0.Day))) (by simp) (fun c13 => ?_) (fun c13 => ?_)
      · rw [if_pos c13] at hvv1
        refine ko [2, 5, 35] 8 (by simp; rfl) ?_
        refine tops_nil ?_
        cases hvv1
        exact ⟨_, rfl, wk (by simp [weak_iff])⟩
      · rw [if_neg (by rw [c13]; decide)] at hvv1
        replace hvv1 := bnd hvv1; obtain ⟨_, p10, hvv1⟩ := hvv1
        replace p10 := ck_some p10
        have p10' := p10; try simp at p10'
        refine ko [2, 5, 35] 8 (by simp [p10, p10']; rfl) ?_
        refine tops_nil ?_
        cases hvv1
        exact ⟨_, rfl, wk (by simp [weak_iff])⟩
set_option maxHeartbeats 1000000 in
theorem ref40_Between_ok {a0 : api_Calendar} {a1 : Int} {a2 : Int} {r : Int × Int} (h0 : ref40_Between a0 a1 a2 = some r) : FnOK Try.prog 16 [] [.agg (api_Calendar_av a0), .d (.int .i64 a1), .d (.int .i64 a2)] (.tup [.d (.int .i64 r.1), .d (.int .i64 r.2)]) [] := by
  unfold ref40_Between at h0
  refine fn_ok (nt := 38) (rs := [.tmp 6, .tmp 7]) Try.func16 rfl Try.ntmps16 rfl (by simp) (by decide) rfl fun K => ?_
  refine kr [1, 2, 3] (by simp; rfl) ?_
  refine tr_seq ?_
  refine kc ?_
  refine ko [1, 2, 3, 10] 1 (by simp; rfl) ?_
  replace h0 := bnd h0; obtain ⟨y1, hy1, h0⟩ := h0
  refine kcall [1, 2, 3, 11] [] (ref40_Valid_ok hy1) rfl rfl rfl Try.call27 (by simp) (by simp; rfl) ?_
  refine ko [1, 2, 3, 12] 1 (by simp; rfl) ?_
  refine tops_nil ?_
  refine tr_cond (b := (!y1)) (by simp) (fun c1 => ?_) (fun c1 => ?_)
  · rw [if_pos c1] at h0
    refine kr [6, 7] (by simp; rfl) ?_
    cases h0
    exact tr_ret ⟨[], by simp, rfl, by simp⟩
  · rw [if_neg (by rw [c1]; decide)] at h0
    refine tr_skip ?_
    refine tr_seq ?_
    replace h0 := bnd h0; obtain ⟨v2, hvv2, h0⟩ := h0
    refine sjv (fun v2_ : Bool => ({ nt := 38, env := [(1, .d (.int .i64 a1)), (2, .d (.int .i64 a2)), (3, .ptr 3 0), (21, .d (.bool v2_))], box := [(3, [.d (.int .i64 a0.Day), .d (.int .i64 a0.From), .d (.int .i64 a0.To), .d (.int .i64 a0.Week), .d (.slice (rowsF (iRow .i64) a0.Holidays))])], vec := [] } : St)) (fun v2_ => v2 = v2_) (fun v2_ e => ?_) ?_
    · subst e
      refine tr_cond (b := v2) (by simp) (fun c4 => ?_) (fun c4 => ?_)
      · rw [if_pos c4] at h0
        refine kr [6, 7] (by simp; rfl) ?_
        cases h0
        exact tr_ret ⟨[], by simp, rfl, by simp⟩
      · rw [if_neg (by rw [c4]; decide)] at h0
        refine tr_skip ?_
        refine tr_seq ?_
        refine kr [1, 2, 3, 25] (by simp; rfl) ?_
        refine tr_cond (b := (decide (100000 < (IntKind.i64.wrap (a2 - a1))))) (by simp) (fun c5 => ?_) (fun c5 => ?_)
        · rw [if_pos c5] at h0
          refine kr [6, 7] (by simp; rfl) ?_
          cases h0
          exact tr_ret ⟨[], by simp, rfl, by simp⟩
        · rw [if_neg (by rw [c5]; decide)] at h0
          refine tr_skip ?_
          refine kr [1, 2, 3, 8] (by simp; rfl) ?_
          refine tr_seq ?_
          refine kr [2, 3, 8, 9] (by simp; rfl) ?_
          replace h0 := bnd h0; obtain ⟨e1, hI1, h0⟩ := h0
          refine tjv (fun v3 : Int => ({ nt := 38, env := [(8, .d (.int .i64 v3))], box := [], vec := [] } : St)) (fun v3 => v3 = e1) (fun v3 hI1e _ W1 => ?_) ?_
          · subst hI1e
            refine tr_wk W1 ?_
            refine kr [6, 7] (by simp; rfl) ?_
            cases h0
            exact tr_ret ⟨[], by simp, rfl, by simp⟩
          · refine tr_block (tr_iter (fun s4 : Int × Int => ({ nt := 38, env := [(2, .d (.int .i64 a2)), (3, .ptr 3 0), (8, .d (.int .i64 s4.1)), (9, .d (.int .i64 s4.2))], box := [(3, [.d (.int .i64 a0.Day), .d (.int .i64 a0.From), .d (.int .i64 a0.To), .d (.int .i64 a0.Week), .d (.slice (rowsF (iRow .i64) a0.Holidays))])], vec := [] } : St)) hI1 (wk (by simp [weak_iff])) fun G1 s4 o1 h1 hg1 he1 => ?_)
            unfold ref40_Between_l0 at h1
            refine tr_seq ?_
            refine kr [2, 3, 8, 9, 29] (by simp; rfl) ?_
            refine tr_cond (b := (decide (s4.2 < a2))) (by simp) (fun c10 => ?_) (fun c10 => ?_)
            · rw [if_pos c10] at h1
              refine tr_skip ?_
              refine tr_seq ?_
              refine tr_block ?_
              refine kc ?_
              refine ko [2, 3, 8, 9, 32, 33] 2 (by simp; rfl) ?_
              replace h1 := bnd h1; obtain ⟨y5, hy5, h1⟩ := h1
              refine kcall [2, 3, 8, 9, 34] [] (ref40_working_ok hy5) rfl rfl rfl Try.call31 (by simp) (by simp; rfl) ?_
              refine tops_nil ?_
              refine tr_cond (b := y5) (by simp) (fun c11 => ?_) (fun c11 => ?_)
              · rw [if_pos c11] at h1
                refine lr (by simp; rfl) ?_
                refine lr (by simp; rfl) ?_
                exact ⟨_, hg1 _ (Option.some.inj h1), wk (by simp [weak_iff])⟩
              · rw [if_neg (by rw [c11]; decide)] at h1
                refine tr_skip ?_
                refine lr (by simp; rfl) ?_
                exact ⟨_, hg1 _ (Option.some.inj h1), wk (by simp [weak_iff])⟩
            · rw [if_neg (by rw [c10]; decide)] at h1
              refine tr_exit ?_
              exact ⟨_, he1 _ (Option.some.inj h1), wk (by simp [weak_iff])⟩
    · refine kc1 ?_
      refine ko [1, 2, 3, 13] 1 (by simp; rfl) ?_
      replace hvv2 := bnd hvv2; obtain ⟨y6, hy6, hvv2⟩ := hvv2
      refine kcall [1, 2, 3, 14] [] (ref40_in_ok hy6) rfl rfl rfl Try.call30 (by simp) (by simp; rfl) ?_
      refine ko [1, 2, 3, 16] 2 (by simp; rfl) ?_
      refine tops_split 16 (!y6) (by simp) (fun c12 => ?_) (fun c12 => ?_)
      · rw [if_pos c12] at hvv2
        refine ko [1, 2, 3, 21] 5 (by simp; rfl) ?_
        refine tops_nil ?_
        cases hvv2
        exact ⟨_, rfl, wk (by simp [weak_iff])⟩
      · rw [if_neg (by rw [c12]; decide)] at hvv2
        refine ko [1, 2, 3, 16, 17, 18] 2 (by simp; rfl) ?_
        replace hvv2 := bnd hvv2; obtain ⟨y7, hy7, hvv2⟩ := hvv2
        refine kcall [1, 2, 3, 16, 19] [] (ref40_in_ok hy7) rfl rfl rfl Try.call30 (by simp) (by simp; rfl) ?_
        refine ko [1, 2, 3, 21] 2 (by simp; rfl) ?_
        refine tops_nil ?_
        cases hvv2
        exact ⟨_, rfl, wk (by simp [weak_iff])⟩
set_option maxHeartbeats 1000000 in
theorem ref40_Working_ok {a0 : api_Calendar} {a1 : Int} {r : Bool} (h0 : ref40_Working a0 a1 = some r) : FnOK Try.prog 18 [] [.agg (api_Calendar_av a0), .d (.int .i64 a1)] (.d (.bool r)) [] := by
  unfold ref40_Working at h0
  refine fn_ok (nt := 16) (rs := [.tmp 4]) Try.func18 rfl Try.ntmps18 rfl (by simp) (by decide) rfl fun K => ?_
  refine kr [1, 2] (by simp; rfl) ?_
  replace h0 := bnd h0; obtain ⟨v1, hvv1, h0⟩ := h0
  refine sjv (fun v1_ : Bool => ({ nt := 16, env := [(4, .d (.bool v1_))], box := [], vec := [] } : St)) (fun v1_ => v1 = v1_) (fun v1_ e => ?_) ?_
  · subst e
    cases h0
    exact tr_ret ⟨[], by simp, rfl, by simp⟩
  · refine kc1 ?_
    refine ko [1, 2, 5] 1 (by simp; rfl) ?_
    replace hvv1 := bnd hvv1; obtain ⟨y2, hy2, hvv1⟩ := hvv1
    refine kcall [1, 2, 6] [] (ref40_Valid_ok hy2) rfl rfl rfl Try.call27 (by simp) (by simp; rfl) ?_
    refine ko [1, 2, 7] 1 (by simp; rfl) ?_
    refine tops_split 7 y2 (by simp) (fun c5 => ?_) (fun c5 => ?_)
    · rw [if_pos c5] at hvv1
      refine ko [1, 2, 7, 8] 1 (by simp; rfl) ?_
      replace hvv1 := bnd hvv1; obtain ⟨y3, hy3, hvv1⟩ := hvv1
      refine kcall [1, 2, 7, 9] [] (ref40_in_ok hy3) rfl rfl rfl Try.call30 (by simp) (by simp; rfl) ?_
      refine ko [1, 2, 11] 2 (by simp; rfl) ?_
      refine tops_split 11 y3 (by simp) (fun c6 => ?_) (fun c6 => ?_)
      · rw [if_pos c6] at hvv1
        refine ko [11, 12, 13] 2 (by simp; rfl) ?_
        replace hvv1 := bnd hvv1; obtain ⟨y4, hy4, hvv1⟩ := hvv1
        refine kcall [11, 14] [] (ref40_working_ok hy4) rfl rfl rfl Try.call31 (by simp) (by simp; rfl) ?_
        refine ko [4] 2 (by simp; rfl) ?_
        refine tops_nil ?_
        cases hvv1
        exact ⟨_, rfl, wk (by simp [weak_iff])⟩
      · rw [if_neg (by rw [c6]; decide)] at hvv1
        refine ko [4] 5 (by simp; rfl) ?_
        refine tops_nil ?_
        cases hvv1
        exact ⟨_, rfl, wk (by simp [weak_iff])⟩
    · rw [if_neg (by rw [c5]; decide)] at hvv1
      refine ko [4] 9 (by simp; rfl) ?_
      refine tops_nil ?_
      cases hvv1
      exact ⟨_, rfl, wk (by simp [weak_iff])⟩
set_option maxHeartbeats 1000000 in
theorem ref40_Add_ok {a0 : api_Calendar} {a1 : Int} {a2 : Int} {r : Int × Int} (h0 : ref40_Add a0 a1 a2 = some r) : FnOK Try.prog 20 [] [.agg (api_Calendar_av a0), .d (.int .i64 a1), .d (.int .i64 a2)] (.tup [.d (.int .i64 r.1), .d (.int .i64 r.2)]) [] := by
  unfold ref40_Add at h0
  refine fn_ok (nt := 39) (rs := [.tmp 6, .tmp 7]) Try.func20 rfl Try.ntmps20 rfl (by simp) (by decide) rfl fun K => ?_
  refine kr [1, 2, 3] (by simp; rfl) ?_
  refine tr_seq ?_
  refine kc ?_
  refine ko [1, 2, 3, 9] 1 (by simp; rfl) ?_
  replace h0 := bnd h0; obtain ⟨y1, hy1, h0⟩ := h0
  refine kcall [1, 2, 3, 10] [] (ref40_Valid_ok hy1) rfl rfl rfl Try.call27 (by simp) (by simp; rfl) ?_
  refine ko [1, 2, 3, 11] 1 (by simp; rfl) ?_
  refine tops_nil ?_
  refine tr_cond (b := (!y1)) (by simp) (fun c1 => ?_) (fun c1 => ?_)
  · rw [if_pos c1] at h0
    refine kr [6, 7] (by simp; rfl) ?_
    cases h0
    exact tr_ret ⟨[], by simp, rfl, by simp⟩
  · rw [if_neg (by rw [c1]; decide)] at h0
    refine tr_skip ?_
    refine tr_seq ?_
    replace h0 := bnd h0; obtain ⟨v2, hvv2, h0⟩ := h0
    refine sjv (fun v2_ : Bool => ({ nt := 39, env := [(1, .d (.int .i64 a1)), (2, .d (.int .i64 a2)), (3, .ptr 3 0), (19, .d (.bool v2_))], box := [(3, [.d (.int .i64 a0.Day), .d (.int .i64 a0.From), .d (.int .i64 a0.To), .d (.int .i64 a0.Week), .d (.slice (rowsF (iRow .i64) a0.Holidays))])], vec := [] } : St)) (fun v2_ => v2 = v2_) (fun v2_ e => ?_) ?_
    · subst e
      refine tr_cond (b := v2) (by simp) (fun c4 => ?_) (fun c4 => ?_)
      · rw [if_pos c4] at h0
        refine kr [6, 7] (by simp; rfl) ?_
        cases h0
        exact tr_ret ⟨[], by simp, rfl, by simp⟩
      · rw [if_neg (by rw [c4]; decide)] at h0
        refine tr_skip ?_
        refine kr [1, 2, 3, 8] (by simp; rfl) ?_
        replace h0 := bnd h0; obtain ⟨e1, hI1, h0⟩ := h0
        refine sjv (fun v3 : Int => ({ nt := 39, env := [(8, .d (.int .i64 v3))], box := [], vec := [] } : St)) (fun v3 => .inl v3 = e1) (fun v3 hI1e => ?_) ?_
        · subst hI1e
          dsimp only at h0
          refine kr [6, 7] (by simp; rfl) ?_
          cases h0
          exact tr_ret ⟨[], by simp, rfl, by simp⟩
        · refine tr_block (tr_iter (fun s4 : Int × Int => ({ nt := 39, env := [(1, .d (.int .i64 a1)), (2, .d (.int .i64 s4.1)), (3, .ptr 3 0), (8, .d (.int .i64 s4.2))], box := [(3, [.d (.int .i64 a0.Day), .d (.int .i64 a0.From), .d (.int .i64 a0.To), .d (.int .i64 a0.Week), .d (.slice (rowsF (iRow .i64) a0.Holidays))])], vec := [] } : St)) hI1 (wk (by simp [weak_iff])) fun G1 s4 o1 h1 hg1 he1 => ?_)
          unfold ref40_Add_l0 at h1
          refine tr_seq ?_
          refine kr [1, 2, 3, 8, 22] (by simp; rfl) ?_
          refine tr_cond (b := (decide (0 < s4.1))) (by simp) (fun c13 => ?_) (fun c13 => ?_)
          · rw [if_pos c13] at h1
            refine tr_skip ?_
            refine tr_block ?_
            refine tr_seq ?_
            replace h1 := bnd h1; obtain ⟨v5, hvv5, h1⟩ := h1
            refine sjv (fun v5_ : Bool => ({ nt := 39, env := [(1, .d (.int .i64 a1)), (2, .d (.int .i64 s4.1)), (3, .ptr 3 0), (8, .d (.int .i64 s4.2)), (30, .d (.bool v5_))], box := [(3, [.d (.int .i64 a0.Day), .d (.int .i64 a0.From), .d (.int .i64 a0.To), .d (.int .i64 a0.Week), .d (.slice (rowsF (iRow .i64) a0.Holidays))])], vec := [] } : St)) (fun v5_ => v5 = v5_) (fun v5_ e => ?_) ?_
            · subst e
              refine tr_cond (b := v5) (by simp) (fun c16 => ?_) (fun c16 => ?_)
              · rw [if_pos c16] at h1
                refine kr [6, 7] (by simp; rfl) ?_
                have k1 := he1 _ (Option.some.inj h1)
                subst k1
                dsimp only at h0
                cases h0
                exact tr_ret ⟨[], by simp, rfl, by simp⟩
              · rw [if_neg (by rw [c16]; decide)] at h1
                refine tr_skip ?_
                refine tr_seq ?_
                refine kc ?_
                refine ko [1, 2, 3, 8, 31, 32] 2 (by simp; rfl) ?_
                replace h1 := bnd h1; obtain ⟨y6, hy6, h1⟩ := h1
                refine kcall [1, 2, 3, 8, 33] [] (ref40_working_ok hy6) rfl rfl rfl Try.call31 (by simp) (by simp; rfl) ?_
                refine tops_nil ?_
                refine tr_cond (b := y6) (by simp) (fun c17 => ?_) (fun c17 => ?_)
                · rw [if_pos c17] at h1
                  refine lr (by simp; rfl) ?_
                  refine lr (by simp; rfl) ?_
                  exact ⟨_, hg1 _ (Option.some.inj h1), wk (by simp [weak_iff])⟩
                · rw [if_neg (by rw [c17]; decide)] at h1
                  refine tr_skip ?_
                  refine lr (by simp; rfl) ?_
                  exact ⟨_, hg1 _ (Option.some.inj h1), wk (by simp [weak_iff])⟩
            · refine kc1 ?_
              refine ko [1, 2, 3, 8, 27] 5 (by simp; rfl) ?_
              refine tops_split 27 (decide ((IntKind.i64.wrap (a1 + 100000)) ≤ s4.2)) (by simp) (fun c18 => ?_) (fun c18 => ?_)
              · rw [c18] at hvv5
                refine ko [1, 2, 3, 8, 28, 29, 30] 3 (by simp; rfl) ?_
                refine tops_nil ?_
                cases hvv5
                exact ⟨_, rfl, wk (by simp [weak_iff])⟩
              · rw [c18] at hvv5
                refine ko [1, 2, 3, 8, 28, 29, 30] 3 (by simp; rfl) ?_
                refine tops_nil ?_
                cases hvv5
                exact ⟨_, rfl, wk (by simp [weak_iff])⟩
          · rw [if_neg (by rw [c13]; decide)] at h1
            refine tr_exit ?_
            exact ⟨_, he1 _ (Option.some.inj h1), wk (by simp [weak_iff])⟩
    · refine kc1 ?_
      refine ko [1, 2, 3, 12] 1 (by simp; rfl) ?_
      replace hvv2 := bnd hvv2; obtain ⟨y9, hy9, hvv2⟩ := hvv2
      refine kcall [1, 2, 3, 13] [] (ref40_in_ok hy9) rfl rfl rfl Try.call30 (by simp) (by simp; rfl) ?_
      refine ko [1, 2, 3, 15] 2 (by simp; rfl) ?_
      refine tops_split 15 (!y9) (by simp) (fun c19 => ?_) (fun c19 => ?_)
      · rw [if_pos c19] at hvv2
        refine ko [1, 2, 3, 19] 4 (by simp; rfl) ?_
        refine tops_nil ?_
        cases hvv2
        exact ⟨_, rfl, wk (by simp [weak_iff])⟩
      · rw [if_neg (by rw [c19]; decide)] at hvv2
        refine ko [1, 2, 3, 15, 16] 1 (by simp; rfl) ?_
        replace hvv2 := bnd hvv2; obtain ⟨y10, hy10, hvv2⟩ := hvv2
        refine kcall [1, 2, 3, 15, 17] [] (ref40_in_ok hy10) rfl rfl rfl Try.call30 (by simp) (by simp; rfl) ?_
        refine ko [1, 2, 3, 19] 2 (by simp; rfl) ?_
        refine tops_nil ?_
        cases hvv2
        exact ⟨_, rfl, wk (by simp [weak_iff])⟩
set_option maxHeartbeats 1000000 in
theorem ref40_Next_ok {a0 : api_Calendar} {a1 : Int} {r : Int × Int} (h0 : ref40_Next a0 a1 = some r) : FnOK Try.prog 22 [] [.agg (api_Calendar_av a0), .d (.int .i64 a1)] (.tup [.d (.int .i64 r.1), .d (.int .i64 r.2)]) [] := by
  unfold ref40_Next at h0
  refine fn_ok (nt := 28) (rs := [.tmp 4, .tmp 5]) Try.func22 rfl Try.ntmps22 rfl (by simp) (by decide) rfl fun K => ?_
  refine kr [1, 2] (by simp; rfl) ?_
  refine tr_seq ?_
  refine kc ?_
  refine ko [1, 2, 7] 1 (by simp; rfl) ?_
  replace h0 := bnd h0; obtain ⟨y1, hy1, h0⟩ := h0
  refine kcall [1, 2, 8] [] (ref40_Valid_ok hy1) rfl rfl rfl Try.call27 (by simp) (by simp; rfl) ?_
  refine ko [1, 2, 9] 1 (by simp; rfl) ?_
  refine tops_nil ?_
  refine tr_cond (b := (!y1)) (by simp) (fun c1 => ?_) (fun c1 => ?_)
  · rw [if_pos c1] at h0
    refine kr [4, 5] (by simp; rfl) ?_
    cases h0
    exact tr_ret ⟨[], by simp, rfl, by simp⟩
  · rw [if_neg (by rw [c1]; decide)] at h0
    refine tr_skip ?_
    refine tr_seq ?_
    refine kc ?_
    refine ko [1, 2, 10] 1 (by simp; rfl) ?_
    replace h0 := bnd h0; obtain ⟨y2, hy2, h0⟩ := h0
    refine kcall [1, 2, 11] [] (ref40_in_ok hy2) rfl rfl rfl Try.call30 (by simp) (by simp; rfl) ?_
    refine ko [1, 2, 12] 1 (by simp; rfl) ?_
    refine tops_nil ?_
    refine tr_cond (b := (!y2)) (by simp) (fun c2 => ?_) (fun c2 => ?_)
    · rw [if_pos c2] at h0
      refine kr [4, 5] (by simp; rfl) ?_
      cases h0
      exact tr_ret ⟨[], by simp, rfl, by simp⟩
    · rw [if_neg (by rw [c2]; decide)] at h0
      refine tr_skip ?_
      refine tr_seq ?_
      refine kr [1, 2, 6] (by simp; rfl) ?_
      replace h0 := bnd h0; obtain ⟨e1, hI1, h0⟩ := h0
      refine tjv (fun v3 : Unit => ({ nt := 28, env := [], box := [], vec := [] } : St)) (fun v3 => .inl v3 = e1) (fun v3 hI1e _ W1 => ?_) ?_
      · subst hI1e
        dsimp only at h0
        refine tr_wk W1 ?_
        refine kr [4, 5] (by simp; rfl) ?_
        cases h0
        exact tr_ret ⟨[], by simp, rfl, by simp⟩
      · refine tr_block (tr_iter (fun s4 : Int => ({ nt := 28, env := [(1, .d (.int .i64 a1)), (2, .ptr 2 0), (6, .d (.int .i64 s4))], box := [(2, [.d (.int .i64 a0.Day), .d (.int .i64 a0.From), .d (.int .i64 a0.To), .d (.int .i64 a0.Week), .d (.slice (rowsF (iRow .i64) a0.Holidays))])], vec := [] } : St)) hI1 (wk (by simp [weak_iff])) fun G1 s4 o1 h1 hg1 he1 => ?_)
        unfold ref40_Next_l0 at h1
        refine tr_seq ?_
        replace h1 := bnd h1; obtain ⟨v5, hvv5, h1⟩ := h1
        refine sjv (fun v5_ : Bool => ({ nt := 28, env := [(1, .d (.int .i64 a1)), (2, .ptr 2 0), (6, .d (.int .i64 s4)), (21, .d (.bool v5_))], box := [(2, [.d (.int .i64 a0.Day), .d (.int .i64 a0.From), .d (.int .i64 a0.To), .d (.int .i64 a0.Week), .d (.slice (rowsF (iRow .i64) a0.Holidays))])], vec := [] } : St)) (fun v5_ => v5 = v5_) (fun v5_ e => ?_) ?_
        · subst e
          refine tr_cond (b := v5) (by simp) (fun c11 => ?_) (fun c11 => ?_)
          · rw [if_pos c11] at h1
            refine tr_skip ?_
            refine tr_seq ?_
            refine tr_block ?_
            refine kc ?_
            refine ko [1, 2, 6, 24, 25] 2 (by simp; rfl) ?_
            replace h1 := bnd h1; obtain ⟨y6, hy6, h1⟩ := h1
            refine kcall [1, 2, 6, 26] [] (ref40_working_ok hy6) rfl rfl rfl Try.call31 (by simp) (by simp; rfl) ?_
            refine tops_nil ?_
            refine tr_cond (b := y6) (by simp) (fun c12 => ?_) (fun c12 => ?_)
            · rw [if_pos c12] at h1
              refine kr [4, 5] (by simp; rfl) ?_
              have k1 := he1 _ (Option.some.inj h1)
              subst k1
              dsimp only at h0
              cases h0
              exact tr_ret ⟨[], by simp, rfl, by simp⟩
            · rw [if_neg (by rw [c12]; decide)] at h1
              refine tr_skip ?_
              refine lr (by simp; rfl) ?_
              exact ⟨_, hg1 _ (Option.some.inj h1), wk (by simp [weak_iff])⟩
          · rw [if_neg (by rw [c11]; decide)] at h1
            refine tr_exit ?_
            exact ⟨_, he1 _ (Option.some.inj h1), wk (by simp [weak_iff])⟩
        · refine kc1 ?_
          refine ko [1, 2, 6, 18] 5 (by simp; rfl) ?_
          refine tops_split 18 (decide (s4 ≤ (IntKind.i64.wrap (a1 + 100000)))) (by simp) (fun c13 => ?_) (fun c13 => ?_)
          · rw [c13] at hvv5
            refine ko [1, 2, 6, 19, 20, 21] 3 (by simp; rfl) ?_
            refine tops_nil ?_
            cases hvv5
            exact ⟨_, rfl, wk (by simp [weak_iff])⟩
          · rw [c13] at hvv5
            refine ko [1, 2, 6, 19, 20, 21] 3 (by simp; rfl) ?_
            refine tops_nil ?_
            cases hvv5
            exact ⟨_, rfl, wk (by simp [weak_iff])⟩
set_option maxHeartbeats 1000000 in
theorem law40_CalendarExact_ok {a0 : List Int} {a1 : api_Calendar} {a2 : Int} {a3 : Int} {a4 : Int} {r : Bool} (h0 : law40_CalendarExact a0 a1 a2 a3 a4 = some r) : FnOK Try.prog 3 [] [.d (.slice (rowsF (iRow .i64) a0)), .agg (api_Calendar_av a1), .d (.int .i64 a2), .d (.int .i64 a3), .d (.int .i64 a4)] (.d (.bool r)) [] := by
  unfold law40_CalendarExact at h0
  refine fn_ok (nt := 232) (rs := [.tmp 10]) Try.func3 rfl Try.ntmps3 rfl (by simp) (by decide) rfl fun K => ?_
  refine kr [0, 2, 3, 4, 6] (by simp; rfl) ?_
  refine tr_seq ?_
  replace h0 := bnd h0; obtain ⟨v1, hvv1, h0⟩ := h0
  refine sjv (fun v1_ : Bool => ({ nt := 232, env := [(0, .d (.slice (rowsF (iRow .i64) a0))), (2, .d (.int .i64 a2)), (3, .d (.int .i64 a3)), (4, .d (.int .i64 a4)), (6, .ptr 6 0), (31, .d (.bool v1_))], box := [(6, [.d (.int .i64 a1.Day), .d (.int .i64 a1.From), .d (.int .i64 a1.To), .d (.int .i64 a1.Week), .d (.slice (rowsF (iRow .i64) a1.Holidays))])], vec := [] } : St)) (fun v1_ => v1 = v1_) (fun v1_ e => ?_) ?_
  · subst e
    refine tr_cond (b := v1) (by simp) (fun c3 => ?_) (fun c3 => ?_)
    · rw [if_pos c3] at h0
      refine kc ?_
      replace h0 := bnd h0; obtain ⟨y2, hy2, h0⟩ := h0
      refine kcall [32] [] (law40_awake_ok hy2) rfl rfl rfl Try.call8 (by simp) (by simp; rfl) ?_
      refine ko [10] 1 (by simp; rfl) ?_
      refine tops_nil ?_
      cases h0
      exact tr_ret ⟨[], by simp, rfl, by simp⟩
    · rw [if_neg (by rw [c3]; decide)] at h0
      refine tr_skip ?_
      refine kr [2, 3, 4, 6, 11] (by simp; rfl) ?_
      refine kc ?_
      refine ko [2, 3, 4, 6, 11, 36] 1 (by simp; rfl) ?_
      replace h0 := bnd h0; obtain ⟨y3, hy3, h0⟩ := h0
      refine kcall [2, 3, 4, 6, 11, 37] [35] (make_Calendar_ok hy3) rfl rfl rfl Try.call9 (by simp) (by simp; rfl) ?_
      refine ko [2, 3, 4, 6, 11, 12] 2 (by simp; rfl) ?_
      refine tops_nil ?_
      refine kr [2, 3, 4, 6, 11, 12, 13] (by simp; rfl) ?_
      refine sjv (fun v4 : (List Int) × Int × Int × Int × Int × Int × (List Int) => ({ nt := 232, env := [(2, .d (.int .i64 a2)), (3, .d (.int .i64 a3)), (4, .d (.int .i64 a4)), (6, .ptr 6 0), (11, .ptr 35 0), (12, .ptr 12 0), (13, .ptr 13 0)], box := [(6, [.d (.int .i64 a1.Day), .d (.int .i64 a1.From), .d (.int .i64 a1.To), .d (.int .i64 a1.Week), .d (.slice (rowsF (iRow .i64) a1.Holidays))]), (12, [.d (.int .i64 y3.1.Day), .d (.int .i64 y3.1.From), .d (.int .i64 y3.1.To), .d (.int .i64 y3.1.Week), .d (.slice (rowsF (iRow .i64) y3.1.Holidays))]), (13, [.d (.int .i64 v4.2.2.1), .d (.int .i64 v4.2.2.2.1), .d (.int .i64 v4.2.2.2.2.1), .d (.int .i64 v4.2.2.2.2.2.1), .d (.slice (rowsF (iRow .i64) v4.2.2.2.2.2.2))]), (35, [.d (.slice (rowsF (iRow .i64) v4.1)), .d (.int .i64 v4.2.1)])], vec := [] } : St)) (fun v4 => law40_CalendarExact_j0 y3 a1 a2 a3 a4 v4 = some r) (fun v4 h0 => ?_) ?_
      · unfold law40_CalendarExact_j0 at h0
        refine kc ?_
        refine ko [2, 3, 4, 6, 11, 12, 13, 74] 1 (by simp; rfl) ?_
        replace h0 := bnd h0; obtain ⟨y5, hy5, h0⟩ := h0
        refine kcall [2, 3, 4, 6, 11, 12, 13, 75] [35] (make_Tape_Next_ok hy5) rfl rfl rfl Try.call10 (by simp) (by simp; rfl) ?_
        refine ko [2, 3, 4, 6, 11, 12, 13, 14] 1 (by simp; rfl) ?_
        refine tops_nil ?_
        refine tr_seq ?_
        refine kr [2, 3, 4, 11, 14, 79, 80] (by simp; rfl) ?_
        replace h0 := bnd h0; obtain ⟨l6, hl6, h0⟩ := h0
        replace hl6 := Option.some.inj hl6
        replace h0 := bnd h0; obtain ⟨e1, hI1, h0⟩ := h0
        refine tjv (fun v7 : Unit => ({ nt := 232, env := [], box := [], vec := [] } : St)) (fun v7 => .inl v7 = e1) (fun v7 hI1e _ W1 => ?_) ?_
        · subst hI1e
          dsimp only at h0
          refine tr_wk W1 ?_
          refine kc ?_
          replace h0 := bnd h0; obtain ⟨y8, hy8, h0⟩ := h0
          refine kcall [231] [] (law40_awake_ok hy8) rfl rfl rfl Try.call8 (by simp) (by simp; rfl) ?_
          refine ko [10] 1 (by simp; rfl) ?_
          refine tops_nil ?_
          cases h0
          exact tr_ret ⟨[], by simp, rfl, by simp⟩
        · refine tr_block (tr_iter (fun s9 : Int × (List Int) × Int => ({ nt := 232, env := [(2, .d (.int .i64 a2)), (3, .d (.int .i64 a3)), (4, .d (.int .i64 a4)), (11, .ptr 35 0), (14, .d (.int .i64 y5.1)), (79, .agg (arC api_Calendar_row l6)), (80, .d (.int .i64 s9.1))], box := [(35, [.d (.slice (rowsF (iRow .i64) s9.2.1)), .d (.int .i64 s9.2.2)])], vec := [] } : St)) hI1 (wk (by subst hl6; simp [weak_iff])) fun G1 s9 o1 h1 hg1 he1 => ?_)
          unfold law40_CalendarExact_l1 at h1
          refine kr [2, 3, 4, 11, 14, 79, 80, 81] (by simp; rfl) ?_
          refine tr_seq ?_
          refine tr_cond (b := (decide (s9.1 < 3))) (by simp) (fun c69 => ?_) (fun c69 => ?_)
          · rw [if_pos c69] at h1
            refine tr_skip ?_
            refine tr_seq ?_
            refine tr_block ?_
            replace h1 := bnd h1; obtain ⟨_, p21, h1⟩ := h1
            replace p21 := ck_some p21
            have p21' := p21; try simp at p21'
            replace h1 := bnd h1; obtain ⟨x10, p22, h1⟩ := h1
            replace p22 := idx_some p22
            have p22' := p22; try simp at p22'
            have ix23 : indexVA Try.prog 33 (.agg (arC api_Calendar_row l6)) s9.1 = some (.agg [.d (.int .i64 x10.Day), .d (.int .i64 x10.From), .d (.int .i64 x10.To), .d (.int .i64 x10.Week), .d (.slice (rowsF (iRow .i64) x10.Holidays))]) := indexVA_arC Try.underlying33 sz24 p22.1 p21 p22.2 (by simp) (by simp)
            refine kr [2, 3, 4, 11, 14, 16, 79, 80] (by simp [p21, p22, ix23, -indexVA, p21', p22']; rfl) ?_
            refine tr_seq ?_
            refine kd [[], [0], [], [2], [1, 3]] [] [] 5 fol (by decide +kernel) ?_
            refine dr_go 0 1 rfl (by simp (maxSteps := 1000000); rfl) ?_
            replace h1 := bnd h1; obtain ⟨y11, hy11, h1⟩ := h1
            refine dr_call 1 [] (calendar_Check_ok hy11) rfl rfl rfl rfl rfl Try.call13 (by simp) ?_
            refine dr_go 2 1 rfl (by simp (maxSteps := 1000000); rfl) ?_
            replace h1 := bnd h1; obtain ⟨y12, hy12, h1⟩ := h1
            refine dr_call 3 [] (ref40_Check_ok hy12) rfl rfl rfl rfl rfl Try.call14 (by simp) ?_
            refine dr_go 4 1 rfl (by simp (maxSteps := 1000000); rfl) ?_
            refine dr_end rfl (tops_nil ?_)
            refine tr_cond (b := (y11 != y12)) (by simp) (fun c70 => ?_) (fun c70 => ?_)
            · rw [if_pos c70] at h1
              refine kr [10] (by simp; rfl) ?_
              have k1 := he1 _ (Option.some.inj h1)
              subst k1
              dsimp only at h0
              cases h0
              exact tr_ret ⟨[], by simp, rfl, by simp⟩
            · rw [if_neg (by rw [c70]; decide)] at h1
              refine tr_skip ?_
              refine kc ?_
              refine ko [2, 3, 4, 11, 14, 16, 79, 80, 91, 92, 93, 94] 7 (by simp; rfl) ?_
              replace h1 := bnd h1; obtain ⟨y13, hy13, h1⟩ := h1
              refine kcall [2, 3, 4, 11, 14, 16, 79, 80, 91, 92, 93, 95] [35] (make_Tape_Next_ok hy13) rfl rfl rfl Try.call10 (by simp) (by simp; rfl) ?_
              refine ko [2, 3, 4, 11, 14, 16, 79, 80, 91, 92, 96, 97] 2 (by simp; rfl) ?_
              replace h1 := bnd h1; obtain ⟨y14, hy14, h1⟩ := h1
              refine kcall [2, 3, 4, 11, 14, 16, 79, 80, 91, 92, 96, 98] [35] (make_Tape_Next_ok hy14) rfl rfl rfl Try.call10 (by simp) (by simp; rfl) ?_
              refine ko [2, 3, 4, 11, 14, 16, 79, 80, 91, 99, 103, 104] 6 (by simp; rfl) ?_
              replace h1 := bnd h1; obtain ⟨y15, hy15, h1⟩ := h1
              refine kcall [2, 3, 4, 11, 14, 16, 79, 80, 91, 99, 103, 105] [35] (make_Tape_Next_ok hy15) rfl rfl rfl Try.call10 (by simp) (by simp; rfl) ?_
              refine ko [2, 3, 4, 11, 14, 16, 79, 80, 91, 99, 103, 106, 107] 2 (by simp; rfl) ?_
              replace h1 := bnd h1; obtain ⟨y16, hy16, h1⟩ := h1
              refine kcall [2, 3, 4, 11, 14, 16, 79, 80, 91, 99, 103, 106, 108] [35] (make_Tape_Next_ok hy16) rfl rfl rfl Try.call10 (by simp) (by simp; rfl) ?_
              refine ko [2, 3, 4, 11, 14, 16, 79, 80, 110, 111] 3 (by simp; rfl) ?_
              refine tops_nil ?_
              replace h1 := bnd h1; obtain ⟨l17, hl17, h1⟩ := h1
              replace hl17 := Option.some.inj hl17
              replace h1 := bnd h1; obtain ⟨e2, hI2, h1⟩ := h1
              refine tjv (fun v18 : Unit => ({ nt := 232, env := [(2, .d (.int .i64 a2)), (3, .d (.int .i64 a3)), (4, .d (.int .i64 a4)), (11, .ptr 35 0), (14, .d (.int .i64 y5.1)), (79, .agg (arC api_Calendar_row l6)), (80, .d (.int .i64 s9.1))], box := [(35, [.d (.slice (rowsF (iRow .i64) y16.2.L)), .d (.int .i64 y16.2.at_)])], vec := [] } : St)) (fun v18 => .inl v18 = e2) (fun v18 hI2e _ W2 => ?_) ?_
              · subst hI2e
                dsimp only at h1
                refine tr_wk W2 ?_
                refine lr (by simp; rfl) ?_
                exact ⟨_, hg1 _ (Option.some.inj h1), wk (by simp [weak_iff])⟩
              · refine tr_block (tr_iter (fun s19 : Int => ({ nt := 232, env := [(2, .d (.int .i64 a2)), (3, .d (.int .i64 a3)), (4, .d (.int .i64 a4)), (11, .ptr 35 0), (14, .d (.int .i64 y5.1)), (16, .ptr 16 0), (79, .agg (arC api_Calendar_row l6)), (80, .d (.int .i64 s9.1)), (110, .agg (arC (arRow 3 (iRow .i64)) l17)), (111, .d (.int .i64 s19))], box := [(16, [.d (.int .i64 x10.Day), .d (.int .i64 x10.From), .d (.int .i64 x10.To), .d (.int .i64 x10.Week), .d (.slice (rowsF (iRow .i64) x10.Holidays))]), (35, [.d (.slice (rowsF (iRow .i64) y16.2.L)), .d (.int .i64 y16.2.at_)])], vec := [] } : St)) hI2 (wk (by subst hl17; simp [weak_iff])) fun G2 s19 o2 h2 hg2 he2 => ?_)
                unfold law40_CalendarExact_l2 at h2
                refine kr [2, 3, 4, 11, 14, 16, 79, 80, 110, 111, 112] (by simp; rfl) ?_
                refine tr_seq ?_
                refine tr_cond (b := (decide (s19 < 4))) (by simp) (fun c99 => ?_) (fun c99 => ?_)
                · rw [if_pos c99] at h2
                  refine tr_skip ?_
                  refine tr_seq ?_
                  refine tr_block ?_
                  replace h2 := bnd h2; obtain ⟨_, p30, h2⟩ := h2
                  replace p30 := ck_some p30
                  have p30' := p30; try simp at p30'
                  replace h2 := bnd h2; obtain ⟨x20, p31, h2⟩ := h2
                  replace p31 := idx_some p31
                  have p31' := p31; try simp at p31'
                  have ix32 : indexVA Try.prog 37 (.agg (arC (arRow 3 (iRow .i64)) l17)) s19 = some (.agg [.d (.int .i64 (arD x20 0)), .d (.int .i64 (arD x20 1)), .d (.int .i64 (arD x20 2))]) := indexVA_arC Try.underlying37 sz36 p31.1 p30 p31.2 (by simp) (by simp)
                  refine kr [2, 3, 4, 11, 14, 16, 18, 79, 80, 110, 111] (by simp [p30, p31, ix32, -indexVA, p30', p31']; rfl) ?_
                  refine sjv (fun v21 : Int => ({ nt := 232, env := [(2, .d (.int .i64 a2)), (3, .d (.int .i64 a3)), (4, .d (.int .i64 a4)), (11, .ptr 35 0), (14, .d (.int .i64 y5.1)), (16, .ptr 16 0), (18, .ptr 18 0), (79, .agg (arC api_Calendar_row l6)), (80, .d (.int .i64 s9.1)), (110, .agg (arC (arRow 3 (iRow .i64)) l17)), (111, .d (.int .i64 s19))], box := [(16, [.d (.int .i64 x10.Day), .d (.int .i64 x10.From), .d (.int .i64 x10.To), .d (.int .i64 x10.Week), .d (.slice (rowsF (iRow .i64) x10.Holidays))]), (18, [.d (.int .i64 (arD x20 0)), .d (.int .i64 v21), .d (.int .i64 (arD x20 2))]), (35, [.d (.slice (rowsF (iRow .i64) y16.2.L)), .d (.int .i64 y16.2.at_)])], vec := [] } : St)) (fun v21 => law40_CalendarExact_j3 x10 x20 s19 v21 = some o2) (fun v21 h2 => ?_) ?_
                  · unfold law40_CalendarExact_j3 at h2
                    refine kc ?_
                    refine ko [2, 3, 4, 11, 14, 16, 18, 79, 80, 110, 111, 133, 135, 137] 5 (by simp; rfl) ?_
                    replace h2 := bnd h2; obtain ⟨y22, hy22, h2⟩ := h2
                    refine kcall [2, 3, 4, 11, 14, 16, 18, 79, 80, 110, 111, 138] [] (calendar_Between_ok hy22) rfl rfl rfl Try.call15 (by simp) (by simp; rfl) ?_
                    refine ko [2, 3, 4, 11, 14, 16, 18, 19, 20, 79, 80, 110, 111] 5 (by simp; rfl) ?_
                    refine tops_nil ?_
                    refine kc ?_
                    refine ko [2, 3, 4, 11, 14, 16, 18, 19, 20, 79, 80, 110, 111, 142, 144, 146] 5 (by simp; rfl) ?_
                    replace h2 := bnd h2; obtain ⟨y23, hy23, h2⟩ := h2
                    refine kcall [2, 3, 4, 11, 14, 16, 18, 19, 20, 79, 80, 110, 111, 147] [] (ref40_Between_ok hy23) rfl rfl rfl Try.call16 (by simp) (by simp; rfl) ?_
                    refine ko [2, 3, 4, 11, 14, 16, 18, 19, 20, 21, 22, 79, 80, 110, 111] 5 (by simp; rfl) ?_
                    refine tops_nil ?_
                    refine tr_seq ?_
                    replace h2 := bnd h2; obtain ⟨v24, hvv24, h2⟩ := h2
                    refine sjv (fun v24_ : Bool => ({ nt := 232, env := [(2, .d (.int .i64 a2)), (3, .d (.int .i64 a3)), (4, .d (.int .i64 a4)), (11, .ptr 35 0), (14, .d (.int .i64 y5.1)), (16, .ptr 16 0), (18, .ptr 18 0), (79, .agg (arC api_Calendar_row l6)), (80, .d (.int .i64 s9.1)), (110, .agg (arC (arRow 3 (iRow .i64)) l17)), (111, .d (.int .i64 s19)), (168, .d (.bool v24_))], box := [(16, [.d (.int .i64 x10.Day), .d (.int .i64 x10.From), .d (.int .i64 x10.To), .d (.int .i64 x10.Week), .d (.slice (rowsF (iRow .i64) x10.Holidays))]), (18, [.d (.int .i64 (arD x20 0)), .d (.int .i64 v21), .d (.int .i64 (arD x20 2))]), (35, [.d (.slice (rowsF (iRow .i64) y16.2.L)), .d (.int .i64 y16.2.at_)])], vec := [] } : St)) (fun v24_ => v24 = v24_) (fun v24_ e => ?_) ?_
                    · subst e
                      refine tr_cond (b := v24) (by simp) (fun c110 => ?_) (fun c110 => ?_)
                      · rw [if_pos c110] at h2
                        refine kr [10] (by simp; rfl) ?_
                        have k2 := he2 _ (Option.some.inj h2)
                        subst k2
                        dsimp only at h1
                        have k1 := he1 _ (Option.some.inj h1)
                        subst k1
                        dsimp only at h0
                        cases h0
                        exact tr_ret ⟨[], by simp, rfl, by simp⟩
                      · rw [if_neg (by rw [c110]; decide)] at h2
                        refine tr_skip ?_
                        refine sjv (fun v25 : Int => ({ nt := 232, env := [(2, .d (.int .i64 a2)), (3, .d (.int .i64 a3)), (4, .d (.int .i64 a4)), (11, .ptr 35 0), (14, .d (.int .i64 y5.1)), (16, .ptr 16 0), (18, .ptr 18 0), (79, .agg (arC api_Calendar_row l6)), (80, .d (.int .i64 s9.1)), (110, .agg (arC (arRow 3 (iRow .i64)) l17)), (111, .d (.int .i64 s19))], box := [(16, [.d (.int .i64 x10.Day), .d (.int .i64 x10.From), .d (.int .i64 x10.To), .d (.int .i64 x10.Week), .d (.slice (rowsF (iRow .i64) x10.Holidays))]), (18, [.d (.int .i64 (arD x20 0)), .d (.int .i64 v21), .d (.int .i64 v25)]), (35, [.d (.slice (rowsF (iRow .i64) y16.2.L)), .d (.int .i64 y16.2.at_)])], vec := [] } : St)) (fun v25 => law40_CalendarExact_j4 x10 x20 s19 v25 = some o2) (fun v25 h2 => ?_) ?_
                        · unfold law40_CalendarExact_j4 at h2
                          refine kc ?_
                          refine ko [2, 3, 4, 11, 14, 16, 18, 79, 80, 110, 111, 182, 184, 186] 5 (by simp; rfl) ?_
                          replace h2 := bnd h2; obtain ⟨y26, hy26, h2⟩ := h2
                          refine kcall [2, 3, 4, 11, 14, 16, 18, 79, 80, 110, 111, 187] [] (calendar_Add_ok hy26) rfl rfl rfl Try.call19 (by simp) (by simp; rfl) ?_
                          refine ko [2, 3, 4, 11, 14, 16, 18, 19, 20, 79, 80, 110, 111] 5 (by simp; rfl) ?_
                          refine tops_nil ?_
                          refine kc ?_
                          refine ko [2, 3, 4, 11, 14, 16, 18, 19, 20, 79, 80, 110, 111, 191, 193, 195] 5 (by simp; rfl) ?_
                          replace h2 := bnd h2; obtain ⟨y27, hy27, h2⟩ := h2
                          refine kcall [2, 3, 4, 11, 14, 16, 18, 19, 20, 79, 80, 110, 111, 196] [] (ref40_Add_ok hy27) rfl rfl rfl Try.call20 (by simp) (by simp; rfl) ?_
                          refine ko [2, 3, 4, 11, 14, 16, 18, 19, 20, 21, 22, 79, 80, 110, 111] 5 (by simp; rfl) ?_
                          refine tops_nil ?_
                          refine tr_seq ?_
                          replace h2 := bnd h2; obtain ⟨v28, hvv28, h2⟩ := h2
                          refine sjv (fun v28_ : Bool => ({ nt := 232, env := [(2, .d (.int .i64 a2)), (3, .d (.int .i64 a3)), (4, .d (.int .i64 a4)), (11, .ptr 35 0), (14, .d (.int .i64 y5.1)), (16, .ptr 16 0), (18, .ptr 18 0), (79, .agg (arC api_Calendar_row l6)), (80, .d (.int .i64 s9.1)), (110, .agg (arC (arRow 3 (iRow .i64)) l17)), (111, .d (.int .i64 s19)), (206, .d (.bool v28_))], box := [(16, [.d (.int .i64 x10.Day), .d (.int .i64 x10.From), .d (.int .i64 x10.To), .d (.int .i64 x10.Week), .d (.slice (rowsF (iRow .i64) x10.Holidays))]), (18, [.d (.int .i64 (arD x20 0)), .d (.int .i64 v21), .d (.int .i64 v25)]), (35, [.d (.slice (rowsF (iRow .i64) y16.2.L)), .d (.int .i64 y16.2.at_)])], vec := [] } : St)) (fun v28_ => v28 = v28_) (fun v28_ e => ?_) ?_
                          · subst e
                            refine tr_cond (b := v28) (by simp) (fun c115 => ?_) (fun c115 => ?_)
                            · rw [if_pos c115] at h2
                              refine kr [10] (by simp; rfl) ?_
                              have k2 := he2 _ (Option.some.inj h2)
                              subst k2
                              dsimp only at h1
                              have k1 := he1 _ (Option.some.inj h1)
                              subst k1
                              dsimp only at h0
                              cases h0
                              exact tr_ret ⟨[], by simp, rfl, by simp⟩
                            · rw [if_neg (by rw [c115]; decide)] at h2
                              refine tr_skip ?_
                              refine kc ?_
                              refine ko [2, 3, 4, 11, 14, 16, 18, 79, 80, 110, 111, 208, 210] 3 (by simp; rfl) ?_
                              replace h2 := bnd h2; obtain ⟨y29, hy29, h2⟩ := h2
                              refine kcall [2, 3, 4, 11, 14, 16, 18, 79, 80, 110, 111, 211] [] (calendar_Next_ok hy29) rfl rfl rfl Try.call21 (by simp) (by simp; rfl) ?_
                              refine ko [2, 3, 4, 11, 14, 16, 18, 19, 20, 79, 80, 110, 111] 5 (by simp; rfl) ?_
                              refine tops_nil ?_
                              refine kc ?_
                              refine ko [2, 3, 4, 11, 14, 16, 19, 20, 79, 80, 110, 111, 215, 217] 3 (by simp; rfl) ?_
                              replace h2 := bnd h2; obtain ⟨y30, hy30, h2⟩ := h2
                              refine kcall [2, 3, 4, 11, 14, 16, 19, 20, 79, 80, 110, 111, 218] [] (ref40_Next_ok hy30) rfl rfl rfl Try.call22 (by simp) (by simp; rfl) ?_
                              refine ko [2, 3, 4, 11, 14, 16, 19, 20, 21, 22, 79, 80, 110, 111] 5 (by simp; rfl) ?_
                              refine tops_nil ?_
                              replace h2 := bnd h2; obtain ⟨v31, hvv31, h2⟩ := h2
                              refine sjv (fun v31_ : Bool => ({ nt := 232, env := [(2, .d (.int .i64 a2)), (3, .d (.int .i64 a3)), (4, .d (.int .i64 a4)), (11, .ptr 35 0), (14, .d (.int .i64 y5.1)), (16, .ptr 16 0), (79, .agg (arC api_Calendar_row l6)), (80, .d (.int .i64 s9.1)), (110, .agg (arC (arRow 3 (iRow .i64)) l17)), (111, .d (.int .i64 s19)), (228, .d (.bool v31_))], box := [(16, [.d (.int .i64 x10.Day), .d (.int .i64 x10.From), .d (.int .i64 x10.To), .d (.int .i64 x10.Week), .d (.slice (rowsF (iRow .i64) x10.Holidays))]), (35, [.d (.slice (rowsF (iRow .i64) y16.2.L)), .d (.int .i64 y16.2.at_)])], vec := [] } : St)) (fun v31_ => v31 = v31_) (fun v31_ e => ?_) ?_
                              · subst e
                                refine tr_cond (b := v31) (by simp) (fun c118 => ?_) (fun c118 => ?_)
                                · rw [if_pos c118] at h2
                                  refine kr [10] (by simp; rfl) ?_
                                  have k2 := he2 _ (Option.some.inj h2)
                                  subst k2
                                  dsimp only at h1
                                  have k1 := he1 _ (Option.some.inj h1)
                                  subst k1
                                  dsimp only at h0
                                  cases h0
                                  exact tr_ret ⟨[], by simp, rfl, by simp⟩
                                · rw [if_neg (by rw [c118]; decide)] at h2
                                  refine tr_skip ?_
                                  refine lr (by simp; rfl) ?_
                                  exact ⟨_, hg2 _ (Option.some.inj h2), wk (by simp [weak_iff])⟩
                              · refine kc1 ?_
                                refine ko [2, 3, 4, 11, 14, 16, 20, 22, 79, 80, 110, 111, 224] 4 (by simp; rfl) ?_
                                refine tops_split 224 (y29.1 != y30.1) (by simp) (fun c119 => ?_) (fun c119 => ?_)
                                · rw [c119] at hvv31
                                  refine ko [2, 3, 4, 11, 14, 16, 79, 80, 110, 111, 225, 226, 227, 228] 4 (by simp; rfl) ?_
                                  refine tops_nil ?_
                                  cases hvv31
                                  exact ⟨_, rfl, wk (by simp [weak_iff])⟩
                                · rw [c119] at hvv31
                                  refine ko [2, 3, 4, 11, 14, 16, 79, 80, 110, 111, 225, 226, 227, 228] 4 (by simp; rfl) ?_
                                  refine tops_nil ?_
                                  cases hvv31
                                  exact ⟨_, rfl, wk (by simp [weak_iff])⟩
                          · refine kc1 ?_
                            refine ko [2, 3, 4, 11, 14, 16, 18, 20, 22, 79, 80, 110, 111, 202] 4 (by simp; rfl) ?_
                            refine tops_split 202 (y26.1 != y27.1) (by simp) (fun c120 => ?_) (fun c120 => ?_)
                            · rw [c120] at hvv28
                              refine ko [2, 3, 4, 11, 14, 16, 18, 79, 80, 110, 111, 203, 204, 205, 206] 4 (by simp; rfl) ?_
                              refine tops_nil ?_
                              cases hvv28
                              exact ⟨_, rfl, wk (by simp [weak_iff])⟩
                            · rw [c120] at hvv28
                              refine ko [2, 3, 4, 11, 14, 16, 18, 79, 80, 110, 111, 203, 204, 205, 206] 4 (by simp; rfl) ?_
                              refine tops_nil ?_
                              cases hvv28
                              exact ⟨_, rfl, wk (by simp [weak_iff])⟩
                        · replace h2 := bnd h2; obtain ⟨v32, hvv32, h2⟩ := h2
                          refine sjv (fun v32_ : Bool => ({ nt := 232, env := [(2, .d (.int .i64 a2)), (3, .d (.int .i64 a3)), (4, .d (.int .i64 a4)), (11, .ptr 35 0), (14, .d (.int .i64 y5.1)), (16, .ptr 16 0), (18, .ptr 18 0), (79, .agg (arC api_Calendar_row l6)), (80, .d (.int .i64 s9.1)), (110, .agg (arC (arRow 3 (iRow .i64)) l17)), (111, .d (.int .i64 s19)), (176, .d (.bool v32_))], box := [(16, [.d (.int .i64 x10.Day), .d (.int .i64 x10.From), .d (.int .i64 x10.To), .d (.int .i64 x10.Week), .d (.slice (rowsF (iRow .i64) x10.Holidays))]), (18, [.d (.int .i64 (arD x20 0)), .d (.int .i64 v21), .d (.int .i64 (arD x20 2))]), (35, [.d (.slice (rowsF (iRow .i64) y16.2.L)), .d (.int .i64 y16.2.at_)])], vec := [] } : St)) (fun v32_ => v32 = v32_) (fun v32_ e => ?_) ?_
                          · subst e
                            refine tr_cond (b := v32) (by simp) (fun c123 => ?_) (fun c123 => ?_)
                            · rw [if_pos c123] at h2
                              refine lr (by simp; rfl) ?_
                              exact ⟨_, h2, wk (by simp [weak_iff])⟩
                            · rw [if_neg (by rw [c123]; decide)] at h2
                              refine tr_skip ?_
                              exact ⟨_, h2, wk (by simp [weak_iff])⟩
                          · refine kc1 ?_
                            refine ko [2, 3, 4, 11, 14, 16, 18, 79, 80, 110, 111, 172] 4 (by simp; rfl) ?_
                            refine tops_split 172 (decide (20 < (arD x20 2))) (by simp) (fun c124 => ?_) (fun c124 => ?_)
                            · rw [c124] at hvv32
                              refine ko [2, 3, 4, 11, 14, 16, 18, 79, 80, 110, 111, 173, 174, 175, 176] 4 (by simp; rfl) ?_
                              refine tops_nil ?_
                              cases hvv32
                              exact ⟨_, rfl, wk (by simp [weak_iff])⟩
                            · rw [c124] at hvv32
                              refine ko [2, 3, 4, 11, 14, 16, 18, 79, 80, 110, 111, 173, 174, 175, 176] 4 (by simp; rfl) ?_
                              refine tops_nil ?_
                              cases hvv32
                              exact ⟨_, rfl, wk (by simp [weak_iff])⟩
                    · refine kd1 [[], [], [0, 1], [2], [3], [3], [3, 4, 5], [3, 6], [7], [8], [8], [8, 10], [8, 9, 11], [8], [8], [8, 14], [8, 13, 15], [8, 12, 16], [8, 17]] [] [] 19 fol (by decide +kernel) ?_
                      refine dr_go 0 4 rfl (by simp (maxSteps := 1000000); rfl) ?_
                      refine dr_split 3 153 (y22.1 != y23.1) (by simp) (fun c127 => ?_) (fun c127 => ?_)
                      · rw [if_pos c127] at hvv24
                        refine dr_go 4 15 rfl (by simp (maxSteps := 1000000); rfl) ?_
                        refine dr_end rfl (tops_nil ?_)
                        cases hvv24
                        exact ⟨_, rfl, wk (by simp [weak_iff])⟩
                      · rw [if_neg (by rw [c127]; decide)] at hvv24
                        refine dr_go 4 5 rfl (by simp (maxSteps := 1000000); rfl) ?_
                        refine dr_split 8 158 (y22.2 != y23.2) (by simp) (fun c128 => ?_) (fun c128 => ?_)
                        · rw [if_pos c128] at hvv24
                          refine dr_go 9 10 rfl (by simp (maxSteps := 1000000); rfl) ?_
                          refine dr_end rfl (tops_nil ?_)
                          cases hvv24
                          exact ⟨_, rfl, wk (by simp [weak_iff])⟩
                        · rw [if_neg (by rw [c128]; decide)] at hvv24
                          refine dr_go 9 3 rfl (by simp (maxSteps := 1000000); rfl) ?_
                          replace hvv24 := bnd hvv24; obtain ⟨y33, hy33, hvv24⟩ := hvv24
                          refine dr_call 12 [] (calendar_Working_ok hy33) rfl rfl rfl rfl rfl Try.call17 (by simp) ?_
                          refine dr_go 13 3 rfl (by simp (maxSteps := 1000000); rfl) ?_
                          replace hvv24 := bnd hvv24; obtain ⟨y34, hy34, hvv24⟩ := hvv24
                          refine dr_call 16 [] (ref40_Working_ok hy34) rfl rfl rfl rfl rfl Try.call18 (by simp) ?_
                          refine dr_go 17 2 rfl (by simp (maxSteps := 1000000); rfl) ?_
                          refine dr_end rfl (tops_nil ?_)
                          cases hvv24
                          exact ⟨_, rfl, wk (by simp [weak_iff])⟩
                  · replace h2 := bnd h2; obtain ⟨v35, hvv35, h2⟩ := h2
                    refine sjv (fun v35_ : Bool => ({ nt := 232, env := [(2, .d (.int .i64 a2)), (3, .d (.int .i64 a3)), (4, .d (.int .i64 a4)), (11, .ptr 35 0), (14, .d (.int .i64 y5.1)), (16, .ptr 16 0), (18, .ptr 18 0), (79, .agg (arC api_Calendar_row l6)), (80, .d (.int .i64 s9.1)), (110, .agg (arC (arRow 3 (iRow .i64)) l17)), (111, .d (.int .i64 s19)), (127, .d (.bool v35_))], box := [(16, [.d (.int .i64 x10.Day), .d (.int .i64 x10.From), .d (.int .i64 x10.To), .d (.int .i64 x10.Week), .d (.slice (rowsF (iRow .i64) x10.Holidays))]), (18, [.d (.int .i64 (arD x20 0)), .d (.int .i64 (arD x20 1)), .d (.int .i64 (arD x20 2))]), (35, [.d (.slice (rowsF (iRow .i64) y16.2.L)), .d (.int .i64 y16.2.at_)])], vec := [] } : St)) (fun v35_ => v35 = v35_) (fun v35_ e => ?_) ?_
                    · subst e
                      refine tr_cond (b := v35) (by simp) (fun c131 => ?_) (fun c131 => ?_)
                      · rw [if_pos c131] at h2
                        refine lr (by simp; rfl) ?_
                        exact ⟨_, h2, wk (by simp [weak_iff])⟩
                      · rw [if_neg (by rw [c131]; decide)] at h2
                        refine tr_skip ?_
                        exact ⟨_, h2, wk (by simp [weak_iff])⟩
                    · refine kc1 ?_
                      refine ko [2, 3, 4, 11, 14, 16, 18, 79, 80, 110, 111, 120] 7 (by simp; rfl) ?_
                      refine tops_split 120 (decide (2000 < (IntKind.i64.wrap ((arD x20 1) - (arD x20 0))))) (by simp) (fun c132 => ?_) (fun c132 => ?_)
                      · rw [c132] at hvv35
                        refine ko [2, 3, 4, 11, 14, 16, 18, 79, 80, 110, 111, 121, 122, 123, 124, 125, 126, 127] 7 (by simp; rfl) ?_
                        refine tops_nil ?_
                        cases hvv35
                        exact ⟨_, rfl, wk (by simp [weak_iff])⟩
                      · rw [c132] at hvv35
                        refine ko [2, 3, 4, 11, 14, 16, 18, 79, 80, 110, 111, 121, 122, 123, 124, 125, 126, 127] 7 (by simp; rfl) ?_
                        refine tops_nil ?_
                        cases hvv35
                        exact ⟨_, rfl, wk (by simp [weak_iff])⟩
                · rw [if_neg (by rw [c99]; decide)] at h2
                  refine tr_exit ?_
                  exact ⟨_, he2 _ (Option.some.inj h2), wk (by simp [weak_iff])⟩
          · rw [if_neg (by rw [c69]; decide)] at h1
            refine tr_exit ?_
            exact ⟨_, he1 _ (Option.some.inj h1), wk (by simp [weak_iff])⟩
      · refine kc ?_
        refine ko [2, 3, 4, 6, 11, 12, 13, 39] 1 (by simp; rfl) ?_
        replace h0 := bnd h0; obtain ⟨y40, hy40, h0⟩ := h0
        refine kcall [2, 3, 4, 6, 11, 12, 13, 40] [35] (make_Tape_Next_ok hy40) rfl rfl rfl Try.call10 (by simp) (by simp; rfl) ?_
        refine tops_nil ?_
        refine tr_block ?_
        refine kr [2, 3, 4, 6, 11, 12, 13, 40, 43] (by simp; rfl) ?_
        refine tr_cond (b := (y40.1 == 0)) (by simp) (fun c133 => ?_) (fun c133 => ?_)
        · rw [if_pos c133] at h0
          refine kc1 ?_
          refine ko [2, 3, 4, 6, 11, 12, 13, 45] 1 (by simp; rfl) ?_
          replace h0 := bnd h0; obtain ⟨y41, hy41, h0⟩ := h0
          refine kcall [2, 3, 4, 6, 11, 12, 13, 46] [35] (make_Tape_Between_ok hy41) rfl rfl rfl Try.call11 (by simp) (by simp; rfl) ?_
          refine ko [2, 3, 4, 6, 11, 12, 13] 2 (by simp; rfl) ?_
          refine tops_nil ?_
          exact ⟨_, h0, wk (by simp [weak_iff])⟩
        · rw [if_neg (by rw [c133]; decide)] at h0
          refine kr [2, 3, 4, 6, 11, 12, 13, 40, 48] (by simp; rfl) ?_
          refine tr_cond (b := (y40.1 == 1)) (by simp) (fun c134 => ?_) (fun c134 => ?_)
          · rw [if_pos c134] at h0
            refine kc1 ?_
            refine ko [2, 3, 4, 6, 11, 12, 13, 50] 1 (by simp; rfl) ?_
            replace h0 := bnd h0; obtain ⟨y42, hy42, h0⟩ := h0
            refine kcall [2, 3, 4, 6, 11, 12, 13, 51] [35] (make_Tape_Between_ok hy42) rfl rfl rfl Try.call11 (by simp) (by simp; rfl) ?_
            refine ko [2, 3, 4, 6, 11, 12, 13] 2 (by simp; rfl) ?_
            refine tops_nil ?_
            exact ⟨_, h0, wk (by simp [weak_iff])⟩
          · rw [if_neg (by rw [c134]; decide)] at h0
            refine kr [2, 3, 4, 6, 11, 12, 13, 40, 53] (by simp; rfl) ?_
            refine tr_cond (b := (y40.1 == 2)) (by simp) (fun c135 => ?_) (fun c135 => ?_)
            · rw [if_pos c135] at h0
              refine kc1 ?_
              refine ko [2, 3, 4, 6, 11, 12, 13, 55] 1 (by simp; rfl) ?_
              replace h0 := bnd h0; obtain ⟨y43, hy43, h0⟩ := h0
              refine kcall [2, 3, 4, 6, 11, 12, 13, 56] [35] (make_Tape_Between_ok hy43) rfl rfl rfl Try.call11 (by simp) (by simp; rfl) ?_
              refine ko [2, 3, 4, 6, 11, 12, 13] 2 (by simp; rfl) ?_
              refine tops_nil ?_
              exact ⟨_, h0, wk (by simp [weak_iff])⟩
            · rw [if_neg (by rw [c135]; decide)] at h0
              refine kr [2, 3, 4, 6, 11, 12, 13, 40, 58] (by simp; rfl) ?_
              refine tr_cond (b := (y40.1 == 3)) (by simp) (fun c136 => ?_) (fun c136 => ?_)
              · rw [if_pos c136] at h0
                refine kc1 ?_
                refine ko [2, 3, 4, 6, 11, 12, 13, 60, 61] 2 (by simp; rfl) ?_
                refine tops_wk (wk_frz 61) ?_
                replace h0 := bnd h0; obtain ⟨y44, hy44, h0⟩ := h0
                refine kcall [2, 3, 4, 6, 11, 12, 13, 62] [35] (make_Pick_ok hy44) rfl rfl rfl Try.call12 (by simp) (by simp; rfl) ?_
                refine ko [2, 3, 4, 6, 11, 12, 13] 2 (by simp; rfl) ?_
                refine tops_nil ?_
                exact ⟨_, h0, wk (by simp [weak_iff])⟩
              · rw [if_neg (by rw [c136]; decide)] at h0
                refine kr [2, 3, 4, 6, 11, 12, 13, 64] (by simp; rfl) ?_
                refine tr_cond (b := (y40.1 == 4)) (by simp) (fun c137 => ?_) (fun c137 => ?_)
                · rw [if_pos c137] at h0
                  refine kc1 ?_
                  replace h0 := bnd h0; obtain ⟨_, p33, h0⟩ := h0
                  replace p33 := ck_some p33
                  have p33' := p33; try simp at p33'
                  refine ko [2, 3, 4, 6, 11, 12, 13, 68, 69] 4 (by simp [p33, p33']; rfl) ?_
                  replace h0 := bnd h0; obtain ⟨y45, hy45, h0⟩ := h0
                  refine kcall [2, 3, 4, 6, 11, 12, 13, 68, 70] [35] (make_Tape_Between_ok hy45) rfl rfl rfl Try.call11 (by simp) (by simp; rfl) ?_
                  replace h0 := bnd h0; obtain ⟨_, p34, h0⟩ := h0
                  replace p34 := ck_some p34
                  have p34' := p34; try simp at p34'
                  refine ko [2, 3, 4, 6, 11, 12, 13] 4 (by simp [p34, p34']; rfl) ?_
                  refine tops_nil ?_
                  exact ⟨_, h0, (wk_frz 72).trans (wk (by simp [weak_iff]))⟩
                · rw [if_neg (by rw [c137]; decide)] at h0
                  refine lr (by simp; rfl) ?_
                  exact ⟨_, h0, (wk_frz 41).trans (wk (by simp [weak_iff]))⟩
  · refine kc1 ?_
    refine ko [0, 2, 3, 4, 6, 26] 4 (by simp; rfl) ?_
    refine tops_split 26 (decide (200 < ((a0).length : Int))) (by simp) (fun c138 => ?_) (fun c138 => ?_)
    · rw [c138] at hvv1
      refine ko [0, 2, 3, 4, 6, 31] 5 (by simp; rfl) ?_
      refine tops_nil ?_
      cases hvv1
      exact ⟨_, rfl, wk (by simp [weak_iff])⟩
    · rw [c138] at hvv1
      refine ko [0, 2, 3, 4, 6, 31] 5 (by simp; rfl) ?_
      refine tops_nil ?_
      cases hvv1
      exact ⟨_, rfl, wk (by simp [weak_iff])⟩
set_option maxHeartbeats 1000000 in
theorem law40_CalendarAdds_ok {a0 : List Int} {r : Bool} (h0 : law40_CalendarAdds a0 = some r) : FnOK Try.prog 4 [] [.d (.slice (rowsF (iRow .i64) a0))] (.d (.bool r)) [] := by
  unfold law40_CalendarAdds at h0
  refine fn_ok (nt := 85) (rs := [.tmp 2]) Try.func4 rfl Try.ntmps4 rfl (by simp) (by decide) rfl fun K => ?_
  refine kr [0] (by simp; rfl) ?_
  refine tr_seq ?_
  refine kr [0, 13] (by simp; rfl) ?_
  refine tr_cond (b := (decide (200 < ((a0).length : Int)))) (by simp) (fun c1 => ?_) (fun c1 => ?_)
  · rw [if_pos c1] at h0
    refine kc ?_
    replace h0 := bnd h0; obtain ⟨y1, hy1, h0⟩ := h0
    refine kcall [14] [] (law40_awake_ok hy1) rfl rfl rfl Try.call8 (by simp) (by simp; rfl) ?_
    refine ko [2] 1 (by simp; rfl) ?_
    refine tops_nil ?_
    cases h0
    exact tr_ret ⟨[], by simp, rfl, by simp⟩
  · rw [if_neg (by rw [c1]; decide)] at h0
    refine tr_skip ?_
    refine kr [3] (by simp; rfl) ?_
    refine kc ?_
    refine ko [3, 18] 1 (by simp; rfl) ?_
    replace h0 := bnd h0; obtain ⟨y2, hy2, h0⟩ := h0
    refine kcall [3, 19] [17] (make_Calendar_ok hy2) rfl rfl rfl Try.call9 (by simp) (by simp; rfl) ?_
    refine ko [3, 4] 2 (by simp; rfl) ?_
    refine tops_nil ?_
    refine kc ?_
    refine ko [3, 4, 20] 1 (by simp; rfl) ?_
    replace h0 := bnd h0; obtain ⟨y3, hy3, h0⟩ := h0
    refine kcall [3, 4, 21] [17] (make_Tape_Next_ok hy3) rfl rfl rfl Try.call10 (by simp) (by simp; rfl) ?_
    refine ko [4, 21, 22] 1 (by simp; rfl) ?_
    replace h0 := bnd h0; obtain ⟨y4, hy4, h0⟩ := h0
    refine kcall [4, 21, 23] [17] (make_Tape_Next_ok hy4) rfl rfl rfl Try.call10 (by simp) (by simp; rfl) ?_
    refine ko [4, 5, 6] 2 (by simp; rfl) ?_
    refine tops_nil ?_
    refine kc ?_
    refine ko [4, 5, 6, 25, 26, 27] 3 (by simp; rfl) ?_
    replace h0 := bnd h0; obtain ⟨y5, hy5, h0⟩ := h0
    refine kcall [4, 5, 6, 28] [] (calendar_Add_ok hy5) rfl rfl rfl Try.call19 (by simp) (by simp; rfl) ?_
    refine ko [4, 5, 6, 7, 8] 5 (by simp; rfl) ?_
    refine tops_nil ?_
    refine tr_seq ?_
    replace h0 := bnd h0; obtain ⟨v6, hvv6, h0⟩ := h0
    refine sjv (fun v6_ : Bool => ({ nt := 85, env := [(4, .ptr 4 0), (5, .d (.int .i64 y3.1)), (6, .d (.int .i64 y4.1)), (7, .d (.int .i64 y5.1)), (37, .d (.bool v6_))], box := [(4, [.d (.int .i64 y2.1.Day), .d (.int .i64 y2.1.From), .d (.int .i64 y2.1.To), .d (.int .i64 y2.1.Week), .d (.slice (rowsF (iRow .i64) y2.1.Holidays))])], vec := [] } : St)) (fun v6_ => v6 = v6_) (fun v6_ e => ?_) ?_
    · subst e
      refine tr_cond (b := v6) (by simp) (fun c4 => ?_) (fun c4 => ?_)
      · rw [if_pos c4] at h0
        refine kr [2] (by simp; rfl) ?_
        cases h0
        exact tr_ret ⟨[], by simp, rfl, by simp⟩
      · rw [if_neg (by rw [c4]; decide)] at h0
        refine tr_skip ?_
        refine kc ?_
        refine ko [4, 5, 6, 7, 39, 40, 41] 3 (by simp; rfl) ?_
        replace h0 := bnd h0; obtain ⟨y7, hy7, h0⟩ := h0
        refine kcall [4, 5, 6, 7, 42] [] (calendar_Between_ok hy7) rfl rfl rfl Try.call15 (by simp) (by simp; rfl) ?_
        refine ko [4, 5, 6, 7, 9, 10] 5 (by simp; rfl) ?_
        refine tops_nil ?_
        refine tr_seq ?_
        replace h0 := bnd h0; obtain ⟨v8, hvv8, h0⟩ := h0
        refine sjv (fun v8_ : Bool => ({ nt := 85, env := [(4, .ptr 4 0), (5, .d (.int .i64 y3.1)), (6, .d (.int .i64 y4.1)), (7, .d (.int .i64 y5.1)), (51, .d (.bool v8_))], box := [(4, [.d (.int .i64 y2.1.Day), .d (.int .i64 y2.1.From), .d (.int .i64 y2.1.To), .d (.int .i64 y2.1.Week), .d (.slice (rowsF (iRow .i64) y2.1.Holidays))])], vec := [] } : St)) (fun v8_ => v8 = v8_) (fun v8_ e => ?_) ?_
        · subst e
          refine tr_cond (b := v8) (by simp) (fun c7 => ?_) (fun c7 => ?_)
          · rw [if_pos c7] at h0
            refine kr [2] (by simp; rfl) ?_
            cases h0
            exact tr_ret ⟨[], by simp, rfl, by simp⟩
          · rw [if_neg (by rw [c7]; decide)] at h0
            refine tr_skip ?_
            refine tr_seq ?_
            refine kr [4, 5, 6, 7, 53] (by simp; rfl) ?_
            refine tr_cond (b := (y4.1 == 0)) (by simp) (fun c8 => ?_) (fun c8 => ?_)
            · rw [if_pos c8] at h0
              replace h0 := bnd h0; obtain ⟨v9, hvv9, h0⟩ := h0
              refine sjv (fun v9_ : Bool => ({ nt := 85, env := [(2, .d (.bool v9_))], box := [], vec := [] } : St)) (fun v9_ => v9 = v9_) (fun v9_ e => ?_) ?_
              · subst e
                cases h0
                exact tr_ret ⟨[], by simp, rfl, by simp⟩
              · refine kc1 ?_
                refine ko [57] 4 (by simp; rfl) ?_
                refine tops_split 57 (y5.1 == y3.1) (by simp) (fun c11 => ?_) (fun c11 => ?_)
                · rw [if_pos c11] at hvv9
                  replace hvv9 := bnd hvv9; obtain ⟨y10, hy10, hvv9⟩ := hvv9
                  refine kcall [57, 58] [] (law40_awake_ok hy10) rfl rfl rfl Try.call8 (by simp) (by simp; rfl) ?_
                  refine ko [2] 2 (by simp; rfl) ?_
                  refine tops_nil ?_
                  cases hvv9
                  exact ⟨_, rfl, wk (by simp [weak_iff])⟩
                · rw [if_neg (by rw [c11]; decide)] at hvv9
                  refine ko [2] 3 (by simp; rfl) ?_
                  refine tops_nil ?_
                  cases hvv9
                  exact ⟨_, rfl, wk (by simp [weak_iff])⟩
            · rw [if_neg (by rw [c8]; decide)] at h0
              refine tr_skip ?_
              refine kc ?_
              refine ko [4, 6, 7, 61, 62, 64] 4 (by simp; rfl) ?_
              replace h0 := bnd h0; obtain ⟨y11, hy11, h0⟩ := h0
              refine kcall [4, 6, 7, 65] [] (calendar_Between_ok hy11) rfl rfl rfl Try.call15 (by simp) (by simp; rfl) ?_
              refine ko [4, 6, 7, 9, 10] 5 (by simp; rfl) ?_
              refine tops_nil ?_
              replace h0 := bnd h0; obtain ⟨v12, hvv12, h0⟩ := h0
              refine sjv (fun v12_ : Bool => ({ nt := 85, env := [(2, .d (.bool v12_))], box := [], vec := [] } : St)) (fun v12_ => v12 = v12_) (fun v12_ e => ?_) ?_
              · subst e
                cases h0
                exact tr_ret ⟨[], by simp, rfl, by simp⟩
              · refine kc1 ?_
                refine ko [4, 6, 7, 9, 70] 3 (by simp; rfl) ?_
                refine tops_split 70 (y11.2 == 0) (by simp) (fun c18 => ?_) (fun c18 => ?_)
                · rw [if_pos c18] at hvv12
                  refine ko [4, 7, 76] 6 (by simp; rfl) ?_
                  refine tops_split 76 (y11.1 == (IntKind.i64.wrap (y4.1 - 1))) (by simp) (fun c19 => ?_) (fun c19 => ?_)
                  · rw [if_pos c19] at hvv12
                    refine ko [76, 77, 79] 3 (by simp; rfl) ?_
                    replace hvv12 := bnd hvv12; obtain ⟨y13, hy13, hvv12⟩ := hvv12
                    refine kcall [76, 80] [] (calendar_Working_ok hy13) rfl rfl rfl Try.call17 (by simp) (by simp; rfl) ?_
                    refine ko [82] 2 (by simp; rfl) ?_
                    refine tops_split 82 y13 (by simp) (fun c20 => ?_) (fun c20 => ?_)
                    · rw [if_pos c20] at hvv12
                      replace hvv12 := bnd hvv12; obtain ⟨y14, hy14, hvv12⟩ := hvv12
                      refine kcall [82, 83] [] (law40_awake_ok hy14) rfl rfl rfl Try.call8 (by simp) (by simp; rfl) ?_
                      refine ko [2] 2 (by simp; rfl) ?_
                      refine tops_nil ?_
                      cases hvv12
                      exact ⟨_, rfl, wk (by simp [weak_iff])⟩
                    · rw [if_neg (by rw [c20]; decide)] at hvv12
                      refine ko [2] 3 (by simp; rfl) ?_
                      refine tops_nil ?_
                      cases hvv12
                      exact ⟨_, rfl, wk (by simp [weak_iff])⟩
                  · rw [if_neg (by rw [c19]; decide)] at hvv12
                    refine ko [2] 9 (by simp; rfl) ?_
                    refine tops_nil ?_
                    cases hvv12
                    exact ⟨_, rfl, wk (by simp [weak_iff])⟩
                · rw [if_neg (by rw [c18]; decide)] at hvv12
                  refine ko [2] 15 (by simp; rfl) ?_
                  refine tops_nil ?_
                  cases hvv12
                  exact ⟨_, rfl, wk (by simp [weak_iff])⟩
        · refine kc1 ?_
          refine ko [4, 5, 6, 7, 9, 47] 3 (by simp; rfl) ?_
          refine tops_split 47 (y7.2 != 0) (by simp) (fun c21 => ?_) (fun c21 => ?_)
          · rw [c21] at hvv8
            refine ko [4, 5, 6, 7, 51] 4 (by simp; rfl) ?_
            refine tops_nil ?_
            cases hvv8
            exact ⟨_, rfl, wk (by simp [weak_iff])⟩
          · rw [c21] at hvv8
            refine ko [4, 5, 6, 7, 51] 4 (by simp; rfl) ?_
            refine tops_nil ?_
            cases hvv8
            exact ⟨_, rfl, wk (by simp [weak_iff])⟩
    · refine kc1 ?_
      refine ko [4, 5, 6, 7, 33] 3 (by simp; rfl) ?_
      refine tops_split 33 (y5.2 != 0) (by simp) (fun c22 => ?_) (fun c22 => ?_)
      · rw [c22] at hvv6
        refine ko [4, 5, 6, 7, 37] 4 (by simp; rfl) ?_
        refine tops_nil ?_
        cases hvv6
        exact ⟨_, rfl, wk (by simp [weak_iff])⟩
      · rw [c22] at hvv6
        refine ko [4, 5, 6, 7, 37] 4 (by simp; rfl) ?_
        refine tops_nil ?_
        cases hvv6
        exact ⟨_, rfl, wk (by simp [weak_iff])⟩
set_option maxHeartbeats 1000000 in
theorem law40_CalendarParts_ok {a0 : List Int} {r : Bool} (h0 : law40_CalendarParts a0 = some r) : FnOK Try.prog 5 [] [.d (.slice (rowsF (iRow .i64) a0))] (.d (.bool r)) [] := by
  unfold law40_CalendarParts at h0
  refine fn_ok (nt := 128) (rs := [.tmp 2]) Try.func5 rfl Try.ntmps5 rfl (by simp) (by decide) rfl fun K => ?_
  refine kr [0] (by simp; rfl) ?_
  refine tr_seq ?_
  refine kr [0, 21] (by simp; rfl) ?_
  refine tr_cond (b := (decide (200 < ((a0).length : Int)))) (by simp) (fun c1 => ?_) (fun c1 => ?_)
  · rw [if_pos c1] at h0
    refine kc ?_
    replace h0 := bnd h0; obtain ⟨y1, hy1, h0⟩ := h0
    refine kcall [22] [] (law40_awake_ok hy1) rfl rfl rfl Try.call8 (by simp) (by simp; rfl) ?_
    refine ko [2] 1 (by simp; rfl) ?_
    refine tops_nil ?_
    cases h0
    exact tr_ret ⟨[], by simp, rfl, by simp⟩
  · rw [if_neg (by rw [c1]; decide)] at h0
    refine tr_skip ?_
    refine kr [3] (by simp; rfl) ?_
    refine kc ?_
    refine ko [3, 26] 1 (by simp; rfl) ?_
    replace h0 := bnd h0; obtain ⟨y2, hy2, h0⟩ := h0
    refine kcall [3, 27] [25] (make_Calendar_ok hy2) rfl rfl rfl Try.call9 (by simp) (by simp; rfl) ?_
    refine ko [3, 4] 2 (by simp; rfl) ?_
    refine tops_nil ?_
    refine kc ?_
    refine ko [3, 4, 28] 1 (by simp; rfl) ?_
    replace h0 := bnd h0; obtain ⟨y3, hy3, h0⟩ := h0
    refine kcall [3, 4, 29] [25] (make_Tape_Next_ok hy3) rfl rfl rfl Try.call10 (by simp) (by simp; rfl) ?_
    refine ko [3, 4, 29, 30] 1 (by simp; rfl) ?_
    replace h0 := bnd h0; obtain ⟨y4, hy4, h0⟩ := h0
    refine kcall [3, 4, 29, 31] [25] (make_Tape_Next_ok hy4) rfl rfl rfl Try.call10 (by simp) (by simp; rfl) ?_
    refine ko [3, 4, 29, 31, 32] 1 (by simp; rfl) ?_
    replace h0 := bnd h0; obtain ⟨y5, hy5, h0⟩ := h0
    refine kcall [3, 4, 29, 31, 33] [25] (make_Tape_Next_ok hy5) rfl rfl rfl Try.call10 (by simp) (by simp; rfl) ?_
    refine ko [3, 4, 5, 6, 7] 3 (by simp; rfl) ?_
    refine tops_nil ?_
    refine kc ?_
    refine ko [3, 4, 5, 6, 7, 35, 36, 37] 3 (by simp; rfl) ?_
    replace h0 := bnd h0; obtain ⟨y6, hy6, h0⟩ := h0
    refine kcall [3, 4, 5, 6, 7, 38] [] (calendar_Add_ok hy6) rfl rfl rfl Try.call19 (by simp) (by simp; rfl) ?_
    refine ko [3, 4, 5, 6, 7, 8, 9] 5 (by simp; rfl) ?_
    refine tops_nil ?_
    refine kc ?_
    refine ko [3, 4, 5, 6, 7, 9, 42, 43, 44] 3 (by simp; rfl) ?_
    replace h0 := bnd h0; obtain ⟨y7, hy7, h0⟩ := h0
    refine kcall [3, 4, 5, 6, 7, 9, 45] [] (calendar_Add_ok hy7) rfl rfl rfl Try.call19 (by simp) (by simp; rfl) ?_
    refine ko [3, 4, 5, 6, 7, 9, 10, 11] 5 (by simp; rfl) ?_
    refine tops_nil ?_
    refine kc ?_
    refine ko [3, 4, 5, 9, 10, 11, 49, 50, 53] 5 (by simp; rfl) ?_
    replace h0 := bnd h0; obtain ⟨y8, hy8, h0⟩ := h0
    refine kcall [3, 4, 5, 9, 10, 11, 54] [] (calendar_Add_ok hy8) rfl rfl rfl Try.call19 (by simp) (by simp; rfl) ?_
    refine ko [3, 4, 5, 9, 10, 11, 12, 13] 5 (by simp; rfl) ?_
    refine tops_nil ?_
    refine tr_seq ?_
    replace h0 := bnd h0; obtain ⟨v9, hvv9, h0⟩ := h0
    refine sjv (fun v9_ : Bool => ({ nt := 128, env := [(3, .ptr 25 0), (4, .ptr 4 0), (5, .d (.int .i64 y3.1)), (71, .d (.bool v9_))], box := [(4, [.d (.int .i64 y2.1.Day), .d (.int .i64 y2.1.From), .d (.int .i64 y2.1.To), .d (.int .i64 y2.1.Week), .d (.slice (rowsF (iRow .i64) y2.1.Holidays))]), (25, [.d (.slice (rowsF (iRow .i64) y5.2.L)), .d (.int .i64 y5.2.at_)])], vec := [] } : St)) (fun v9_ => v9 = v9_) (fun v9_ e => ?_) ?_
    · subst e
      refine tr_cond (b := v9) (by simp) (fun c8 => ?_) (fun c8 => ?_)
      · rw [if_pos c8] at h0
        refine kr [2] (by simp; rfl) ?_
        cases h0
        exact tr_ret ⟨[], by simp, rfl, by simp⟩
      · rw [if_neg (by rw [c8]; decide)] at h0
        refine tr_skip ?_
        refine kc ?_
        refine ko [3, 4, 5, 72, 73] 2 (by simp; rfl) ?_
        replace h0 := bnd h0; obtain ⟨y10, hy10, h0⟩ := h0
        refine kcall [3, 4, 5, 72, 74] [25] (make_Tape_Next_ok hy10) rfl rfl rfl Try.call10 (by simp) (by simp; rfl) ?_
        refine ko [3, 4, 5, 14] 2 (by simp; rfl) ?_
        refine tops_nil ?_
        refine kc ?_
        refine ko [4, 5, 14, 76, 77] 2 (by simp; rfl) ?_
        replace h0 := bnd h0; obtain ⟨y11, hy11, h0⟩ := h0
        refine kcall [4, 5, 14, 76, 78] [25] (make_Tape_Next_ok hy11) rfl rfl rfl Try.call10 (by simp) (by simp; rfl) ?_
        refine ko [4, 5, 14, 15] 2 (by simp; rfl) ?_
        refine tops_nil ?_
        refine kc ?_
        refine ko [4, 5, 14, 15, 81, 82, 83] 3 (by simp; rfl) ?_
        replace h0 := bnd h0; obtain ⟨y12, hy12, h0⟩ := h0
        refine kcall [4, 5, 14, 15, 84] [] (calendar_Between_ok hy12) rfl rfl rfl Try.call15 (by simp) (by simp; rfl) ?_
        refine ko [4, 5, 9, 14, 15, 16] 5 (by simp; rfl) ?_
        refine tops_nil ?_
        refine kc ?_
        refine ko [4, 5, 9, 15, 16, 88, 89, 90] 3 (by simp; rfl) ?_
        replace h0 := bnd h0; obtain ⟨y13, hy13, h0⟩ := h0
        refine kcall [4, 5, 9, 15, 16, 91] [] (calendar_Between_ok hy13) rfl rfl rfl Try.call15 (by simp) (by simp; rfl) ?_
        refine ko [4, 5, 9, 11, 15, 16, 17] 5 (by simp; rfl) ?_
        refine tops_nil ?_
        refine kc ?_
        refine ko [5, 9, 11, 15, 16, 17, 95, 96, 97] 3 (by simp; rfl) ?_
        replace h0 := bnd h0; obtain ⟨y14, hy14, h0⟩ := h0
        refine kcall [5, 9, 11, 15, 16, 17, 98] [] (calendar_Between_ok hy14) rfl rfl rfl Try.call15 (by simp) (by simp; rfl) ?_
        refine ko [5, 9, 11, 13, 15, 16, 17, 18] 5 (by simp; rfl) ?_
        refine tops_nil ?_
        replace h0 := bnd h0; obtain ⟨v15, hvv15, h0⟩ := h0
        refine sjv (fun v15_ : Bool => ({ nt := 128, env := [(2, .d (.bool v15_))], box := [], vec := [] } : St)) (fun v15_ => v15 = v15_) (fun v15_ e => ?_) ?_
        · subst e
          cases h0
          exact tr_ret ⟨[], by simp, rfl, by simp⟩
        · refine kc1 ?_
          refine ko [5, 11, 13, 15, 16, 17, 18, 103] 3 (by simp; rfl) ?_
          refine tops_split 103 (y12.2 == 0) (by simp) (fun c19 => ?_) (fun c19 => ?_)
          · rw [if_pos c19] at hvv15
            refine ko [5, 13, 15, 16, 17, 18, 107] 4 (by simp; rfl) ?_
            refine tops_split 107 (y13.2 == 0) (by simp) (fun c20 => ?_) (fun c20 => ?_)
            · rw [if_pos c20] at hvv15
              refine ko [5, 15, 16, 17, 18, 111] 4 (by simp; rfl) ?_
              refine tops_split 111 (y14.2 == 0) (by simp) (fun c21 => ?_) (fun c21 => ?_)
              · rw [if_pos c21] at hvv15
                refine ko [5, 15, 18, 118] 7 (by simp; rfl) ?_
                refine tops_split 118 ((IntKind.i64.wrap (y12.1 + y13.1)) == y14.1) (by simp) (fun c22 => ?_) (fun c22 => ?_)
                · rw [if_pos c22] at hvv15
                  refine ko [125] 7 (by simp; rfl) ?_
                  refine tops_split 125 (decide (y14.1 ≤ (IntKind.i64.wrap ((IntKind.i64.wrap ((IntKind.i64.wrap (y3.1 + y10.1)) + y11.1)) - y3.1)))) (by simp) (fun c23 => ?_) (fun c23 => ?_)
                  · rw [if_pos c23] at hvv15
                    replace hvv15 := bnd hvv15; obtain ⟨y16, hy16, hvv15⟩ := hvv15
                    refine kcall [125, 126] [] (law40_awake_ok hy16) rfl rfl rfl Try.call8 (by simp) (by simp; rfl) ?_
                    refine ko [2] 2 (by simp; rfl) ?_
                    refine tops_nil ?_
                    cases hvv15
                    exact ⟨_, rfl, wk (by simp [weak_iff])⟩
                  · rw [if_neg (by rw [c23]; decide)] at hvv15
                    refine ko [2] 3 (by simp; rfl) ?_
                    refine tops_nil ?_
                    cases hvv15
                    exact ⟨_, rfl, wk (by simp [weak_iff])⟩
                · rw [if_neg (by rw [c22]; decide)] at hvv15
                  refine ko [2] 10 (by simp; rfl) ?_
                  refine tops_nil ?_
                  cases hvv15
                  exact ⟨_, rfl, wk (by simp [weak_iff])⟩
              · rw [if_neg (by rw [c21]; decide)] at hvv15
                refine ko [2] 17 (by simp; rfl) ?_
                refine tops_nil ?_
                cases hvv15
                exact ⟨_, rfl, wk (by simp [weak_iff])⟩
            · rw [if_neg (by rw [c20]; decide)] at hvv15
              refine ko [2] 21 (by simp; rfl) ?_
              refine tops_nil ?_
              cases hvv15
              exact ⟨_, rfl, wk (by simp [weak_iff])⟩
          · rw [if_neg (by rw [c19]; decide)] at hvv15
            refine ko [2] 25 (by simp; rfl) ?_
            refine tops_nil ?_
            cases hvv15
            exact ⟨_, rfl, wk (by simp [weak_iff])⟩
    · refine kc1 ?_
      refine ko [3, 4, 5, 10, 11, 12, 13, 59] 3 (by simp; rfl) ?_
      refine tops_split 59 (y6.2 != 0) (by simp) (fun c24 => ?_) (fun c24 => ?_)
      · rw [c24] at hvv9
        refine ko [3, 4, 5, 71] 12 (by simp; rfl) ?_
        refine tops_nil ?_
        cases hvv9
        exact ⟨_, rfl, wk (by simp [weak_iff])⟩
      · rw [c24] at hvv9
        refine ko [3, 4, 5, 10, 12, 13, 63] 4 (by simp; rfl) ?_
        refine tops_split 63 (y7.2 != 0) (by simp) (fun c25 => ?_) (fun c25 => ?_)
        · rw [c25] at hvv9
          refine ko [3, 4, 5, 71] 8 (by simp; rfl) ?_
          refine tops_nil ?_
          cases hvv9
          exact ⟨_, rfl, wk (by simp [weak_iff])⟩
        · rw [c25] at hvv9
          refine ko [3, 4, 5, 10, 12, 67] 4 (by simp; rfl) ?_
          refine tops_split 67 (y8.2 != 0) (by simp) (fun c26 => ?_) (fun c26 => ?_)
          · rw [c26] at hvv9
            refine ko [3, 4, 5, 71] 4 (by simp; rfl) ?_
            refine tops_nil ?_
            cases hvv9
            exact ⟨_, rfl, wk (by simp [weak_iff])⟩
          · rw [c26] at hvv9
            refine ko [3, 4, 5, 71] 4 (by simp; rfl) ?_
            refine tops_nil ?_
            cases hvv9
            exact ⟨_, rfl, wk (by simp [weak_iff])⟩
set_option maxHeartbeats 1000000 in
theorem law40_CalendarNext_ok {a0 : List Int} {r : Bool} (h0 : law40_CalendarNext a0 = some r) : FnOK Try.prog 6 [] [.d (.slice (rowsF (iRow .i64) a0))] (.d (.bool r)) [] := by
  unfold law40_CalendarNext at h0
  refine fn_ok (nt := 67) (rs := [.tmp 2]) Try.func6 rfl Try.ntmps6 rfl (by simp) (by decide) rfl fun K => ?_
  refine kr [0] (by simp; rfl) ?_
  refine tr_seq ?_
  refine kr [0, 13] (by simp; rfl) ?_
  refine tr_cond (b := (decide (200 < ((a0).length : Int)))) (by simp) (fun c1 => ?_) (fun c1 => ?_)
  · rw [if_pos c1] at h0
    refine kc ?_
    replace h0 := bnd h0; obtain ⟨y1, hy1, h0⟩ := h0
    refine kcall [14] [] (law40_awake_ok hy1) rfl rfl rfl Try.call8 (by simp) (by simp; rfl) ?_
    refine ko [2] 1 (by simp; rfl) ?_
    refine tops_nil ?_
    cases h0
    exact tr_ret ⟨[], by simp, rfl, by simp⟩
  · rw [if_neg (by rw [c1]; decide)] at h0
    refine tr_skip ?_
    refine kr [3] (by simp; rfl) ?_
    refine kc ?_
    refine ko [3, 18] 1 (by simp; rfl) ?_
    replace h0 := bnd h0; obtain ⟨y2, hy2, h0⟩ := h0
    refine kcall [3, 19] [17] (make_Calendar_ok hy2) rfl rfl rfl Try.call9 (by simp) (by simp; rfl) ?_
    refine ko [3, 4] 2 (by simp; rfl) ?_
    refine tops_nil ?_
    refine kc ?_
    refine ko [4, 20] 1 (by simp; rfl) ?_
    replace h0 := bnd h0; obtain ⟨y3, hy3, h0⟩ := h0
    refine kcall [4, 21] [17] (make_Tape_Next_ok hy3) rfl rfl rfl Try.call10 (by simp) (by simp; rfl) ?_
    refine ko [4, 5] 1 (by simp; rfl) ?_
    refine tops_nil ?_
    refine kc ?_
    refine ko [4, 5, 23, 24] 2 (by simp; rfl) ?_
    replace h0 := bnd h0; obtain ⟨y4, hy4, h0⟩ := h0
    refine kcall [4, 5, 25] [] (calendar_Next_ok hy4) rfl rfl rfl Try.call21 (by simp) (by simp; rfl) ?_
    refine ko [4, 5, 6, 7] 5 (by simp; rfl) ?_
    refine tops_nil ?_
    refine tr_seq ?_
    replace h0 := bnd h0; obtain ⟨v5, hvv5, h0⟩ := h0
    refine sjv (fun v5_ : Bool => ({ nt := 67, env := [(4, .ptr 4 0), (5, .d (.int .i64 y3.1)), (6, .d (.int .i64 y4.1)), (40, .d (.bool v5_))], box := [(4, [.d (.int .i64 y2.1.Day), .d (.int .i64 y2.1.From), .d (.int .i64 y2.1.To), .d (.int .i64 y2.1.Week), .d (.slice (rowsF (iRow .i64) y2.1.Holidays))])], vec := [] } : St)) (fun v5_ => v5 = v5_) (fun v5_ e => ?_) ?_
    · subst e
      refine tr_cond (b := v5) (by simp) (fun c6 => ?_) (fun c6 => ?_)
      · rw [if_pos c6] at h0
        refine kr [2] (by simp; rfl) ?_
        cases h0
        exact tr_ret ⟨[], by simp, rfl, by simp⟩
      · rw [if_neg (by rw [c6]; decide)] at h0
        refine tr_skip ?_
        refine tr_seq ?_
        refine kr [4, 5, 6, 8] (by simp; rfl) ?_
        replace h0 := bnd h0; obtain ⟨e1, hI1, h0⟩ := h0
        refine tjv (fun v6 : Unit => ({ nt := 67, env := [(4, .ptr 4 0), (5, .d (.int .i64 y3.1)), (6, .d (.int .i64 y4.1))], box := [(4, [.d (.int .i64 y2.1.Day), .d (.int .i64 y2.1.From), .d (.int .i64 y2.1.To), .d (.int .i64 y2.1.Week), .d (.slice (rowsF (iRow .i64) y2.1.Holidays))])], vec := [] } : St)) (fun v6 => .inl v6 = e1) (fun v6 hI1e _ W1 => ?_) ?_
        · subst hI1e
          dsimp only at h0
          refine tr_wk W1 ?_
          refine kc ?_
          refine ko [6, 51, 52] 2 (by simp; rfl) ?_
          replace h0 := bnd h0; obtain ⟨y7, hy7, h0⟩ := h0
          refine kcall [6, 53] [] (calendar_Add_ok hy7) rfl rfl rfl Try.call19 (by simp) (by simp; rfl) ?_
          refine ko [6, 9, 10] 5 (by simp; rfl) ?_
          refine tops_nil ?_
          replace h0 := bnd h0; obtain ⟨v8, hvv8, h0⟩ := h0
          refine sjv (fun v8_ : Bool => ({ nt := 67, env := [(2, .d (.bool v8_))], box := [], vec := [] } : St)) (fun v8_ => v8 = v8_) (fun v8_ e => ?_) ?_
          · subst e
            cases h0
            exact tr_ret ⟨[], by simp, rfl, by simp⟩
          · refine kc1 ?_
            refine ko [6, 9, 58] 3 (by simp; rfl) ?_
            refine tops_split 58 (y7.2 == 0) (by simp) (fun c15 => ?_) (fun c15 => ?_)
            · rw [if_pos c15] at hvv8
              refine ko [64] 6 (by simp; rfl) ?_
              refine tops_split 64 (y7.1 == (IntKind.i64.wrap (y4.1 + 1))) (by simp) (fun c16 => ?_) (fun c16 => ?_)
              · rw [if_pos c16] at hvv8
                replace hvv8 := bnd hvv8; obtain ⟨y9, hy9, hvv8⟩ := hvv8
                refine kcall [64, 65] [] (law40_awake_ok hy9) rfl rfl rfl Try.call8 (by simp) (by simp; rfl) ?_
                refine ko [2] 2 (by simp; rfl) ?_
                refine tops_nil ?_
                cases hvv8
                exact ⟨_, rfl, wk (by simp [weak_iff])⟩
              · rw [if_neg (by rw [c16]; decide)] at hvv8
                refine ko [2] 3 (by simp; rfl) ?_
                refine tops_nil ?_
                cases hvv8
                exact ⟨_, rfl, wk (by simp [weak_iff])⟩
            · rw [if_neg (by rw [c15]; decide)] at hvv8
              refine ko [2] 9 (by simp; rfl) ?_
              refine tops_nil ?_
              cases hvv8
              exact ⟨_, rfl, wk (by simp [weak_iff])⟩
        · refine tr_block (tr_iter (fun s10 : Int => ({ nt := 67, env := [(4, .ptr 4 0), (5, .d (.int .i64 y3.1)), (6, .d (.int .i64 y4.1)), (8, .d (.int .i64 s10))], box := [(4, [.d (.int .i64 y2.1.Day), .d (.int .i64 y2.1.From), .d (.int .i64 y2.1.To), .d (.int .i64 y2.1.Week), .d (.slice (rowsF (iRow .i64) y2.1.Holidays))])], vec := [] } : St)) hI1 (wk (by simp [weak_iff])) fun G1 s10 o1 h1 hg1 he1 => ?_)
          unfold law40_CalendarNext_l0 at h1
          refine tr_seq ?_
          refine kr [4, 5, 6, 8, 44] (by simp; rfl) ?_
          refine tr_cond (b := (decide (s10 < y4.1))) (by simp) (fun c17 => ?_) (fun c17 => ?_)
          · rw [if_pos c17] at h1
            refine tr_skip ?_
            refine tr_seq ?_
            refine tr_block ?_
            refine kc ?_
            refine ko [4, 5, 6, 8, 47, 48] 2 (by simp; rfl) ?_
            replace h1 := bnd h1; obtain ⟨y11, hy11, h1⟩ := h1
            refine kcall [4, 5, 6, 8, 49] [] (calendar_Working_ok hy11) rfl rfl rfl Try.call17 (by simp) (by simp; rfl) ?_
            refine tops_nil ?_
            refine tr_cond (b := y11) (by simp) (fun c18 => ?_) (fun c18 => ?_)
            · rw [if_pos c18] at h1
              refine kr [2] (by simp; rfl) ?_
              have k1 := he1 _ (Option.some.inj h1)
              subst k1
              dsimp only at h0
              cases h0
              exact tr_ret ⟨[], by simp, rfl, by simp⟩
            · rw [if_neg (by rw [c18]; decide)] at h1
              refine tr_skip ?_
              refine lr (by simp; rfl) ?_
              exact ⟨_, hg1 _ (Option.some.inj h1), wk (by simp [weak_iff])⟩
          · rw [if_neg (by rw [c17]; decide)] at h1
            refine tr_exit ?_
            exact ⟨_, he1 _ (Option.some.inj h1), wk (by simp [weak_iff])⟩
    · refine kc1 ?_
      refine ko [4, 5, 6, 30] 3 (by simp; rfl) ?_
      refine tops_split 30 (y4.2 != 0) (by simp) (fun c19 => ?_) (fun c19 => ?_)
      · rw [if_pos c19] at hvv5
        refine ko [4, 5, 6, 40] 10 (by simp; rfl) ?_
        refine tops_nil ?_
        cases hvv5
        exact ⟨_, rfl, wk (by simp [weak_iff])⟩
      · rw [if_neg (by rw [c19]; decide)] at hvv5
        refine ko [4, 5, 6, 35] 5 (by simp; rfl) ?_
        refine tops_split 35 (decide (y4.1 < y3.1)) (by simp) (fun c20 => ?_) (fun c20 => ?_)
        · rw [if_pos c20] at hvv5
          refine ko [4, 5, 6, 40] 5 (by simp; rfl) ?_
          refine tops_nil ?_
          cases hvv5
          exact ⟨_, rfl, wk (by simp [weak_iff])⟩
        · rw [if_neg (by rw [c20]; decide)] at hvv5
          refine ko [4, 5, 6, 35, 36, 37] 2 (by simp; rfl) ?_
          replace hvv5 := bnd hvv5; obtain ⟨y14, hy14, hvv5⟩ := hvv5
          refine kcall [4, 5, 6, 35, 38] [] (calendar_Working_ok hy14) rfl rfl rfl Try.call17 (by simp) (by simp; rfl) ?_
          refine ko [4, 5, 6, 40] 2 (by simp; rfl) ?_
          refine tops_nil ?_
          cases hvv5
          exact ⟨_, rfl, wk (by simp [weak_iff])⟩
set_option maxHeartbeats 1000000 in
theorem law40_CalendarHolidays_ok {a0 : List Int} {r : Bool} (h0 : law40_CalendarHolidays a0 = some r) : FnOK Try.prog 7 [] [.d (.slice (rowsF (iRow .i64) a0))] (.d (.bool r)) [] := by
  unfold law40_CalendarHolidays at h0
  refine fn_ok (nt := 139) (rs := [.tmp 2]) Try.func7 rfl Try.ntmps7 rfl (by simp) (by decide) rfl fun K => ?_
  refine kr [0] (by simp; rfl) ?_
  refine tr_seq ?_
  refine kr [0, 22] (by simp; rfl) ?_
  refine tr_cond (b := (decide (200 < ((a0).length : Int)))) (by simp) (fun c1 => ?_) (fun c1 => ?_)
  · rw [if_pos c1] at h0
    refine kc ?_
    replace h0 := bnd h0; obtain ⟨y1, hy1, h0⟩ := h0
    refine kcall [23] [] (law40_awake_ok hy1) rfl rfl rfl Try.call8 (by simp) (by simp; rfl) ?_
    refine ko [2] 1 (by simp; rfl) ?_
    refine tops_nil ?_
    cases h0
    exact tr_ret ⟨[], by simp, rfl, by simp⟩
  · rw [if_neg (by rw [c1]; decide)] at h0
    refine tr_skip ?_
    refine kr [3] (by simp; rfl) ?_
    refine kc ?_
    refine ko [3, 27] 1 (by simp; rfl) ?_
    replace h0 := bnd h0; obtain ⟨y2, hy2, h0⟩ := h0
    refine kcall [3, 28] [26] (make_Calendar_ok hy2) rfl rfl rfl Try.call9 (by simp) (by simp; rfl) ?_
    refine ko [3, 4] 2 (by simp; rfl) ?_
    refine tops_nil ?_
    refine kc ?_
    refine ko [3, 4, 29] 1 (by simp; rfl) ?_
    replace h0 := bnd h0; obtain ⟨y3, hy3, h0⟩ := h0
    refine kcall [3, 4, 30] [26] (make_Tape_Next_ok hy3) rfl rfl rfl Try.call10 (by simp) (by simp; rfl) ?_
    refine ko [3, 4, 30, 31] 1 (by simp; rfl) ?_
    replace h0 := bnd h0; obtain ⟨y4, hy4, h0⟩ := h0
    refine kcall [3, 4, 30, 32] [26] (make_Tape_Next_ok hy4) rfl rfl rfl Try.call10 (by simp) (by simp; rfl) ?_
    refine ko [3, 4, 5, 6] 2 (by simp; rfl) ?_
    refine tops_nil ?_
    refine kc ?_
    refine ko [3, 4, 5, 6, 34, 35, 36] 3 (by simp; rfl) ?_
    replace h0 := bnd h0; obtain ⟨y5, hy5, h0⟩ := h0
    refine kcall [3, 4, 5, 6, 37] [] (calendar_Add_ok hy5) rfl rfl rfl Try.call19 (by simp) (by simp; rfl) ?_
    refine ko [3, 4, 5, 6, 7, 8] 5 (by simp; rfl) ?_
    refine tops_nil ?_
    refine kr [3, 4, 5, 6, 7, 8, 9] (by simp; rfl) ?_
    refine sjv (fun v6 : (List Int) => ({ nt := 139, env := [(3, .ptr 26 0), (4, .ptr 4 0), (5, .d (.int .i64 y3.1)), (6, .d (.int .i64 y4.1)), (7, .d (.int .i64 y5.1)), (8, .d (.int .i64 y5.2)), (9, .ptr 9 0)], box := [(4, [.d (.int .i64 y2.1.Day), .d (.int .i64 y2.1.From), .d (.int .i64 y2.1.To), .d (.int .i64 y2.1.Week), .d (.slice (rowsF (iRow .i64) y2.1.Holidays))]), (9, [.d (.int .i64 y2.1.Day), .d (.int .i64 y2.1.From), .d (.int .i64 y2.1.To), .d (.int .i64 y2.1.Week), .d (.slice (rowsF (iRow .i64) v6))]), (26, [.d (.slice (rowsF (iRow .i64) y4.2.L)), .d (.int .i64 y4.2.at_)])], vec := [] } : St)) (fun v6 => law40_CalendarHolidays_j0 y2 y3 y4 y5 v6 = some r) (fun v6 h0 => ?_) ?_
    · unfold law40_CalendarHolidays_j0 at h0
      refine kc ?_
      refine ko [3, 4, 5, 6, 7, 8, 50, 51, 52] 3 (by simp; rfl) ?_
      replace h0 := bnd h0; obtain ⟨y7, hy7, h0⟩ := h0
      refine kcall [3, 4, 5, 6, 7, 8, 53] [] (calendar_Add_ok hy7) rfl rfl rfl Try.call19 (by simp) (by simp; rfl) ?_
      refine ko [3, 4, 5, 6, 7, 8, 10, 11] 5 (by simp; rfl) ?_
      refine tops_nil ?_
      refine kr [3, 4, 5, 6, 7, 8, 10, 11, 12] (by simp; rfl) ?_
      refine kr [3, 4, 5, 6, 7, 8, 10, 11, 12] (by simp; rfl) ?_
      refine kc ?_
      refine ko [3, 4, 5, 6, 7, 8, 10, 11, 12, 59, 60, 61] 3 (by simp; rfl) ?_
      replace h0 := bnd h0; obtain ⟨y8, hy8, h0⟩ := h0
      refine kcall [3, 4, 5, 6, 7, 8, 10, 11, 12, 62] [] (calendar_Add_ok hy8) rfl rfl rfl Try.call19 (by simp) (by simp; rfl) ?_
      refine ko [3, 4, 5, 6, 7, 8, 10, 11, 12, 13, 14] 5 (by simp; rfl) ?_
      refine tops_nil ?_
      refine kc ?_
      refine ko [3, 4, 7, 8, 10, 11, 13, 14, 66, 71, 72] 7 (by simp; rfl) ?_
      replace h0 := bnd h0; obtain ⟨y9, hy9, h0⟩ := h0
      refine kcall [3, 4, 7, 8, 10, 11, 13, 14, 73] [] (calendar_Add_ok hy9) rfl rfl rfl Try.call19 (by simp) (by simp; rfl) ?_
      refine ko [3, 4, 7, 8, 10, 11, 13, 14, 15, 16] 5 (by simp; rfl) ?_
      refine tops_nil ?_
      refine tr_seq ?_
      replace h0 := bnd h0; obtain ⟨v10, hvv10, h0⟩ := h0
      refine sjv (fun v10_ : Bool => ({ nt := 139, env := [(3, .ptr 26 0), (4, .ptr 4 0), (108, .d (.bool v10_))], box := [(4, [.d (.int .i64 y2.1.Day), .d (.int .i64 y2.1.From), .d (.int .i64 y2.1.To), .d (.int .i64 y2.1.Week), .d (.slice (rowsF (iRow .i64) y2.1.Holidays))]), (26, [.d (.slice (rowsF (iRow .i64) y4.2.L)), .d (.int .i64 y4.2.at_)])], vec := [] } : St)) (fun v10_ => v10 = v10_) (fun v10_ e => ?_) ?_
      · subst e
        refine tr_cond (b := v10) (by simp) (fun c15 => ?_) (fun c15 => ?_)
        · rw [if_pos c15] at h0
          refine kr [2] (by simp; rfl) ?_
          cases h0
          exact tr_ret ⟨[], by simp, rfl, by simp⟩
        · rw [if_neg (by rw [c15]; decide)] at h0
          refine tr_skip ?_
          refine kc ?_
          refine ko [4, 109] 1 (by simp; rfl) ?_
          replace h0 := bnd h0; obtain ⟨y11, hy11, h0⟩ := h0
          refine kcall [4, 110] [26] (make_Tape_Next_ok hy11) rfl rfl rfl Try.call10 (by simp) (by simp; rfl) ?_
          refine ko [4, 17] 1 (by simp; rfl) ?_
          refine tops_nil ?_
          refine kc ?_
          refine ko [4, 17, 111, 118] 8 (by simp; rfl) ?_
          replace h0 := bnd h0; obtain ⟨y12, hy12, h0⟩ := h0
          refine kcall [4, 17, 119] [] (calendar_Working_ok hy12) rfl rfl rfl Try.call17 (by simp) (by simp; rfl) ?_
          refine ko [4, 17, 18] 1 (by simp; rfl) ?_
          refine tops_nil ?_
          refine tr_seq ?_
          refine kr [4, 17, 18, 19] (by simp; rfl) ?_
          replace h0 := bnd h0; obtain ⟨e1, hI1, h0⟩ := h0
          refine tjv (fun v13 : Unit => ({ nt := 139, env := [], box := [], vec := [] } : St)) (fun v13 => .inl v13 = e1) (fun v13 hI1e _ W1 => ?_) ?_
          · subst hI1e
            dsimp only at h0
            refine tr_wk W1 ?_
            refine kc ?_
            replace h0 := bnd h0; obtain ⟨y14, hy14, h0⟩ := h0
            refine kcall [138] [] (law40_awake_ok hy14) rfl rfl rfl Try.call8 (by simp) (by simp; rfl) ?_
            refine ko [2] 1 (by simp; rfl) ?_
            refine tops_nil ?_
            cases h0
            exact tr_ret ⟨[], by simp, rfl, by simp⟩
          · refine tr_block (tr_iter (fun s15 : Int => ({ nt := 139, env := [(4, .ptr 4 0), (17, .d (.int .i64 y11.1)), (18, .d (.bool y12)), (19, .d (.int .i64 s15))], box := [(4, [.d (.int .i64 y2.1.Day), .d (.int .i64 y2.1.From), .d (.int .i64 y2.1.To), .d (.int .i64 y2.1.Week), .d (.slice (rowsF (iRow .i64) y2.1.Holidays))])], vec := [] } : St)) hI1 (wk (by simp [weak_iff])) fun G1 s15 o1 h1 hg1 he1 => ?_)
            unfold law40_CalendarHolidays_l1 at h1
            refine tr_seq ?_
            refine kr [4, 17, 18, 19, 125] (by simp; rfl) ?_
            refine tr_cond (b := (decide (s15 < y2.1.To))) (by simp) (fun c20 => ?_) (fun c20 => ?_)
            · rw [if_pos c20] at h1
              refine tr_skip ?_
              refine tr_seq ?_
              refine tr_block ?_
              refine kc ?_
              refine ko [4, 17, 18, 19, 128, 134] 7 (by simp; rfl) ?_
              replace h1 := bnd h1; obtain ⟨y16, hy16, h1⟩ := h1
              refine kcall [4, 17, 18, 19, 135] [] (calendar_Working_ok hy16) rfl rfl rfl Try.call17 (by simp) (by simp; rfl) ?_
              refine ko [4, 17, 18, 19, 137] 2 (by simp; rfl) ?_
              refine tops_nil ?_
              refine tr_cond (b := (y16 != y12)) (by simp) (fun c21 => ?_) (fun c21 => ?_)
              · rw [if_pos c21] at h1
                refine kr [2] (by simp; rfl) ?_
                have k1 := he1 _ (Option.some.inj h1)
                subst k1
                dsimp only at h0
                cases h0
                exact tr_ret ⟨[], by simp, rfl, by simp⟩
              · rw [if_neg (by rw [c21]; decide)] at h1
                refine tr_skip ?_
                refine lr (by simp; rfl) ?_
                exact ⟨_, hg1 _ (Option.some.inj h1), wk (by simp [weak_iff])⟩
            · rw [if_neg (by rw [c20]; decide)] at h1
              refine tr_exit ?_
              exact ⟨_, he1 _ (Option.some.inj h1), wk (by simp [weak_iff])⟩
      · refine kc1 ?_
        refine ko [3, 4, 7, 10, 11, 13, 14, 15, 16, 78] 3 (by simp; rfl) ?_
        refine tops_split 78 (y5.2 != 0) (by simp) (fun c22 => ?_) (fun c22 => ?_)
        · rw [c22] at hvv10
          refine ko [3, 4, 108] 30 (by simp; rfl) ?_
          refine tops_nil ?_
          cases hvv10
          exact ⟨_, rfl, wk (by simp [weak_iff])⟩
        · rw [c22] at hvv10
          refine ko [3, 4, 7, 10, 13, 14, 15, 16, 82] 4 (by simp; rfl) ?_
          refine tops_split 82 (y7.2 != 0) (by simp) (fun c23 => ?_) (fun c23 => ?_)
          · rw [c23] at hvv10
            refine ko [3, 4, 108] 26 (by simp; rfl) ?_
            refine tops_nil ?_
            cases hvv10
            exact ⟨_, rfl, wk (by simp [weak_iff])⟩
          · rw [c23] at hvv10
            refine ko [3, 4, 7, 10, 13, 15, 16, 86] 4 (by simp; rfl) ?_
            refine tops_split 86 (y8.2 != 0) (by simp) (fun c24 => ?_) (fun c24 => ?_)
            · rw [c24] at hvv10
              refine ko [3, 4, 108] 22 (by simp; rfl) ?_
              refine tops_nil ?_
              cases hvv10
              exact ⟨_, rfl, wk (by simp [weak_iff])⟩
            · rw [c24] at hvv10
              refine ko [3, 4, 7, 10, 13, 15, 90] 4 (by simp; rfl) ?_
              refine tops_split 90 (y9.2 != 0) (by simp) (fun c25 => ?_) (fun c25 => ?_)
              · rw [c25] at hvv10
                refine ko [3, 4, 108] 18 (by simp; rfl) ?_
                refine tops_nil ?_
                cases hvv10
                exact ⟨_, rfl, wk (by simp [weak_iff])⟩
              · rw [c25] at hvv10
                refine ko [3, 4, 10, 13, 15, 95] 5 (by simp; rfl) ?_
                refine tops_split 95 (decide (y5.1 < y7.1)) (by simp) (fun c26 => ?_) (fun c26 => ?_)
                · rw [c26] at hvv10
                  refine ko [3, 4, 108] 13 (by simp; rfl) ?_
                  refine tops_nil ?_
                  cases hvv10
                  exact ⟨_, rfl, wk (by simp [weak_iff])⟩
                · rw [c26] at hvv10
                  refine ko [3, 4, 13, 15, 100] 5 (by simp; rfl) ?_
                  refine tops_split 100 (decide (y7.1 < y8.1)) (by simp) (fun c27 => ?_) (fun c27 => ?_)
                  · rw [c27] at hvv10
                    refine ko [3, 4, 108] 8 (by simp; rfl) ?_
                    refine tops_nil ?_
                    cases hvv10
                    exact ⟨_, rfl, wk (by simp [weak_iff])⟩
                  · rw [c27] at hvv10
                    refine ko [3, 4, 108] 8 (by simp; rfl) ?_
                    refine tops_nil ?_
                    cases hvv10
                    exact ⟨_, rfl, wk (by simp [weak_iff])⟩
    · refine kr [3, 4, 5, 6, 7, 8, 9, 44] (by simp; rfl) ?_
      refine tr_cond (b := (decide (0 < ((y2.1.Holidays).length : Int)))) (by simp) (fun c28 => ?_) (fun c28 => ?_)
      · rw [if_pos c28] at h0
        replace h0 := bnd h0; obtain ⟨_, p2, h0⟩ := h0
        replace p2 := ck_some p2
        have p2' := p2; try simp at p2'
        refine lr (by simp [p2, p2']; rfl) ?_
        exact ⟨_, h0, wk (by simp [weak_iff])⟩
      · rw [if_neg (by rw [c28]; decide)] at h0
        refine tr_skip ?_
        exact ⟨_, h0, wk (by simp [weak_iff])⟩
end Go.Vl
