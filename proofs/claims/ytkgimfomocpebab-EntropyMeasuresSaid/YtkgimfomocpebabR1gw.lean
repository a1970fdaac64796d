/- Walks: each function of the given program computes what its mirror says. Conditions: none. -/
import Derived.Test.YtkgimfomocpebabR1gm
import Derived.Test.YtkgimfomocpebabR1ew
set_option linter.unusedSimpArgs false
set_option linter.unusedVariables false
namespace Go.Vl
open Go Go.Proofs
set_option maxHeartbeats 1000000 in
theorem ref02_Counts_ok {a0 : List Int} {r : (List Int)} (h0 : ref02_Counts a0 = some r) : FnOK Try.prog 13 [] [.d (.slice (rowsF (iRow .u8) a0))] (.agg (arC (iRow .i64) r)) [] := by
  unfold ref02_Counts at h0
  refine fn_ok (nt := 24) (rs := [.cell 2 28]) Try.func13 rfl Try.ntmps13 rfl (by simp) (by decide) rfl fun K => ?_
  refine kr [0, 2] (by simp; rfl) ?_
  refine kr [0, 2, 3] (by simp; rfl) ?_
  refine tr_seq ?_
  refine kr [0, 2, 3, 7] (by simp; rfl) ?_
  refine tr_cond (b := (decide (65536 < ((a0).length : Int)))) (by simp) (fun c1 => ?_) (fun c1 => ?_)
  · rw [if_pos c1] at h0
    refine kr [2] (by simp [arC_take (zerosI_length 256), arC_drop (zerosI_length 256)]; rfl) ?_
    cases h0
    exact tr_ret ⟨[], by simp [arC_take (zerosI_length 256), arC_drop (zerosI_length 256)], by simp, by simp [arC_take (zerosI_length 256), arC_drop (zerosI_length 256)]⟩
  · rw [if_neg (by rw [c1]; decide)] at h0
    refine tr_skip ?_
    refine tr_seq ?_
    refine kr [0, 2, 3, 4] (by simp; rfl) ?_
    replace h0 := bnd h0; obtain ⟨e1, hI1, h0⟩ := h0
    refine tjv (fun v1 : (List Int) => ({ nt := 24, env := [(2, .ptr 2 0), (3, .ptr 3 0)], box := [(2, arC (iRow .i64) (zerosI 256)), (3, arC (iRow .i64) v1)], vec := [] } : St)) (fun v1 => v1 = e1) (fun v1 hI1e _ W1 => ?_) ?_
    · subst hI1e
      refine tr_wk W1 ?_
      replace h0 := bnd h0; obtain ⟨_, p11, h0⟩ := h0
      replace p11 := ck_some p11
      have p11' := p11; try simp at p11'
      replace h0 := bnd h0; obtain ⟨_, p12, h0⟩ := h0
      replace p12 := ck_some p12
      have p12' := p12; try simp at p12'
      refine kr [2] (by simp [p11, arC_take p11, arC_drop p11, arC_take (zerosI_length 256), arC_drop (zerosI_length 256), p12, arC_take p12, arC_drop p12, p11', p12']; rfl) ?_
      replace h0 := bnd h0; obtain ⟨_, p13, h0⟩ := h0
      replace p13 := ck_some p13
      have p13' := p13; try simp at p13'
      cases h0
      exact tr_ret ⟨[], by simp [p13, arC_take p13, arC_drop p13, p13'], by simp, by simp [p13, arC_take p13, arC_drop p13, p13']⟩
    · refine tr_block (tr_iter (fun s2 : Int × (List Int) => ({ nt := 24, env := [(0, .d (.slice (rowsF (iRow .u8) a0))), (2, .ptr 2 0), (3, .ptr 3 0), (4, .d (.int .i64 s2.1))], box := [(2, arC (iRow .i64) (zerosI 256)), (3, arC (iRow .i64) s2.2)], vec := [] } : St)) hI1 (wk (by simp [weak_iff])) fun G1 s2 o1 h1 hg1 he1 => ?_)
      unfold ref02_Counts_l0 at h1
      refine tr_seq ?_
      refine kr [0, 2, 3, 4, 12] (by simp; rfl) ?_
      refine tr_cond (b := (decide (s2.1 < ((a0).length : Int)))) (by simp) (fun c4 => ?_) (fun c4 => ?_)
      · rw [if_pos c4] at h1
        refine tr_skip ?_
        refine tr_seq ?_
        refine tr_block ?_
        replace h1 := bnd h1; obtain ⟨x3, p14, h1⟩ := h1
        replace p14 := idx_some p14
        have p14' := p14; try simp at p14'
        replace h1 := bnd h1; obtain ⟨_, p15, h1⟩ := h1
        replace p15 := ck_some p15
        have p15' := p15; try simp at p15'
        replace h1 := bnd h1; obtain ⟨x4, p16, h1⟩ := h1
        replace p16 := idx_some p16
        have p16' := p16; try simp at p16'
        replace h1 := bnd h1; obtain ⟨_, p17, h1⟩ := h1
        replace p17 := ck_some p17
        have p17' := p17; try simp at p17'
        replace h1 := bnd h1; obtain ⟨_, p18, h1⟩ := h1
        replace p18 := ck_some p18
        refine lr (by simp [p14, p15, p16, p17, show (Int.toNat x3) + 1 ≤ (s2.2).length from p18, arC_put p18, p14', p15', p16', p17']; rfl) ?_
        refine lr (by simp; rfl) ?_
        exact ⟨_, hg1 _ (Option.some.inj h1), wk (by simp [weak_iff])⟩
      · rw [if_neg (by rw [c4]; decide)] at h1
        refine tr_exit ?_
        exact ⟨_, he1 _ (Option.some.inj h1), wk (by simp [weak_iff])⟩
set_option maxHeartbeats 1000000 in
theorem ref02_Log_ok {a0 : Int} {r : Int} (h0 : ref02_Log a0 = some r) : FnOK Try.prog 38 [] [.d (.int .i64 a0)] (.d (.int .i64 r)) [] := by
  unfold ref02_Log at h0
  refine fn_ok (nt := 41) (rs := [.tmp 2]) Try.func38 rfl Try.ntmps38 rfl (by simp) (by decide) rfl fun K => ?_
  refine kr [0] (by simp; rfl) ?_
  refine tr_seq ?_
  replace h0 := bnd h0; obtain ⟨v1, hvv1, h0⟩ := h0
  refine sjv (fun v1_ : Bool => ({ nt := 41, env := [(0, .d (.int .i64 a0)), (12, .d (.bool v1_))], box := [], vec := [] } : St)) (fun v1_ => v1 = v1_) (fun v1_ e => ?_) ?_
  · subst e
    refine tr_cond (b := v1) (by simp) (fun c3 => ?_) (fun c3 => ?_)
    · rw [if_pos c3] at h0
      refine kr [2] (by simp; rfl) ?_
      cases h0
      exact tr_ret ⟨[], by simp, rfl, by simp⟩
    · rw [if_neg (by rw [c3]; decide)] at h0
      refine tr_skip ?_
      refine kr [0, 3] (by simp; rfl) ?_
      replace h0 := bnd h0; obtain ⟨e1, hI1, h0⟩ := h0
      refine sjv (fun v2 : Int => ({ nt := 41, env := [(0, .d (.int .i64 a0)), (3, .d (.int .i64 v2))], box := [], vec := [] } : St)) (fun v2 => v2 = e1) (fun v2 hI1e => ?_) ?_
      · subst hI1e
        replace h0 := bnd h0; obtain ⟨_, p2, h0⟩ := h0
        replace p2 := ck_some p2
        have p2' := p2; try simp at p2'
        refine kr [4, 5] (by simp [p2, p2']; rfl) ?_
        refine tr_seq ?_
        refine kr [4, 5, 6] (by simp; rfl) ?_
        replace h0 := bnd h0; obtain ⟨e2, hI2, h0⟩ := h0
        refine tjv (fun v3 : Int => ({ nt := 41, env := [(5, .d (.int .i64 v3))], box := [], vec := [] } : St)) (fun v3 => v3 = e2) (fun v3 hI2e _ W2 => ?_) ?_
        · subst hI2e
          refine tr_wk W2 ?_
          refine kr [2] (by simp; rfl) ?_
          cases h0
          exact tr_ret ⟨[], by simp, rfl, by simp⟩
        · refine tr_block (tr_iter (fun s4 : Int × Int × Int => ({ nt := 41, env := [(4, .d (.int .i64 s4.1)), (5, .d (.int .i64 s4.2.1)), (6, .d (.int .i64 s4.2.2))], box := [], vec := [] } : St)) hI2 (wk (by simp [weak_iff])) fun G2 s4 o2 h2 hg2 he2 => ?_)
          unfold ref02_Log_l1 at h2
          refine tr_seq ?_
          refine kr [4, 5, 6, 25] (by simp; rfl) ?_
          refine tr_cond (b := (decide (s4.2.2 < 16))) (by simp) (fun c10 => ?_) (fun c10 => ?_)
          · rw [if_pos c10] at h2
            refine tr_skip ?_
            refine tr_seq ?_
            refine tr_block ?_
            refine kr [4, 5, 6] (by simp; rfl) ?_
            refine kr [4, 5, 6] (by simp; rfl) ?_
            refine kr [4, 5, 6, 35] (by simp; rfl) ?_
            refine tr_cond (b := (decide (2147483648 ≤ (((IntKind.i64.wrap (s4.1 * s4.1))).fdiv (2 ^ (min 30 IntKind.i64.bits)))))) (by simp) (fun c11 => ?_) (fun c11 => ?_)
            · rw [if_pos c11] at h2
              refine kr [4, 5, 6] (by simp; rfl) ?_
              refine lr (by simp; rfl) ?_
              refine lr (by simp; rfl) ?_
              exact ⟨_, hg2 _ (Option.some.inj h2), wk (by simp [weak_iff])⟩
            · rw [if_neg (by rw [c11]; decide)] at h2
              refine tr_skip ?_
              refine lr (by simp; rfl) ?_
              exact ⟨_, hg2 _ (Option.some.inj h2), wk (by simp [weak_iff])⟩
          · rw [if_neg (by rw [c10]; decide)] at h2
            refine tr_exit ?_
            exact ⟨_, he2 _ (Option.some.inj h2), wk (by simp [weak_iff])⟩
      · refine tr_block (tr_iter (fun s5 : Int => ({ nt := 41, env := [(0, .d (.int .i64 a0)), (3, .d (.int .i64 s5))], box := [], vec := [] } : St)) hI1 (wk (by simp [weak_iff])) fun G2 s5 o2 h2 hg2 he2 => ?_)
        unfold ref02_Log_l0 at h2
        refine tr_seq ?_
        replace h2 := bnd h2; obtain ⟨_, p3, h2⟩ := h2
        replace p3 := ck_some p3
        have p3' := p3; try simp at p3'
        refine kr [0, 3, 16] (by simp [p3, p3']; rfl) ?_
        refine tr_cond (b := (decide ((IntKind.i64.wrap (2 * 2 ^ (min (Int.toNat s5) IntKind.i64.bits))) ≤ a0))) (by simp) (fun c12 => ?_) (fun c12 => ?_)
        · rw [if_pos c12] at h2
          refine tr_skip ?_
          refine tr_block ?_
          refine lr (by simp; rfl) ?_
          exact ⟨_, hg2 _ (Option.some.inj h2), wk (by simp [weak_iff])⟩
        · rw [if_neg (by rw [c12]; decide)] at h2
          refine tr_exit ?_
          exact ⟨_, he2 _ (Option.some.inj h2), wk (by simp [weak_iff])⟩
  · refine kc1 ?_
    refine ko [0, 9] 3 (by simp; rfl) ?_
    refine tops_split 9 (decide (a0 < 1)) (by simp) (fun c13 => ?_) (fun c13 => ?_)
    · rw [c13] at hvv1
      refine ko [0, 12] 3 (by simp; rfl) ?_
      refine tops_nil ?_
      cases hvv1
      exact ⟨_, rfl, wk (by simp [weak_iff])⟩
    · rw [c13] at hvv1
      refine ko [0, 12] 3 (by simp; rfl) ?_
      refine tops_nil ?_
      cases hvv1
      exact ⟨_, rfl, wk (by simp [weak_iff])⟩
set_option maxHeartbeats 1000000 in
theorem ref02_Measure_ok {a0 : List Int} {r : Int} (h0 : ref02_Measure a0 = some r) : FnOK Try.prog 15 [] [.d (.slice (rowsF (iRow .u8) a0))] (.d (.int .i64 r)) [] := by
  unfold ref02_Measure at h0
  refine fn_ok (nt := 34) (rs := [.tmp 2]) Try.func15 rfl Try.ntmps15 rfl (by simp) (by decide) rfl fun K => ?_
  refine kr [0] (by simp; rfl) ?_
  refine tr_seq ?_
  refine kr [0, 8] (by simp; rfl) ?_
  refine tr_cond (b := (decide (65536 < ((a0).length : Int)))) (by simp) (fun c1 => ?_) (fun c1 => ?_)
  · rw [if_pos c1] at h0
    refine kr [2] (by simp; rfl) ?_
    cases h0
    exact tr_ret ⟨[], by simp, rfl, by simp⟩
  · rw [if_neg (by rw [c1]; decide)] at h0
    refine tr_skip ?_
    refine kc ?_
    refine ko [0, 9] 1 (by simp; rfl) ?_
    replace h0 := bnd h0; obtain ⟨y1, hy1, h0⟩ := h0
    refine kcall [0, 10] [] (ref02_Counts_ok hy1) rfl rfl rfl Try.call13 (by simp) (by simp; rfl) ?_
    replace h0 := bnd h0; obtain ⟨_, p1, h0⟩ := h0
    replace p1 := ck_some p1
    have p1' := p1; try simp at p1'
    refine ko [0, 3] 2 (by simp [arC_take (zerosI_length 256), arC_drop (zerosI_length 256), p1, arC_take p1, arC_drop p1, p1']; rfl) ?_
    refine tops_nil ?_
    refine kr [0, 3, 4] (by simp; rfl) ?_
    refine tr_seq ?_
    refine kr [0, 3, 4, 5] (by simp; rfl) ?_
    replace h0 := bnd h0; obtain ⟨e1, hI1, h0⟩ := h0
    refine tjv (fun v2 : Int => ({ nt := 34, env := [(4, .d (.int .i64 v2))], box := [], vec := [] } : St)) (fun v2 => v2 = e1) (fun v2 hI1e _ W1 => ?_) ?_
    · subst hI1e
      refine tr_wk W1 ?_
      refine kr [2] (by simp; rfl) ?_
      cases h0
      exact tr_ret ⟨[], by simp, rfl, by simp⟩
    · refine tr_block (tr_iter (fun s3 : Int × Int => ({ nt := 34, env := [(0, .d (.slice (rowsF (iRow .u8) a0))), (3, .ptr 3 0), (4, .d (.int .i64 s3.1)), (5, .d (.int .i64 s3.2))], box := [(3, arC (iRow .i64) y1)], vec := [] } : St)) hI1 (wk (by simp [weak_iff])) fun G1 s3 o1 h1 hg1 he1 => ?_)
      unfold ref02_Measure_l0 at h1
      refine tr_seq ?_
      refine kr [0, 3, 4, 5, 12] (by simp; rfl) ?_
      refine tr_cond (b := (decide (s3.2 < 256))) (by simp) (fun c6 => ?_) (fun c6 => ?_)
      · rw [if_pos c6] at h1
        refine tr_skip ?_
        refine tr_seq ?_
        refine tr_block ?_
        replace h1 := bnd h1; obtain ⟨_, p22, h1⟩ := h1
        replace p22 := ck_some p22
        have p22' := p22; try simp at p22'
        replace h1 := bnd h1; obtain ⟨x4, p23, h1⟩ := h1
        replace p23 := idx_some p23
        have p23' := p23; try simp at p23'
        refine kr [0, 3, 4, 5, 18] (by simp [p22, p23, p22', p23']; rfl) ?_
        refine tr_cond (b := (decide (0 < x4))) (by simp) (fun c7 => ?_) (fun c7 => ?_)
        · rw [if_pos c7] at h1
          refine kd1 [[], [], [1], [2], [], [4], [5], [], [7], [8], [5, 9], [5, 6, 10], [3, 5, 11], [0, 5, 12], [0, 5, 13]] [] [] 15 fol (by decide +kernel) ?_
          replace h1 := bnd h1; obtain ⟨_, p28, h1⟩ := h1
          replace p28 := ck_some p28
          have p28' := p28; try simp at p28'
          replace h1 := bnd h1; obtain ⟨x5, p29, h1⟩ := h1
          replace p29 := idx_some p29
          have p29' := p29; try simp at p29'
          refine dr_go 0 6 rfl (by simp (maxSteps := 1000000) [p28, p29, p28', p29']; rfl) ?_
          replace h1 := bnd h1; obtain ⟨y6, hy6, h1⟩ := h1
          refine dr_call 6 [] (ref02_Log_ok hy6) rfl rfl rfl rfl rfl Try.call38 (by simp) ?_
          replace h1 := bnd h1; obtain ⟨_, p30, h1⟩ := h1
          replace p30 := ck_some p30
          have p30' := p30; try simp at p30'
          replace h1 := bnd h1; obtain ⟨x7, p31, h1⟩ := h1
          replace p31 := idx_some p31
          have p31' := p31; try simp at p31'
          refine dr_go 7 3 rfl (by simp (maxSteps := 1000000) [p30, p31, p30', p31']; rfl) ?_
          replace h1 := bnd h1; obtain ⟨y8, hy8, h1⟩ := h1
          refine dr_call 10 [] (ref02_Log_ok hy8) rfl rfl rfl rfl rfl Try.call38 (by simp) ?_
          refine dr_go 11 4 rfl (by simp (maxSteps := 1000000); rfl) ?_
          refine dr_end rfl (tops_nil ?_)
          refine lr (by simp; rfl) ?_
          exact ⟨_, hg1 _ (Option.some.inj h1), wk (by simp [weak_iff])⟩
        · rw [if_neg (by rw [c7]; decide)] at h1
          refine tr_skip ?_
          refine lr (by simp; rfl) ?_
          exact ⟨_, hg1 _ (Option.some.inj h1), wk (by simp [weak_iff])⟩
      · rw [if_neg (by rw [c6]; decide)] at h1
        refine tr_exit ?_
        exact ⟨_, he1 _ (Option.some.inj h1), wk (by simp [weak_iff])⟩
set_option maxHeartbeats 1000000 in
theorem ref02_Distinct_ok {a0 : List Int} {r : Int} (h0 : ref02_Distinct a0 = some r) : FnOK Try.prog 16 [] [.d (.slice (rowsF (iRow .u8) a0))] (.d (.int .i64 r)) [] := by
  unfold ref02_Distinct at h0
  refine fn_ok (nt := 19) (rs := [.tmp 2]) Try.func16 rfl Try.ntmps16 rfl (by simp) (by decide) rfl fun K => ?_
  refine kr [0] (by simp; rfl) ?_
  refine kc ?_
  refine ko [6] 1 (by simp; rfl) ?_
  replace h0 := bnd h0; obtain ⟨y1, hy1, h0⟩ := h0
  refine kcall [7] [] (ref02_Counts_ok hy1) rfl rfl rfl Try.call13 (by simp) (by simp; rfl) ?_
  replace h0 := bnd h0; obtain ⟨_, p1, h0⟩ := h0
  replace p1 := ck_some p1
  have p1' := p1; try simp at p1'
  refine ko [3] 2 (by simp [arC_take (zerosI_length 256), arC_drop (zerosI_length 256), p1, arC_take p1, arC_drop p1, p1']; rfl) ?_
  refine tops_nil ?_
  refine kr [3, 4] (by simp; rfl) ?_
  refine tr_seq ?_
  refine kr [3, 4, 5] (by simp; rfl) ?_
  replace h0 := bnd h0; obtain ⟨e1, hI1, h0⟩ := h0
  refine tjv (fun v2 : Int => ({ nt := 19, env := [(4, .d (.int .i64 v2))], box := [], vec := [] } : St)) (fun v2 => v2 = e1) (fun v2 hI1e _ W1 => ?_) ?_
  · subst hI1e
    refine tr_wk W1 ?_
    refine kr [2] (by simp; rfl) ?_
    cases h0
    exact tr_ret ⟨[], by simp, rfl, by simp⟩
  · refine tr_block (tr_iter (fun s3 : Int × Int => ({ nt := 19, env := [(3, .ptr 3 0), (4, .d (.int .i64 s3.1)), (5, .d (.int .i64 s3.2))], box := [(3, arC (iRow .i64) y1)], vec := [] } : St)) hI1 (wk (by simp [weak_iff])) fun G1 s3 o1 h1 hg1 he1 => ?_)
    unfold ref02_Distinct_l0 at h1
    refine tr_seq ?_
    refine kr [3, 4, 5, 9] (by simp; rfl) ?_
    refine tr_cond (b := (decide (s3.2 < 256))) (by simp) (fun c5 => ?_) (fun c5 => ?_)
    · rw [if_pos c5] at h1
      refine tr_skip ?_
      refine tr_seq ?_
      refine tr_block ?_
      replace h1 := bnd h1; obtain ⟨_, p6, h1⟩ := h1
      replace p6 := ck_some p6
      have p6' := p6; try simp at p6'
      replace h1 := bnd h1; obtain ⟨x4, p7, h1⟩ := h1
      replace p7 := idx_some p7
      have p7' := p7; try simp at p7'
      refine kr [3, 4, 5, 15] (by simp [p6, p7, p6', p7']; rfl) ?_
      refine tr_cond (b := (decide (0 < x4))) (by simp) (fun c6 => ?_) (fun c6 => ?_)
      · rw [if_pos c6] at h1
        refine lr (by simp; rfl) ?_
        refine lr (by simp; rfl) ?_
        exact ⟨_, hg1 _ (Option.some.inj h1), wk (by simp [weak_iff])⟩
      · rw [if_neg (by rw [c6]; decide)] at h1
        refine tr_skip ?_
        refine lr (by simp; rfl) ?_
        exact ⟨_, hg1 _ (Option.some.inj h1), wk (by simp [weak_iff])⟩
    · rw [if_neg (by rw [c5]; decide)] at h1
      refine tr_exit ?_
      exact ⟨_, he1 _ (Option.some.inj h1), wk (by simp [weak_iff])⟩
set_option maxHeartbeats 1000000 in
theorem entropy_Mean_ok {a0 : List Int} {r : Int} (h0 : entropy_Mean a0 = some r) : FnOK Try.prog 17 [] [.d (.slice (rowsF (iRow .u8) a0))] (.d (.int .i64 r)) [] := by
  unfold entropy_Mean at h0
  refine fn_ok (nt := 9) (rs := [.tmp 2]) Try.func17 rfl Try.ntmps17 rfl (by simp) (by decide) rfl fun K => ?_
  refine kr [0] (by simp; rfl) ?_
  refine kc ?_
  refine ko [0, 3] 1 (by simp; rfl) ?_
  replace h0 := bnd h0; obtain ⟨y1, hy1, h0⟩ := h0
  refine kcall [0, 4] [] (entropy_Measure_ok hy1) rfl rfl rfl Try.call14 (by simp) (by simp; rfl) ?_
  replace h0 := bnd h0; obtain ⟨_, p1, h0⟩ := h0
  replace p1 := ck_some p1
  have p1' := p1; try simp at p1'
  refine ko [2] 5 (by simp [p1, p1']; rfl) ?_
  refine tops_nil ?_
  cases h0
  exact tr_ret ⟨[], by simp, rfl, by simp⟩
set_option maxHeartbeats 1000000 in
theorem ref02_Mean_ok {a0 : List Int} {r : Int} (h0 : ref02_Mean a0 = some r) : FnOK Try.prog 18 [] [.d (.slice (rowsF (iRow .u8) a0))] (.d (.int .i64 r)) [] := by
  unfold ref02_Mean at h0
  refine fn_ok (nt := 11) (rs := [.tmp 2]) Try.func18 rfl Try.ntmps18 rfl (by simp) (by decide) rfl fun K => ?_
  refine kr [0] (by simp; rfl) ?_
  refine tr_seq ?_
  refine kr [0, 5] (by simp; rfl) ?_
  refine tr_cond (b := (((a0).length : Int) == 0)) (by simp) (fun c1 => ?_) (fun c1 => ?_)
  · rw [if_pos c1] at h0
    refine kr [2] (by simp; rfl) ?_
    cases h0
    exact tr_ret ⟨[], by simp, rfl, by simp⟩
  · rw [if_neg (by rw [c1]; decide)] at h0
    refine tr_skip ?_
    refine kc ?_
    refine ko [0, 6] 1 (by simp; rfl) ?_
    replace h0 := bnd h0; obtain ⟨y1, hy1, h0⟩ := h0
    refine kcall [0, 7] [] (ref02_Measure_ok hy1) rfl rfl rfl Try.call15 (by simp) (by simp; rfl) ?_
    replace h0 := bnd h0; obtain ⟨_, p1, h0⟩ := h0
    replace p1 := ck_some p1
    have p1' := p1; try simp at p1'
    refine ko [2] 4 (by simp [p1, p1']; rfl) ?_
    refine tops_nil ?_
    cases h0
    exact tr_ret ⟨[], by simp, rfl, by simp⟩
set_option maxHeartbeats 1000000 in
theorem law02_EntropyMeasures_ok {a0 : List Int} {a1 : List Int} {r : Bool} (h0 : law02_EntropyMeasures a0 a1 = some r) : FnOK Try.prog 4 [] [.d (.slice (rowsF (iRow .i64) a0)), .d (.slice (rowsF (iRow .u8) a1))] (.d (.bool r)) [] := by
  unfold law02_EntropyMeasures at h0
  refine fn_ok (nt := 58) (rs := [.tmp 4]) Try.func4 rfl Try.ntmps4 rfl (by simp) (by decide) rfl fun K => ?_
  refine kr [0, 1] (by simp; rfl) ?_
  refine kr [1, 5] (by simp; rfl) ?_
  refine kc ?_
  refine ko [12, 13, 14] 3 (by simp; rfl) ?_
  replace h0 := bnd h0; obtain ⟨y1, hy1, h0⟩ := h0
  refine kcall [12, 13, 15] [11] (make_Tape_Next_ok hy1) rfl rfl rfl Try.call12 (by simp) (by simp; rfl) ?_
  replace h0 := bnd h0; obtain ⟨y2, hy2, h0⟩ := h0
  refine kcall [12, 16] [11] (make_Bytes_ok hy2) rfl rfl rfl Try.call8 (by simp) (by simp; rfl) ?_
  refine ko [6] 2 (by simp; rfl) ?_
  refine tops_nil ?_
  refine tr_seq ?_
  refine kr [6, 7] (by simp; rfl) ?_
  replace h0 := bnd h0; obtain ⟨l3, hl3, h0⟩ := h0
  replace hl3 := Option.some.inj hl3
  replace h0 := bnd h0; obtain ⟨e1, hI1, h0⟩ := h0
  refine tjv (fun v4 : Unit => ({ nt := 58, env := [], box := [], vec := [] } : St)) (fun v4 => .inl v4 = e1) (fun v4 hI1e _ W1 => ?_) ?_
  · subst hI1e
    dsimp only at h0
    refine tr_wk W1 ?_
    refine kc ?_
    replace h0 := bnd h0; obtain ⟨y5, hy5, h0⟩ := h0
    refine kcall [57] [] (law02_awake_ok hy5) rfl rfl rfl Try.call11 (by simp) (by simp; rfl) ?_
    refine ko [4] 1 (by simp; rfl) ?_
    refine tops_nil ?_
    cases h0
    exact tr_ret ⟨[], by simp, rfl, by simp⟩
  · refine tr_block (tr_iter (fun s6 : Int => ({ nt := 58, env := [(6, .vec 17), (7, .d (.int .i64 s6))], box := [], vec := [(17, ⟨26, 1, rowsF (slRow (iRow .u8)) l3⟩)] } : St)) hI1 (wk (by subst hl3; simp [weak_iff])) fun G1 s6 o1 h1 hg1 he1 => ?_)
    unfold law02_EntropyMeasures_l0 at h1
    refine tr_seq ?_
    refine kr [6, 7, 21] (by simp; rfl) ?_
    refine tr_cond (b := (decide (s6 < ((l3).length : Int)))) (by simp) (fun c13 => ?_) (fun c13 => ?_)
    · rw [if_pos c13] at h1
      refine tr_skip ?_
      refine tr_seq ?_
      refine tr_block ?_
      replace h1 := bnd h1; obtain ⟨_, p9, h1⟩ := h1
      replace p9 := ck_some p9
      have p9' := p9; try simp at p9'
      replace h1 := bnd h1; obtain ⟨x7, p10, h1⟩ := h1
      replace p10 := idx_some p10
      have p10' := p10; try simp at p10'
      refine kr [6, 7, 8] (by simp [-getElem?_pos, p9, p10, p9', p10']; rfl) ?_
      refine tr_seq ?_
      refine kr [6, 7, 8, 30] (by simp; rfl) ?_
      refine tr_cond (b := (decide (4000 < ((x7).length : Int)))) (by simp) (fun c14 => ?_) (fun c14 => ?_)
      · rw [if_pos c14] at h1
        refine tr_exit ?_
        refine lr (by simp; rfl) ?_
        exact ⟨_, hg1 _ (Option.some.inj h1), wk (by simp [weak_iff])⟩
      · rw [if_neg (by rw [c14]; decide)] at h1
        refine tr_skip ?_
        replace h1 := bnd h1; obtain ⟨v8, hvv8, h1⟩ := h1
        refine sjv (fun v8_ : Bool => ({ nt := 58, env := [(6, .vec 17), (7, .d (.int .i64 s6)), (56, .d (.bool v8_))], box := [], vec := [(17, ⟨26, 1, rowsF (slRow (iRow .u8)) l3⟩)] } : St)) (fun v8_ => v8 = v8_) (fun v8_ e => ?_) ?_
        · subst e
          refine tr_cond (b := v8) (by simp) (fun c21 => ?_) (fun c21 => ?_)
          · rw [if_pos c21] at h1
            refine kr [4] (by simp; rfl) ?_
            have k1 := he1 _ (Option.some.inj h1)
            subst k1
            dsimp only at h0
            cases h0
            exact tr_ret ⟨[], by simp, rfl, by simp⟩
          · rw [if_neg (by rw [c21]; decide)] at h1
            refine tr_skip ?_
            refine lr (by simp; rfl) ?_
            exact ⟨_, hg1 _ (Option.some.inj h1), wk (by simp [weak_iff])⟩
        · refine kc1 ?_
          refine ko [6, 7, 8, 31] 1 (by simp; rfl) ?_
          replace hvv8 := bnd hvv8; obtain ⟨y9, hy9, hvv8⟩ := hvv8
          refine kcall [6, 7, 8, 32] [] (entropy_Counts_ok hy9) rfl rfl rfl Try.call9 (by simp) (by simp; rfl) ?_
          refine ko [6, 7, 8, 32, 33] 1 (by simp; rfl) ?_
          replace hvv8 := bnd hvv8; obtain ⟨y10, hy10, hvv8⟩ := hvv8
          refine kcall [6, 7, 8, 32, 34] [] (ref02_Counts_ok hy10) rfl rfl rfl Try.call13 (by simp) (by simp; rfl) ?_
          replace hvv8 := bnd hvv8; obtain ⟨_, p15, hvv8⟩ := hvv8
          replace p15 := ck_some p15
          have p15' := p15; try simp at p15'
          replace hvv8 := bnd hvv8; obtain ⟨_, p16, hvv8⟩ := hvv8
          replace p16 := ck_some p16
          have p16' := p16; try simp at p16'
          refine ko [6, 7, 8, 36] 2 (by simp [p15, arC_take p15, arC_drop p15, p16, arC_take p16, arC_drop p16, eqEs_arC (P := Try.prog) (e := 3) (k := .i64) (k' := .i64) Try.underlying3 (p15.trans p16.symm), p15', p16']; rfl) ?_
          refine tops_split 36 (!(y9 == y10)) (by simp) (fun c22 => ?_) (fun c22 => ?_)
          · rw [if_pos c22] at hvv8
            refine ko [6, 7, 37, 38, 39, 40, 41, 44, 45, 46, 47, 48, 51, 52, 53, 54, 55, 56] 20 (by simp; rfl) ?_
            refine tops_nil ?_
            cases hvv8
            exact ⟨_, rfl, wk (by simp [weak_iff])⟩
          · rw [if_neg (by rw [c22]; decide)] at hvv8
            refine ko [6, 7, 8, 36, 37] 1 (by simp; rfl) ?_
            replace hvv8 := bnd hvv8; obtain ⟨y11, hy11, hvv8⟩ := hvv8
            refine kcall [6, 7, 8, 36, 37, 38] [] (entropy_Measure_ok hy11) rfl rfl rfl Try.call14 (by simp) (by simp; rfl) ?_
            refine ko [6, 7, 8, 36, 37, 38, 39] 1 (by simp; rfl) ?_
            replace hvv8 := bnd hvv8; obtain ⟨y12, hy12, hvv8⟩ := hvv8
            refine kcall [6, 7, 8, 36, 37, 38, 39, 40] [] (ref02_Measure_ok hy12) rfl rfl rfl Try.call15 (by simp) (by simp; rfl) ?_
            refine ko [6, 7, 8, 37, 38, 39, 40, 41, 43] 3 (by simp; rfl) ?_
            refine tops_split 43 (y11 != y12) (by simp) (fun c23 => ?_) (fun c23 => ?_)
            · rw [if_pos c23] at hvv8
              refine ko [6, 7, 37, 38, 39, 40, 41, 44, 45, 46, 47, 48, 51, 52, 53, 54, 55, 56] 13 (by simp; rfl) ?_
              refine tops_nil ?_
              cases hvv8
              exact ⟨_, rfl, wk (by simp [weak_iff])⟩
            · rw [if_neg (by rw [c23]; decide)] at hvv8
              refine ko [6, 7, 8, 37, 38, 39, 40, 41, 43, 44] 1 (by simp; rfl) ?_
              replace hvv8 := bnd hvv8; obtain ⟨y13, hy13, hvv8⟩ := hvv8
              refine kcall [6, 7, 8, 37, 38, 39, 40, 41, 43, 44, 45] [] (entropy_Distinct_ok hy13) rfl rfl rfl Try.call10 (by simp) (by simp; rfl) ?_
              refine ko [6, 7, 8, 37, 38, 39, 40, 41, 43, 44, 45, 46] 1 (by simp; rfl) ?_
              replace hvv8 := bnd hvv8; obtain ⟨y14, hy14, hvv8⟩ := hvv8
              refine kcall [6, 7, 8, 37, 38, 39, 40, 41, 43, 44, 45, 46, 47] [] (ref02_Distinct_ok hy14) rfl rfl rfl Try.call16 (by simp) (by simp; rfl) ?_
              refine ko [6, 7, 8, 37, 38, 39, 40, 41, 44, 45, 46, 47, 48, 50] 3 (by simp; rfl) ?_
              refine tops_split 50 (y13 != y14) (by simp) (fun c24 => ?_) (fun c24 => ?_)
              · rw [if_pos c24] at hvv8
                refine ko [6, 7, 37, 38, 39, 40, 41, 44, 45, 46, 47, 48, 51, 52, 53, 54, 55, 56] 6 (by simp; rfl) ?_
                refine tops_nil ?_
                cases hvv8
                exact ⟨_, rfl, wk (by simp [weak_iff])⟩
              · rw [if_neg (by rw [c24]; decide)] at hvv8
                refine ko [6, 7, 8, 37, 38, 39, 40, 41, 44, 45, 46, 47, 48, 50, 51] 1 (by simp; rfl) ?_
                replace hvv8 := bnd hvv8; obtain ⟨y15, hy15, hvv8⟩ := hvv8
                refine kcall [6, 7, 8, 37, 38, 39, 40, 41, 44, 45, 46, 47, 48, 50, 51, 52] [] (entropy_Mean_ok hy15) rfl rfl rfl Try.call17 (by simp) (by simp; rfl) ?_
                refine ko [6, 7, 37, 38, 39, 40, 41, 44, 45, 46, 47, 48, 50, 51, 52, 53] 1 (by simp; rfl) ?_
                replace hvv8 := bnd hvv8; obtain ⟨y16, hy16, hvv8⟩ := hvv8
                refine kcall [6, 7, 37, 38, 39, 40, 41, 44, 45, 46, 47, 48, 50, 51, 52, 53, 54] [] (ref02_Mean_ok hy16) rfl rfl rfl Try.call18 (by simp) (by simp; rfl) ?_
                refine ko [6, 7, 37, 38, 39, 40, 41, 44, 45, 46, 47, 48, 51, 52, 53, 54, 55, 56] 2 (by simp; rfl) ?_
                refine tops_nil ?_
                cases hvv8
                exact ⟨_, rfl, wk (by simp [weak_iff])⟩
    · rw [if_neg (by rw [c13]; decide)] at h1
      refine tr_exit ?_
      exact ⟨_, he1 _ (Option.some.inj h1), wk (by simp [weak_iff])⟩
end Go.Vl
