/- Walks: each function of the given program computes what its mirror says. Conditions: none. -/
import Derived.Test.YtkgimfomocpebabR1em
import Derived.Test.YtkgimfomocpebabTyR1b
set_option linter.unusedSimpArgs false
set_option linter.unusedVariables false
namespace Go.Vl
open Go Go.Proofs
set_option maxHeartbeats 1000000 in
theorem make_Tape_Next_ok {a0 : make_Tape} {a1 : Int} {r : Int × make_Tape} (h0 : make_Tape_Next a0 a1 = some r) : FnOK Try.prog 12 [make_Tape_av a0] [.ptr (InO 0) 0, .d (.int .i64 a1)] (.d (.int .i64 r.1)) [make_Tape_av r.2] := by
  unfold make_Tape_Next at h0
  refine fn_ok (nt := 37) (rs := [.tmp 4]) Try.func12 rfl Try.ntmps12 rfl (by simp) (by decide) rfl fun K => ?_
  refine kr [0, 1] (by simp; rfl) ?_
  refine tr_seq ?_
  refine kd [[], [0], [1], [2], [], [4], [5], [6], [7], [3, 8]] [] [] 10 fol (by decide +kernel) ?_
  refine dr_go 0 10 rfl (by simp (maxSteps := 1000000); rfl) ?_
  refine dr_end rfl (tops_nil ?_)
  refine tr_cond (b := (decide (((a0.L).length : Int) ≤ a0.at_))) (by simp) (fun c1 => ?_) (fun c1 => ?_)
  · rw [if_pos c1] at h0
    refine kr [4] (by simp; rfl) ?_
    cases h0
    exact tr_ret ⟨[], by simp, rfl, by simp⟩
  · rw [if_neg (by rw [c1]; decide)] at h0
    refine tr_skip ?_
    refine kd [[], [0], [1], [2], [], [4], [5], [6], [3, 7], [8], [9], [10]] [] [] 12 fol (by decide +kernel) ?_
    replace h0 := bnd h0; obtain ⟨x1, p2, h0⟩ := h0
    replace p2 := idx_some p2
    have p2' := p2; try simp at p2'
    refine dr_go 0 12 rfl (by simp (maxSteps := 1000000) [p2, p2']; rfl) ?_
    refine dr_end rfl (tops_nil ?_)
    refine kr [1, 5] (by simp; rfl) ?_
    replace h0 := bnd h0; obtain ⟨_, p3, h0⟩ := h0
    replace p3 := ck_some p3
    have p3' := p3; try simp at p3'
    refine kr [4] (by simp [p3, p3']; rfl) ?_
    cases h0
    exact tr_ret ⟨[], by simp, rfl, by simp⟩
set_option maxHeartbeats 1000000 in
theorem make_Bytes_ok {a0 : make_Tape} {a1 : Int} {r : (List Int) × make_Tape} (h0 : make_Bytes a0 a1 = some r) : FnOK Try.prog 8 [make_Tape_av a0] [.ptr (InO 0) 0, .d (.int .i64 a1)] (.d (.slice (rowsF (iRow .u8) r.1))) [make_Tape_av r.2] := by
  unfold make_Bytes at h0
  refine fn_ok (nt := 47) (rs := [.tmp 4]) Try.func8 rfl Try.ntmps8 rfl (by simp) (by decide) rfl fun K => ?_
  refine kr [0, 1] (by simp; rfl) ?_
  refine kr [0, 1, 5] (by simp; rfl) ?_
  refine tr_seq ?_
  refine kr [0, 1, 5, 6] (by simp; rfl) ?_
  refine tr_wk (wk_own 5 27 5 1 (by simp) (by simp)) ?_
  replace h0 := bnd h0; obtain ⟨e1, hI1, h0⟩ := h0
  refine tjv (fun v1 : (List Int) × Int × (List Int) => ({ nt := 47, env := [(5, .vec 27)], box := [(1000000, [.d (.slice (rowsF (iRow .i64) v1.1)), .d (.int .i64 v1.2.1)])], vec := [(27, ⟨5, 1, rowsF (iRow .u8) v1.2.2⟩)] } : St)) (fun v1 => v1 = e1) (fun v1 hI1e _ W1 => ?_) ?_
  · subst hI1e
    refine tr_wk W1 ?_
    refine kr [4] (by simp; rfl) ?_
    cases h0
    exact tr_ret ⟨[27], by simp, rfl, by simp⟩
  · refine tr_block (tr_iter (fun s2 : Int × (List Int) × Int × (List Int) => ({ nt := 47, env := [(0, .ptr 1000000 0), (1, .d (.int .i64 a1)), (5, .vec 27), (6, .d (.int .i64 s2.1))], box := [(1000000, [.d (.slice (rowsF (iRow .i64) s2.2.1)), .d (.int .i64 s2.2.2.1)])], vec := [(27, ⟨5, 1, rowsF (iRow .u8) s2.2.2.2⟩)] } : St)) hI1 (wk (by simp [weak_iff])) fun G1 s2 o1 h1 hg1 he1 => ?_)
    unfold make_Bytes_l0 at h1
    refine tr_seq ?_
    refine kr [0, 1, 5, 6, 9] (by simp; rfl) ?_
    refine tr_cond (b := (decide (s2.1 < a1))) (by simp) (fun c16 => ?_) (fun c16 => ?_)
    · rw [if_pos c16] at h1
      refine tr_skip ?_
      refine tr_seq ?_
      refine tr_block ?_
      refine kc ?_
      refine ko [0, 1, 5, 6, 12] 1 (by simp; rfl) ?_
      replace h1 := bnd h1; obtain ⟨y3, hy3, h1⟩ := h1
      refine kcall [0, 1, 5, 6, 13] [1000000] (make_Tape_Next_ok hy3) rfl rfl rfl Try.call12 (by simp) (by simp; rfl) ?_
      refine tops_nil ?_
      refine tr_block ?_
      refine kr [0, 1, 5, 6, 13, 20] (by simp; rfl) ?_
      refine tr_cond (b := (y3.1 == 0)) (by simp) (fun c17 => ?_) (fun c17 => ?_)
      · rw [if_pos c17] at h1
        refine kc1 ?_
        refine ko [0, 1, 6, 22, 23] 2 (by simp; rfl) ?_
        replace h1 := bnd h1; obtain ⟨y4, hy4, h1⟩ := h1
        refine kcall [0, 1, 6, 22, 24] [1000000] (make_Tape_Next_ok hy4) rfl rfl rfl Try.call12 (by simp) (by simp; rfl) ?_
        replace h1 := bnd h1; obtain ⟨x5, p21, h1⟩ := h1
        have ix22 : indexVA Try.prog 9 (.d (.str (⟨#[32, 10, 61, 37, 43, 47, 45, 46]⟩ : ByteArray))) y4.1 = some (.d (.int .u8 x5)) := index_str Try.underlying9 p21
        replace h1 := bnd h1; obtain ⟨_, p23, h1⟩ := h1
        replace p23 := ck_some p23
        have p23' := p23; try simp at p23'
        refine ko [0, 1, 5, 6] 4 (by simp [ix22, -indexVA, p23, p23']; rfl) ?_
        refine tops_nil ?_
        refine lr (by simp; rfl) ?_
        exact ⟨_, hg1 _ (Option.some.inj h1), wk (by simp [weak_iff])⟩
      · rw [if_neg (by rw [c17]; decide)] at h1
        refine kr [0, 1, 5, 6, 13, 28] (by simp; rfl) ?_
        refine tr_cond (b := (y3.1 == 1)) (by simp) (fun c18 => ?_) (fun c18 => ?_)
        · rw [if_pos c18] at h1
          refine kc1 ?_
          refine ko [0, 1, 6, 30, 31] 2 (by simp; rfl) ?_
          replace h1 := bnd h1; obtain ⟨y6, hy6, h1⟩ := h1
          refine kcall [0, 1, 6, 30, 32] [1000000] (make_Tape_Next_ok hy6) rfl rfl rfl Try.call12 (by simp) (by simp; rfl) ?_
          replace h1 := bnd h1; obtain ⟨_, p24, h1⟩ := h1
          replace p24 := ck_some p24
          have p24' := p24; try simp at p24'
          refine ko [0, 1, 5, 6] 4 (by simp [p24, p24']; rfl) ?_
          refine tops_nil ?_
          refine lr (by simp; rfl) ?_
          exact ⟨_, hg1 _ (Option.some.inj h1), (wk_ren 35 27).trans (wk (by simp [weak_iff]))⟩
        · rw [if_neg (by rw [c18]; decide)] at h1
          refine sjv (fun v7 : Bool => ({ nt := 47, env := [(0, .ptr 1000000 0), (1, .d (.int .i64 a1)), (5, .vec 27), (6, .d (.int .i64 s2.1)), (36, .d (.bool v7))], box := [(1000000, [.d (.slice (rowsF (iRow .i64) y3.2.L)), .d (.int .i64 y3.2.at_)])], vec := [(27, ⟨5, 1, rowsF (iRow .u8) s2.2.2.2⟩)] } : St)) (fun v7 => make_Bytes_j1 y3 s2 v7 = some o1) (fun v7 h1 => ?_) ?_
          · unfold make_Bytes_j1 at h1
            refine tr_cond (b := v7) (by simp) (fun c20 => ?_) (fun c20 => ?_)
            · rw [if_pos c20] at h1
              refine kc1 ?_
              refine ko [0, 1, 6, 39, 40] 2 (by simp; rfl) ?_
              replace h1 := bnd h1; obtain ⟨y8, hy8, h1⟩ := h1
              refine kcall [0, 1, 6, 39, 41] [1000000] (make_Tape_Next_ok hy8) rfl rfl rfl Try.call12 (by simp) (by simp; rfl) ?_
              replace h1 := bnd h1; obtain ⟨_, p25, h1⟩ := h1
              replace p25 := ck_some p25
              have p25' := p25; try simp at p25'
              refine ko [0, 1, 5, 6] 5 (by simp [p25, p25']; rfl) ?_
              refine tops_nil ?_
              refine lr (by simp; rfl) ?_
              exact ⟨_, hg1 _ (Option.some.inj h1), (wk_ren 45 27).trans (wk (by simp [weak_iff]))⟩
            · rw [if_neg (by rw [c20]; decide)] at h1
              refine kc1 ?_
              refine ko [0, 1, 6, 14, 15] 2 (by simp; rfl) ?_
              replace h1 := bnd h1; obtain ⟨y9, hy9, h1⟩ := h1
              refine kcall [0, 1, 6, 14, 16] [1000000] (make_Tape_Next_ok hy9) rfl rfl rfl Try.call12 (by simp) (by simp; rfl) ?_
              replace h1 := bnd h1; obtain ⟨x10, p26, h1⟩ := h1
              have ix27 : indexVA Try.prog 9 (.d (.str (⟨#[97, 98, 99, 100, 101, 102, 116, 107]⟩ : ByteArray))) y9.1 = some (.d (.int .u8 x10)) := index_str Try.underlying9 p26
              replace h1 := bnd h1; obtain ⟨_, p28, h1⟩ := h1
              replace p28 := ck_some p28
              have p28' := p28; try simp at p28'
              refine ko [0, 1, 5, 6] 4 (by simp [ix27, -indexVA, p28, p28']; rfl) ?_
              refine tops_nil ?_
              refine lr (by simp; rfl) ?_
              exact ⟨_, hg1 _ (Option.some.inj h1), (wk_ren 19 27).trans (wk (by simp [weak_iff]))⟩
          · refine kr [0, 1, 5, 6, 13, 36] (by simp; rfl) ?_
            refine tr_cond (b := (y3.1 == 2)) (by simp) (fun c21 => ?_) (fun c21 => ?_)
            · rw [if_pos c21] at h1
              refine tr_skip ?_
              exact ⟨_, h1, wk (by simp [weak_iff])⟩
            · rw [if_neg (by rw [c21]; decide)] at h1
              refine lr (by simp; rfl) ?_
              exact ⟨_, h1, wk (by simp [weak_iff])⟩
    · rw [if_neg (by rw [c16]; decide)] at h1
      refine tr_exit ?_
      exact ⟨_, he1 _ (Option.some.inj h1), wk (by simp [weak_iff])⟩
set_option maxHeartbeats 1000000 in
theorem entropy_Counts_ok {a0 : List Int} {r : (List Int)} (h0 : entropy_Counts a0 = some r) : FnOK Try.prog 9 [] [.d (.slice (rowsF (iRow .u8) a0))] (.agg (arC (iRow .i64) r)) [] := by
  unfold entropy_Counts at h0
  refine fn_ok (nt := 23) (rs := [.cell 2 28]) Try.func9 rfl Try.ntmps9 rfl (by simp) (by decide) rfl fun K => ?_
  refine kr [0, 2] (by simp; rfl) ?_
  refine kr [0, 2, 3] (by simp; rfl) ?_
  refine tr_seq ?_
  refine kr [0, 2, 3, 8] (by simp; rfl) ?_
  refine tr_cond (b := (decide (65536 < ((a0).length : Int)))) (by simp) (fun c1 => ?_) (fun c1 => ?_)
  · rw [if_pos c1] at h0
    refine kr [2] (by simp [arC_take (zerosI_length 256), arC_drop (zerosI_length 256)]; rfl) ?_
    cases h0
    exact tr_ret ⟨[], by simp [arC_take (zerosI_length 256), arC_drop (zerosI_length 256)], by simp, by simp [arC_take (zerosI_length 256), arC_drop (zerosI_length 256)]⟩
  · rw [if_neg (by rw [c1]; decide)] at h0
    refine tr_skip ?_
    refine tr_seq ?_
    refine kr [2, 3, 10, 11, 12] (by simp; rfl) ?_
    replace h0 := bnd h0; obtain ⟨e1, hI1, h0⟩ := h0
    refine tjv (fun v1 : (List Int) => ({ nt := 23, env := [(2, .ptr 2 0), (3, .ptr 3 0)], box := [(2, arC (iRow .i64) (zerosI 256)), (3, arC (iRow .i64) v1)], vec := [] } : St)) (fun v1 => v1 = e1) (fun v1 hI1e _ W1 => ?_) ?_
    · subst hI1e
      refine tr_wk W1 ?_
      replace h0 := bnd h0; obtain ⟨_, p11, h0⟩ := h0
      replace p11 := ck_some p11
      have p11' := p11; try simp at p11'
      replace h0 := bnd h0; obtain ⟨_, p12, h0⟩ := h0
      replace p12 := ck_some p12
      have p12' := p12; try simp at p12'
      refine kr [2] (by simp [p11, arC_take p11, arC_drop p11, arC_take (zerosI_length 256), arC_drop (zerosI_length 256), p12, arC_take p12, arC_drop p12, p11', p12']; rfl) ?_
      replace h0 := bnd h0; obtain ⟨_, p13, h0⟩ := h0
      replace p13 := ck_some p13
      have p13' := p13; try simp at p13'
      cases h0
      exact tr_ret ⟨[], by simp [p13, arC_take p13, arC_drop p13, p13'], by simp, by simp [p13, arC_take p13, arC_drop p13, p13']⟩
    · refine tr_block (tr_iter (fun s2 : Int × (List Int) => ({ nt := 23, env := [(2, .ptr 2 0), (3, .ptr 3 0), (10, .d (.slice (rowsF (iRow .u8) a0))), (11, .d (.int .i64 ((a0).length : Int))), (12, .d (.int .i64 s2.1))], box := [(2, arC (iRow .i64) (zerosI 256)), (3, arC (iRow .i64) s2.2)], vec := [] } : St)) hI1 (wk (by simp [weak_iff])) fun G1 s2 o1 h1 hg1 he1 => ?_)
      unfold entropy_Counts_l0 at h1
      refine kr [2, 3, 10, 11, 12, 13] (by simp; rfl) ?_
      refine tr_seq ?_
      refine tr_cond (b := (decide (s2.1 < ((a0).length : Int)))) (by simp) (fun c4 => ?_) (fun c4 => ?_)
      · rw [if_pos c4] at h1
        refine tr_skip ?_
        refine tr_seq ?_
        refine tr_block ?_
        replace h1 := bnd h1; obtain ⟨x3, p14, h1⟩ := h1
        replace p14 := idx_some p14
        have p14' := p14; try simp at p14'
        refine kr [2, 3, 5, 10, 11, 12] (by simp [p14, p14']; rfl) ?_
        replace h1 := bnd h1; obtain ⟨_, p15, h1⟩ := h1
        replace p15 := ck_some p15
        have p15' := p15; try simp at p15'
        replace h1 := bnd h1; obtain ⟨x4, p16, h1⟩ := h1
        replace p16 := idx_some p16
        have p16' := p16; try simp at p16'
        replace h1 := bnd h1; obtain ⟨_, p17, h1⟩ := h1
        replace p17 := ck_some p17
        have p17' := p17; try simp at p17'
        replace h1 := bnd h1; obtain ⟨_, p18, h1⟩ := h1
        replace p18 := ck_some p18
        refine lr (by simp [p15, p16, p17, show (Int.toNat x3) + 1 ≤ (s2.2).length from p18, arC_put p18, p15', p16', p17']; rfl) ?_
        refine lr (by simp; rfl) ?_
        exact ⟨_, hg1 _ (Option.some.inj h1), wk (by simp [weak_iff])⟩
      · rw [if_neg (by rw [c4]; decide)] at h1
        refine tr_exit ?_
        exact ⟨_, he1 _ (Option.some.inj h1), wk (by simp [weak_iff])⟩
set_option maxHeartbeats 1000000 in
theorem entropy_Distinct_ok {a0 : List Int} {r : Int} (h0 : entropy_Distinct a0 = some r) : FnOK Try.prog 10 [] [.d (.slice (rowsF (iRow .u8) a0))] (.d (.int .i64 r)) [] := by
  unfold entropy_Distinct at h0
  refine fn_ok (nt := 17) (rs := [.tmp 2]) Try.func10 rfl Try.ntmps10 rfl (by simp) (by decide) rfl fun K => ?_
  refine kr [0] (by simp; rfl) ?_
  refine kr [0, 3] (by simp; rfl) ?_
  refine tr_seq ?_
  refine kc ?_
  refine ko [3, 6] 1 (by simp; rfl) ?_
  replace h0 := bnd h0; obtain ⟨y1, hy1, h0⟩ := h0
  refine kcall [3, 7] [] (entropy_Counts_ok hy1) rfl rfl rfl Try.call9 (by simp) (by simp; rfl) ?_
  refine ko [3, 7, 8] 1 (by simp; rfl) ?_
  refine tops_nil ?_
  replace h0 := bnd h0; obtain ⟨e1, hI1, h0⟩ := h0
  refine tjv (fun v2 : Int => ({ nt := 17, env := [(3, .d (.int .i64 v2))], box := [], vec := [] } : St)) (fun v2 => v2 = e1) (fun v2 hI1e _ W1 => ?_) ?_
  · subst hI1e
    refine tr_wk W1 ?_
    refine kr [2] (by simp; rfl) ?_
    cases h0
    exact tr_ret ⟨[], by simp, rfl, by simp⟩
  · refine tr_block (tr_iter (fun s3 : Int × Int => ({ nt := 17, env := [(3, .d (.int .i64 s3.1)), (7, .agg (arC (iRow .i64) y1)), (8, .d (.int .i64 s3.2))], box := [], vec := [] } : St)) hI1 (wk (by simp [weak_iff])) fun G1 s3 o1 h1 hg1 he1 => ?_)
    unfold entropy_Distinct_l0 at h1
    refine kr [3, 7, 8, 9] (by simp; rfl) ?_
    refine tr_seq ?_
    refine tr_cond (b := (decide (s3.2 < 256))) (by simp) (fun c3 => ?_) (fun c3 => ?_)
    · rw [if_pos c3] at h1
      refine tr_skip ?_
      refine tr_seq ?_
      refine tr_block ?_
      replace h1 := bnd h1; obtain ⟨_, p7, h1⟩ := h1
      replace p7 := ck_some p7
      have p7' := p7; try simp at p7'
      replace h1 := bnd h1; obtain ⟨x4, p8, h1⟩ := h1
      replace p8 := idx_some p8
      have p8' := p8; try simp at p8'
      have ix9 : indexVA Try.prog 28 (.agg (arC (iRow .i64) y1)) s3.2 = some (.d (.int .i64 x4)) := indexVA_arC Try.underlying28 sz3 p8.1 p7 p8.2 (by simp) (by simp)
      refine kr [3, 5, 7, 8] (by simp [p7, p8, ix9, -indexVA, p7', p8']; rfl) ?_
      refine lr (by simp; rfl) ?_
      refine lr (by simp; rfl) ?_
      exact ⟨_, hg1 _ (Option.some.inj h1), wk (by simp [weak_iff])⟩
    · rw [if_neg (by rw [c3]; decide)] at h1
      refine tr_exit ?_
      exact ⟨_, he1 _ (Option.some.inj h1), wk (by simp [weak_iff])⟩
set_option maxHeartbeats 1000000 in
theorem math_bits_Len_ok {a0 : Int} {r : Int} (h0 : math_bits_Len a0 = some r) : FnOK Try.prog 39 [] [.d (.int .u64 a0)] (.d (.int .i64 r)) [] := by
  unfold math_bits_Len at h0
  refine fn_ok (nt := 8) (rs := [.tmp 2]) Try.func39 rfl Try.ntmps39 rfl (by simp) (by decide) rfl fun K => ?_
  refine kr [0] (by simp; rfl) ?_
  refine tr_seq ?_
  refine tr_cond (b := false) (by simp) (fun h => by cases h) (fun _ => ?_)
  refine tr_skip ?_
  refine kc ?_
  refine ko [6] 1 (by simp; rfl) ?_
  replace h0 := bnd h0; obtain ⟨y1, hy1, h0⟩ := h0
  refine kcall [7] [] (math_bits_Len64_ok hy1) rfl rfl rfl Try.call48 (by simp) (by simp; rfl) ?_
  refine ko [2] 1 (by simp; rfl) ?_
  refine tops_nil ?_
  cases h0
  exact tr_ret ⟨[], by simp, rfl, by simp⟩
set_option maxHeartbeats 1000000 in
theorem entropy_Log_ok {a0 : Int} {r : Int} (h0 : entropy_Log a0 = some r) : FnOK Try.prog 19 [] [.d (.int .i64 a0)] (.d (.int .i64 r)) [] := by
  unfold entropy_Log at h0
  refine fn_ok (nt := 35) (rs := [.tmp 2]) Try.func19 rfl Try.ntmps19 rfl (by simp) (by decide) rfl fun K => ?_
  refine kr [0] (by simp; rfl) ?_
  refine tr_seq ?_
  replace h0 := bnd h0; obtain ⟨v1, hvv1, h0⟩ := h0
  refine sjv (fun v1_ : Bool => ({ nt := 35, env := [(0, .d (.int .i64 a0)), (10, .d (.bool v1_))], box := [], vec := [] } : St)) (fun v1_ => v1 = v1_) (fun v1_ e => ?_) ?_
  · subst e
    refine tr_cond (b := v1) (by simp) (fun c3 => ?_) (fun c3 => ?_)
    · rw [if_pos c3] at h0
      refine kr [2] (by simp; rfl) ?_
      cases h0
      exact tr_ret ⟨[], by simp, rfl, by simp⟩
    · rw [if_neg (by rw [c3]; decide)] at h0
      refine tr_skip ?_
      refine kc ?_
      refine ko [0, 12] 2 (by simp; rfl) ?_
      replace h0 := bnd h0; obtain ⟨y2, hy2, h0⟩ := h0
      refine kcall [0, 13] [] (math_bits_Len_ok hy2) rfl rfl rfl Try.call39 (by simp) (by simp; rfl) ?_
      refine ko [0, 3] 2 (by simp; rfl) ?_
      refine tops_nil ?_
      replace h0 := bnd h0; obtain ⟨_, p1, h0⟩ := h0
      replace p1 := ck_some p1
      have p1' := p1; try simp at p1'
      refine kr [3, 4] (by simp [p1, p1']; rfl) ?_
      refine tr_seq ?_
      refine kr [3, 4, 19] (by simp; rfl) ?_
      replace h0 := bnd h0; obtain ⟨e1, hI1, h0⟩ := h0
      refine tjv (fun v3 : Int => ({ nt := 35, env := [(3, .d (.int .i64 v3))], box := [], vec := [] } : St)) (fun v3 => v3 = e1) (fun v3 hI1e _ W1 => ?_) ?_
      · subst hI1e
        refine tr_wk W1 ?_
        refine kr [2] (by simp; rfl) ?_
        cases h0
        exact tr_ret ⟨[], by simp, rfl, by simp⟩
      · refine tr_block (tr_iter (fun s4 : Int × Int × Int => ({ nt := 35, env := [(3, .d (.int .i64 s4.1)), (4, .d (.int .i64 s4.2.1)), (19, .d (.int .i64 s4.2.2))], box := [], vec := [] } : St)) hI1 (wk (by simp [weak_iff])) fun G1 s4 o1 h1 hg1 he1 => ?_)
        unfold entropy_Log_l0 at h1
        refine kr [3, 4, 19, 20] (by simp; rfl) ?_
        refine tr_seq ?_
        refine tr_cond (b := (decide (s4.2.2 < 16))) (by simp) (fun c8 => ?_) (fun c8 => ?_)
        · rw [if_pos c8] at h1
          refine tr_skip ?_
          refine tr_seq ?_
          refine tr_block ?_
          refine kr [3, 4, 19] (by simp; rfl) ?_
          refine kr [3, 4, 19] (by simp; rfl) ?_
          refine kr [3, 4, 19, 28] (by simp; rfl) ?_
          refine tr_cond (b := (decide (2147483648 ≤ (IntKind.i64.wrap (((IntKind.i64.wrap (s4.2.1 * s4.2.1))).tdiv 1073741824))))) (by simp) (fun c9 => ?_) (fun c9 => ?_)
          · rw [if_pos c9] at h1
            refine kr [3, 4, 19] (by simp; rfl) ?_
            refine lr (by simp; rfl) ?_
            refine lr (by simp; rfl) ?_
            exact ⟨_, hg1 _ (Option.some.inj h1), wk (by simp [weak_iff])⟩
          · rw [if_neg (by rw [c9]; decide)] at h1
            refine tr_skip ?_
            refine lr (by simp; rfl) ?_
            exact ⟨_, hg1 _ (Option.some.inj h1), wk (by simp [weak_iff])⟩
        · rw [if_neg (by rw [c8]; decide)] at h1
          refine tr_exit ?_
          exact ⟨_, he1 _ (Option.some.inj h1), wk (by simp [weak_iff])⟩
  · refine kc1 ?_
    refine ko [0, 7] 3 (by simp; rfl) ?_
    refine tops_split 7 (decide (a0 < 1)) (by simp) (fun c10 => ?_) (fun c10 => ?_)
    · rw [c10] at hvv1
      refine ko [0, 10] 3 (by simp; rfl) ?_
      refine tops_nil ?_
      cases hvv1
      exact ⟨_, rfl, wk (by simp [weak_iff])⟩
    · rw [c10] at hvv1
      refine ko [0, 10] 3 (by simp; rfl) ?_
      refine tops_nil ?_
      cases hvv1
      exact ⟨_, rfl, wk (by simp [weak_iff])⟩
set_option maxHeartbeats 1000000 in
theorem entropy_Measure_ok {a0 : List Int} {r : Int} (h0 : entropy_Measure a0 = some r) : FnOK Try.prog 14 [] [.d (.slice (rowsF (iRow .u8) a0))] (.d (.int .i64 r)) [] := by
  unfold entropy_Measure at h0
  refine fn_ok (nt := 25) (rs := [.tmp 2]) Try.func14 rfl Try.ntmps14 rfl (by simp) (by decide) rfl fun K => ?_
  refine kr [0] (by simp; rfl) ?_
  refine kr [0, 3] (by simp; rfl) ?_
  refine tr_seq ?_
  refine kc ?_
  refine ko [0, 3, 6] 1 (by simp; rfl) ?_
  replace h0 := bnd h0; obtain ⟨y1, hy1, h0⟩ := h0
  refine kcall [0, 3, 7] [] (entropy_Counts_ok hy1) rfl rfl rfl Try.call9 (by simp) (by simp; rfl) ?_
  refine ko [0, 3, 7, 8] 1 (by simp; rfl) ?_
  refine tops_nil ?_
  replace h0 := bnd h0; obtain ⟨e1, hI1, h0⟩ := h0
  refine tjv (fun v2 : Int => ({ nt := 25, env := [(3, .d (.int .i64 v2))], box := [], vec := [] } : St)) (fun v2 => v2 = e1) (fun v2 hI1e _ W1 => ?_) ?_
  · subst hI1e
    refine tr_wk W1 ?_
    refine kr [2] (by simp; rfl) ?_
    cases h0
    exact tr_ret ⟨[], by simp, rfl, by simp⟩
  · refine tr_block (tr_iter (fun s3 : Int × Int => ({ nt := 25, env := [(0, .d (.slice (rowsF (iRow .u8) a0))), (3, .d (.int .i64 s3.1)), (7, .agg (arC (iRow .i64) y1)), (8, .d (.int .i64 s3.2))], box := [], vec := [] } : St)) hI1 (wk (by simp [weak_iff])) fun G1 s3 o1 h1 hg1 he1 => ?_)
    unfold entropy_Measure_l0 at h1
    refine kr [0, 3, 7, 8, 9] (by simp; rfl) ?_
    refine tr_seq ?_
    refine tr_cond (b := (decide (s3.2 < 256))) (by simp) (fun c5 => ?_) (fun c5 => ?_)
    · rw [if_pos c5] at h1
      refine tr_skip ?_
      refine tr_seq ?_
      refine tr_block ?_
      replace h1 := bnd h1; obtain ⟨_, p7, h1⟩ := h1
      replace p7 := ck_some p7
      have p7' := p7; try simp at p7'
      replace h1 := bnd h1; obtain ⟨x4, p8, h1⟩ := h1
      replace p8 := idx_some p8
      have p8' := p8; try simp at p8'
      have ix9 : indexVA Try.prog 28 (.agg (arC (iRow .i64) y1)) s3.2 = some (.d (.int .i64 x4)) := indexVA_arC Try.underlying28 sz3 p8.1 p7 p8.2 (by simp) (by simp)
      refine kr [0, 3, 5, 7, 8] (by simp [p7, p8, ix9, -indexVA, p7', p8']; rfl) ?_
      refine kr [0, 3, 5, 7, 8, 12] (by simp; rfl) ?_
      refine tr_cond (b := (decide (0 < x4))) (by simp) (fun c6 => ?_) (fun c6 => ?_)
      · rw [if_pos c6] at h1
        refine kc1 ?_
        refine ko [0, 5, 7, 8, 13, 14, 16] 4 (by simp; rfl) ?_
        replace h1 := bnd h1; obtain ⟨y5, hy5, h1⟩ := h1
        refine kcall [0, 5, 7, 8, 13, 14, 17] [] (entropy_Log_ok hy5) rfl rfl rfl Try.call19 (by simp) (by simp; rfl) ?_
        refine ko [0, 7, 8, 13, 14, 17, 18] 1 (by simp; rfl) ?_
        replace h1 := bnd h1; obtain ⟨y6, hy6, h1⟩ := h1
        refine kcall [0, 7, 8, 13, 14, 17, 19] [] (entropy_Log_ok hy6) rfl rfl rfl Try.call19 (by simp) (by simp; rfl) ?_
        refine ko [0, 3, 7, 8] 4 (by simp; rfl) ?_
        refine tops_nil ?_
        refine lr (by simp; rfl) ?_
        exact ⟨_, hg1 _ (Option.some.inj h1), wk (by simp [weak_iff])⟩
      · rw [if_neg (by rw [c6]; decide)] at h1
        refine tr_skip ?_
        refine lr (by simp; rfl) ?_
        exact ⟨_, hg1 _ (Option.some.inj h1), wk (by simp [weak_iff])⟩
    · rw [if_neg (by rw [c5]; decide)] at h1
      refine tr_exit ?_
      exact ⟨_, he1 _ (Option.some.inj h1), wk (by simp [weak_iff])⟩
set_option maxHeartbeats 1000000 in
theorem law02_awake_ok  {r : Bool} (h0 : law02_awake = some r) : FnOK Try.prog 11 [] [] (.d (.bool r)) [] := by
  unfold law02_awake at h0
  refine fn_ok (nt := 9) (rs := [.tmp 0]) Try.func11 rfl Try.ntmps11 rfl (by simp) (by decide) rfl fun K => ?_
  refine kr [] (by simp; rfl) ?_
  replace h0 := bnd h0; obtain ⟨v1, hvv1, h0⟩ := h0
  refine sjv (fun v1_ : Bool => ({ nt := 9, env := [(0, .d (.bool v1_))], box := [], vec := [] } : St)) (fun v1_ => v1 = v1_) (fun v1_ e => ?_) ?_
  · subst e
    cases h0
    exact tr_ret ⟨[], by simp, rfl, by simp⟩
  · refine kc1 ?_
    replace hvv1 := bnd hvv1; obtain ⟨y2, hy2, hvv1⟩ := hvv1
    refine kcall [1] [] (entropy_Log_ok hy2) rfl rfl rfl Try.call19 (by simp) (by simp; rfl) ?_
    refine ko [3] 2 (by simp; rfl) ?_
    refine tops_split 3 (y2 == 196608) (by simp) (fun c3 => ?_) (fun c3 => ?_)
    · rw [if_pos c3] at hvv1
      refine ko [3, 4] 1 (by simp; rfl) ?_
      refine kmark [3, 5] rfl rfl Try.underlying26 Try.underlying5 (n := 4) (by simp; rfl) (by simp) (by simp; rfl) ?_
      replace hvv1 := bnd hvv1; obtain ⟨y3, hy3, hvv1⟩ := hvv1
      refine kcall [3, 6] [] (entropy_Measure_ok hy3) rfl rfl rfl Try.call14 (by simp) (by simp; rfl) ?_
      refine ko [0] 3 (by simp; rfl) ?_
      refine tops_nil ?_
      cases hvv1
      exact ⟨_, rfl, wk (by simp [weak_iff])⟩
    · rw [if_neg (by rw [c3]; decide)] at hvv1
      refine ko [0] 6 (by simp; rfl) ?_
      refine tops_nil ?_
      cases hvv1
      exact ⟨_, rfl, wk (by simp [weak_iff])⟩
set_option maxHeartbeats 1000000 in
theorem law02_EntropyCounts_ok {a0 : List Int} {a1 : Int} {a2 : Int} {r : Bool} (h0 : law02_EntropyCounts a0 a1 a2 = some r) : FnOK Try.prog 3 [] [.d (.slice (rowsF (iRow .i64) a0)), .d (.int .i64 a1), .d (.int .i64 a2)] (.d (.bool r)) [] := by
  unfold law02_EntropyCounts at h0
  refine fn_ok (nt := 79) (rs := [.tmp 6]) Try.func3 rfl Try.ntmps3 rfl (by simp) (by decide) rfl fun K => ?_
  refine kr [0, 1, 2] (by simp; rfl) ?_
  refine kr [1, 2, 7] (by simp; rfl) ?_
  refine kc ?_
  refine ko [2, 7, 19, 21] 3 (by simp; rfl) ?_
  replace h0 := bnd h0; obtain ⟨y1, hy1, h0⟩ := h0
  refine kcall [2, 7, 22] [18] (make_Bytes_ok hy1) rfl rfl rfl Try.call8 (by simp) (by simp; rfl) ?_
  refine ko [22, 23, 25] 3 (by simp; rfl) ?_
  replace h0 := bnd h0; obtain ⟨y2, hy2, h0⟩ := h0
  refine kcall [22, 26] [18] (make_Bytes_ok hy2) rfl rfl rfl Try.call8 (by simp) (by simp; rfl) ?_
  refine ko [8, 9] 2 (by simp; rfl) ?_
  refine tops_nil ?_
  refine kc ?_
  refine ko [8, 9, 27] 1 (by simp; rfl) ?_
  replace h0 := bnd h0; obtain ⟨y3, hy3, h0⟩ := h0
  refine kcall [8, 9, 28] [] (entropy_Counts_ok hy3) rfl rfl rfl Try.call9 (by simp) (by simp; rfl) ?_
  refine ko [8, 9, 28, 29] 1 (by simp; rfl) ?_
  replace h0 := bnd h0; obtain ⟨y4, hy4, h0⟩ := h0
  refine kcall [8, 9, 28, 30] [] (entropy_Counts_ok hy4) rfl rfl rfl Try.call9 (by simp) (by simp; rfl) ?_
  replace h0 := bnd h0; obtain ⟨_, p1, h0⟩ := h0
  replace p1 := ck_some p1
  have p1' := p1; try simp at p1'
  replace h0 := bnd h0; obtain ⟨_, p2, h0⟩ := h0
  replace p2 := ck_some p2
  have p2' := p2; try simp at p2'
  refine ko [8, 9, 28, 30, 35] 5 (by simp [p1, p2, p1', p2']; rfl) ?_
  refine tops_wk (wk_frz 35) ?_
  replace h0 := bnd h0; obtain ⟨y5, hy5, h0⟩ := h0
  refine kcall [8, 9, 28, 30, 36] [] (entropy_Counts_ok hy5) rfl rfl rfl Try.call9 (by simp) (by simp; rfl) ?_
  replace h0 := bnd h0; obtain ⟨_, p3, h0⟩ := h0
  replace p3 := ck_some p3
  have p3' := p3; try simp at p3'
  replace h0 := bnd h0; obtain ⟨_, p4, h0⟩ := h0
  replace p4 := ck_some p4
  have p4' := p4; try simp at p4'
  replace h0 := bnd h0; obtain ⟨_, p5, h0⟩ := h0
  replace p5 := ck_some p5
  have p5' := p5; try simp at p5'
  refine ko [8, 9, 10, 11, 12] 6 (by simp [arC_take (zerosI_length 256), arC_drop (zerosI_length 256), p3, arC_take p3, arC_drop p3, p4, arC_take p4, arC_drop p4, p5, arC_take p5, arC_drop p5, p3', p4', p5']; rfl) ?_
  refine tops_nil ?_
  refine kr [8, 9, 10, 11, 12, 13, 14] (by simp; rfl) ?_
  refine tr_seq ?_
  refine kr [8, 9, 10, 11, 12, 13, 14, 15] (by simp; rfl) ?_
  replace h0 := bnd h0; obtain ⟨e1, hI1, h0⟩ := h0
  refine tjv (fun v6 : Int × Int => ({ nt := 79, env := [(8, .d (.slice (rowsF (iRow .u8) y1.1))), (9, .d (.slice (rowsF (iRow .u8) y2.1))), (13, .d (.int .i64 v6.1)), (14, .d (.int .i64 v6.2))], box := [], vec := [] } : St)) (fun v6 => .inl v6 = e1) (fun v6 hI1e _ W1 => ?_) ?_
  · subst hI1e
    dsimp only at h0
    refine tr_wk W1 ?_
    replace h0 := bnd h0; obtain ⟨v7, hvv7, h0⟩ := h0
    refine sjv (fun v7_ : Bool => ({ nt := 79, env := [(6, .d (.bool v7_))], box := [], vec := [] } : St)) (fun v7_ => v7 = v7_) (fun v7_ e => ?_) ?_
    · subst e
      cases h0
      exact tr_ret ⟨[], by simp, rfl, by simp⟩
    · refine kc1 ?_
      refine ko [8, 14, 70] 8 (by simp; rfl) ?_
      refine tops_split 70 (v6.1 == (IntKind.i64.wrap (((y1.1).length : Int) + ((y2.1).length : Int)))) (by simp) (fun c11 => ?_) (fun c11 => ?_)
      · rw [if_pos c11] at hvv7
        refine ko [14, 70, 71] 1 (by simp; rfl) ?_
        replace hvv7 := bnd hvv7; obtain ⟨y8, hy8, hvv7⟩ := hvv7
        refine kcall [14, 70, 72] [] (entropy_Distinct_ok hy8) rfl rfl rfl Try.call10 (by simp) (by simp; rfl) ?_
        refine ko [76] 4 (by simp; rfl) ?_
        refine tops_split 76 (y8 == v6.2) (by simp) (fun c12 => ?_) (fun c12 => ?_)
        · rw [if_pos c12] at hvv7
          replace hvv7 := bnd hvv7; obtain ⟨y9, hy9, hvv7⟩ := hvv7
          refine kcall [76, 77] [] (law02_awake_ok hy9) rfl rfl rfl Try.call11 (by simp) (by simp; rfl) ?_
          refine ko [6] 2 (by simp; rfl) ?_
          refine tops_nil ?_
          cases hvv7
          exact ⟨_, rfl, wk (by simp [weak_iff])⟩
        · rw [if_neg (by rw [c12]; decide)] at hvv7
          refine ko [6] 3 (by simp; rfl) ?_
          refine tops_nil ?_
          cases hvv7
          exact ⟨_, rfl, wk (by simp [weak_iff])⟩
      · rw [if_neg (by rw [c11]; decide)] at hvv7
        refine ko [6] 9 (by simp; rfl) ?_
        refine tops_nil ?_
        cases hvv7
        exact ⟨_, rfl, wk (by simp [weak_iff])⟩
  · refine tr_block (tr_iter (fun s10 : Int × Int × Int => ({ nt := 79, env := [(8, .d (.slice (rowsF (iRow .u8) y1.1))), (9, .d (.slice (rowsF (iRow .u8) y2.1))), (10, .ptr 10 0), (11, .ptr 11 0), (12, .ptr 12 0), (13, .d (.int .i64 s10.1)), (14, .d (.int .i64 s10.2.1)), (15, .d (.int .i64 s10.2.2))], box := [(10, arC (iRow .i64) y3), (11, arC (iRow .i64) y4), (12, arC (iRow .i64) y5)], vec := [] } : St)) hI1 (wk (by simp [weak_iff])) fun G1 s10 o1 h1 hg1 he1 => ?_)
    unfold law02_EntropyCounts_l0 at h1
    refine tr_seq ?_
    refine kr [8, 9, 10, 11, 12, 13, 14, 15, 38] (by simp; rfl) ?_
    refine tr_cond (b := (decide (s10.2.2 < 256))) (by simp) (fun c13 => ?_) (fun c13 => ?_)
    · rw [if_pos c13] at h1
      refine tr_skip ?_
      refine tr_seq ?_
      refine tr_block ?_
      replace h1 := bnd h1; obtain ⟨_, p38, h1⟩ := h1
      replace p38 := ck_some p38
      have p38' := p38; try simp at p38'
      replace h1 := bnd h1; obtain ⟨x11, p39, h1⟩ := h1
      replace p39 := idx_some p39
      have p39' := p39; try simp at p39'
      refine kr [8, 9, 10, 11, 12, 13, 14, 15] (by simp [p38, p39, p38', p39']; rfl) ?_
      refine tr_seq ?_
      refine kd [[], [0], [1], [], [3], [4], [], [6], [7], [5, 8], [2, 9]] [] [] 11 fol (by decide +kernel) ?_
      replace h1 := bnd h1; obtain ⟨_, p46, h1⟩ := h1
      replace p46 := ck_some p46
      have p46' := p46; try simp at p46'
      replace h1 := bnd h1; obtain ⟨x12, p47, h1⟩ := h1
      replace p47 := idx_some p47
      have p47' := p47; try simp at p47'
      replace h1 := bnd h1; obtain ⟨_, p48, h1⟩ := h1
      replace p48 := ck_some p48
      have p48' := p48; try simp at p48'
      replace h1 := bnd h1; obtain ⟨x13, p49, h1⟩ := h1
      replace p49 := idx_some p49
      have p49' := p49; try simp at p49'
      replace h1 := bnd h1; obtain ⟨_, p50, h1⟩ := h1
      replace p50 := ck_some p50
      have p50' := p50; try simp at p50'
      replace h1 := bnd h1; obtain ⟨x14, p51, h1⟩ := h1
      replace p51 := idx_some p51
      have p51' := p51; try simp at p51'
      refine dr_go 0 11 rfl (by simp (maxSteps := 1000000) [p46, p47, p48, p49, p50, p51, p46', p47', p48', p49', p50', p51']; rfl) ?_
      refine dr_end rfl (tops_nil ?_)
      refine tr_cond (b := (x12 != (IntKind.i64.wrap (x13 + x14)))) (by simp) (fun c14 => ?_) (fun c14 => ?_)
      · rw [if_pos c14] at h1
        refine kr [6] (by simp; rfl) ?_
        have k1 := he1 _ (Option.some.inj h1)
        subst k1
        dsimp only at h0
        cases h0
        exact tr_ret ⟨[], by simp, rfl, by simp⟩
      · rw [if_neg (by rw [c14]; decide)] at h1
        refine tr_skip ?_
        replace h1 := bnd h1; obtain ⟨_, p52, h1⟩ := h1
        replace p52 := ck_some p52
        have p52' := p52; try simp at p52'
        replace h1 := bnd h1; obtain ⟨x15, p53, h1⟩ := h1
        replace p53 := idx_some p53
        have p53' := p53; try simp at p53'
        refine kr [8, 9, 10, 11, 12, 13, 14, 15, 60] (by simp [p52, p53, p52', p53']; rfl) ?_
        refine tr_cond (b := (decide (0 < x15))) (by simp) (fun c15 => ?_) (fun c15 => ?_)
        · rw [if_pos c15] at h1
          refine lr (by simp; rfl) ?_
          refine lr (by simp; rfl) ?_
          exact ⟨_, hg1 _ (Option.some.inj h1), wk (by simp [weak_iff])⟩
        · rw [if_neg (by rw [c15]; decide)] at h1
          refine tr_skip ?_
          refine lr (by simp; rfl) ?_
          exact ⟨_, hg1 _ (Option.some.inj h1), wk (by simp [weak_iff])⟩
    · rw [if_neg (by rw [c13]; decide)] at h1
      refine tr_exit ?_
      exact ⟨_, he1 _ (Option.some.inj h1), wk (by simp [weak_iff])⟩
end Go.Vl
