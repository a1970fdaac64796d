/- Walks: each function of the given program computes what its mirror says. Conditions: none. -/
import Derived.Test.YtnhppgonpdddgaaVmQ
import Derived.Test.YtnhppgonpdddgaaZw1
set_option linter.unusedSimpArgs false
set_option linter.unusedVariables false
namespace Go.Vl
open Go Go.Proofs
set_option maxHeartbeats 1000000 in
theorem make_Bytes_ok {a0 : make_Tape} {a1 : Int} {r : (List Int) × make_Tape} (h0 : make_Bytes a0 a1 = some r) : FnOK Try.prog 6 [make_Tape_av a0] [.ptr (InO 0) 0, .d (.int .i64 a1)] (.d (.slice (rowsF (iRow .u8) r.1))) [make_Tape_av r.2] := by
  unfold make_Bytes at h0
  refine fn_ok (nt := 47) (rs := [.tmp 4]) Try.func6 rfl Try.ntmps6 rfl (by simp) (by decide) rfl fun K => ?_
  refine kr [0, 1] (by simp; rfl) ?_
  refine kr [0, 1, 5] (by simp; rfl) ?_
  refine tr_seq ?_
  refine kr [0, 1, 5, 6] (by simp; rfl) ?_
  refine tr_wk (wk_own 5 27 5 1 (by simp) (by simp)) ?_
  replace h0 := bnd h0; obtain ⟨e1, hI1, h0⟩ := h0
  refine tjv (fun v1 : (List Int) × Int × (List Int) => ({ nt := 47, env := [(5, .vec 27)], box := [(1000000, [.d (.slice (rowsF (iRow .i64) v1.1)), .d (.int .i64 v1.2.1)])], vec := [(27, ⟨5, 1, rowsF (iRow .u8) v1.2.2⟩)] } : St)) (fun v1 => v1 = e1) (fun v1 hI1e _ W1 => ?_) ?_
  · subst hI1e
    refine tr_wk W1 ?_
    refine kr [4] (by simp; rfl) ?_
    cases h0
    exact tr_ret ⟨[27], by simp, rfl, by simp⟩
  · refine tr_block (tr_iter (fun s2 : Int × (List Int) × Int × (List Int) => ({ nt := 47, env := [(0, .ptr 1000000 0), (1, .d (.int .i64 a1)), (5, .vec 27), (6, .d (.int .i64 s2.1))], box := [(1000000, [.d (.slice (rowsF (iRow .i64) s2.2.1)), .d (.int .i64 s2.2.2.1)])], vec := [(27, ⟨5, 1, rowsF (iRow .u8) s2.2.2.2⟩)] } : St)) hI1 (wk (by simp [weak_iff])) fun G1 s2 o1 h1 hg1 he1 => ?_)
    unfold make_Bytes_l0 at h1
    refine tr_seq ?_
    refine kr [0, 1, 5, 6, 9] (by simp; rfl) ?_
    refine tr_cond (b := (decide (s2.1 < a1))) (by simp) (fun c16 => ?_) (fun c16 => ?_)
    · rw [if_pos c16] at h1
      refine tr_skip ?_
      refine tr_seq ?_
      refine tr_block ?_
      refine kc ?_
      refine ko [0, 1, 5, 6, 12] 1 (by simp; rfl) ?_
      replace h1 := bnd h1; obtain ⟨y3, hy3, h1⟩ := h1
      refine kcall [0, 1, 5, 6, 13] [1000000] (make_Tape_Next_ok hy3) rfl rfl rfl Try.call14 (by simp) (by simp; rfl) ?_
      refine tops_nil ?_
      refine tr_block ?_
      refine kr [0, 1, 5, 6, 13, 20] (by simp; rfl) ?_
      refine tr_cond (b := (y3.1 == 0)) (by simp) (fun c17 => ?_) (fun c17 => ?_)
      · rw [if_pos c17] at h1
        refine kc1 ?_
        refine ko [0, 1, 6, 22, 23] 2 (by simp; rfl) ?_
        replace h1 := bnd h1; obtain ⟨y4, hy4, h1⟩ := h1
        refine kcall [0, 1, 6, 22, 24] [1000000] (make_Tape_Next_ok hy4) rfl rfl rfl Try.call14 (by simp) (by simp; rfl) ?_
        replace h1 := bnd h1; obtain ⟨x5, p21, h1⟩ := h1
        have ix22 : indexVA Try.prog 9 (.d (.str (⟨#[32, 10, 61, 37, 43, 47, 45, 46]⟩ : ByteArray))) y4.1 = some (.d (.int .u8 x5)) := index_str Try.underlying9 p21
        replace h1 := bnd h1; obtain ⟨_, p23, h1⟩ := h1
        replace p23 := ck_some p23
        have p23' := p23; try simp at p23'
        refine ko [0, 1, 5, 6] 4 (by simp [ix22, -indexVA, p23, p23']; rfl) ?_
        refine tops_nil ?_
        refine lr (by simp; rfl) ?_
        exact ⟨_, hg1 _ (Option.some.inj h1), wk (by simp [weak_iff])⟩
      · rw [if_neg (by rw [c17]; decide)] at h1
        refine kr [0, 1, 5, 6, 13, 28] (by simp; rfl) ?_
        refine tr_cond (b := (y3.1 == 1)) (by simp) (fun c18 => ?_) (fun c18 => ?_)
        · rw [if_pos c18] at h1
          refine kc1 ?_
          refine ko [0, 1, 6, 30, 31] 2 (by simp; rfl) ?_
          replace h1 := bnd h1; obtain ⟨y6, hy6, h1⟩ := h1
          refine kcall [0, 1, 6, 30, 32] [1000000] (make_Tape_Next_ok hy6) rfl rfl rfl Try.call14 (by simp) (by simp; rfl) ?_
          replace h1 := bnd h1; obtain ⟨_, p24, h1⟩ := h1
          replace p24 := ck_some p24
          have p24' := p24; try simp at p24'
          refine ko [0, 1, 5, 6] 4 (by simp [p24, p24']; rfl) ?_
          refine tops_nil ?_
          refine lr (by simp; rfl) ?_
          exact ⟨_, hg1 _ (Option.some.inj h1), (wk_ren 35 27).trans (wk (by simp [weak_iff]))⟩
        · rw [if_neg (by rw [c18]; decide)] at h1
          refine sjv (fun v7 : Bool => ({ nt := 47, env := [(0, .ptr 1000000 0), (1, .d (.int .i64 a1)), (5, .vec 27), (6, .d (.int .i64 s2.1)), (36, .d (.bool v7))], box := [(1000000, [.d (.slice (rowsF (iRow .i64) y3.2.L)), .d (.int .i64 y3.2.at_)])], vec := [(27, ⟨5, 1, rowsF (iRow .u8) s2.2.2.2⟩)] } : St)) (fun v7 => make_Bytes_j1 y3 s2 v7 = some o1) (fun v7 h1 => ?_) ?_
          · unfold make_Bytes_j1 at h1
            refine tr_cond (b := v7) (by simp) (fun c20 => ?_) (fun c20 => ?_)
            · rw [if_pos c20] at h1
              refine kc1 ?_
              refine ko [0, 1, 6, 39, 40] 2 (by simp; rfl) ?_
              replace h1 := bnd h1; obtain ⟨y8, hy8, h1⟩ := h1
              refine kcall [0, 1, 6, 39, 41] [1000000] (make_Tape_Next_ok hy8) rfl rfl rfl Try.call14 (by simp) (by simp; rfl) ?_
              replace h1 := bnd h1; obtain ⟨_, p25, h1⟩ := h1
              replace p25 := ck_some p25
              have p25' := p25; try simp at p25'
              refine ko [0, 1, 5, 6] 5 (by simp [p25, p25']; rfl) ?_
              refine tops_nil ?_
              refine lr (by simp; rfl) ?_
              exact ⟨_, hg1 _ (Option.some.inj h1), (wk_ren 45 27).trans (wk (by simp [weak_iff]))⟩
            · rw [if_neg (by rw [c20]; decide)] at h1
              refine kc1 ?_
              refine ko [0, 1, 6, 14, 15] 2 (by simp; rfl) ?_
              replace h1 := bnd h1; obtain ⟨y9, hy9, h1⟩ := h1
              refine kcall [0, 1, 6, 14, 16] [1000000] (make_Tape_Next_ok hy9) rfl rfl rfl Try.call14 (by simp) (by simp; rfl) ?_
              replace h1 := bnd h1; obtain ⟨x10, p26, h1⟩ := h1
              have ix27 : indexVA Try.prog 9 (.d (.str (⟨#[97, 98, 99, 100, 101, 102, 116, 107]⟩ : ByteArray))) y9.1 = some (.d (.int .u8 x10)) := index_str Try.underlying9 p26
              replace h1 := bnd h1; obtain ⟨_, p28, h1⟩ := h1
              replace p28 := ck_some p28
              have p28' := p28; try simp at p28'
              refine ko [0, 1, 5, 6] 4 (by simp [ix27, -indexVA, p28, p28']; rfl) ?_
              refine tops_nil ?_
              refine lr (by simp; rfl) ?_
              exact ⟨_, hg1 _ (Option.some.inj h1), (wk_ren 19 27).trans (wk (by simp [weak_iff]))⟩
          · refine kr [0, 1, 5, 6, 13, 36] (by simp; rfl) ?_
            refine tr_cond (b := (y3.1 == 2)) (by simp) (fun c21 => ?_) (fun c21 => ?_)
            · rw [if_pos c21] at h1
              refine tr_skip ?_
              exact ⟨_, h1, wk (by simp [weak_iff])⟩
            · rw [if_neg (by rw [c21]; decide)] at h1
              refine lr (by simp; rfl) ?_
              exact ⟨_, h1, wk (by simp [weak_iff])⟩
    · rw [if_neg (by rw [c16]; decide)] at h1
      refine tr_exit ?_
      exact ⟨_, he1 _ (Option.some.inj h1), wk (by simp [weak_iff])⟩
set_option maxHeartbeats 1000000 in
theorem entropy_Counts_ok {a0 : List Int} {r : (List Int)} (h0 : entropy_Counts a0 = some r) : FnOK Try.prog 31 [] [.d (.slice (rowsF (iRow .u8) a0))] (.agg (arC (iRow .i64) r)) [] := by
  unfold entropy_Counts at h0
  refine fn_ok (nt := 23) (rs := [.cell 2 61]) Try.func31 rfl Try.ntmps31 rfl (by simp) (by decide) rfl fun K => ?_
  refine kr [0, 2] (by simp; rfl) ?_
  refine kr [0, 2, 3] (by simp; rfl) ?_
  refine tr_seq ?_
  refine kr [0, 2, 3, 8] (by simp; rfl) ?_
  refine tr_cond (b := (decide (65536 < ((a0).length : Int)))) (by simp) (fun c1 => ?_) (fun c1 => ?_)
  · rw [if_pos c1] at h0
    refine kr [2] (by simp [arC_take (zerosI_length 256), arC_drop (zerosI_length 256)]; rfl) ?_
    cases h0
    exact tr_ret ⟨[], by simp [arC_take (zerosI_length 256), arC_drop (zerosI_length 256)], by simp, by simp [arC_take (zerosI_length 256), arC_drop (zerosI_length 256)]⟩
  · rw [if_neg (by rw [c1]; decide)] at h0
    refine tr_skip ?_
    refine tr_seq ?_
    refine kr [2, 3, 10, 11, 12] (by simp; rfl) ?_
    replace h0 := bnd h0; obtain ⟨e1, hI1, h0⟩ := h0
    refine tjv (fun v1 : (List Int) => ({ nt := 23, env := [(2, .ptr 2 0), (3, .ptr 3 0)], box := [(2, arC (iRow .i64) (zerosI 256)), (3, arC (iRow .i64) v1)], vec := [] } : St)) (fun v1 => v1 = e1) (fun v1 hI1e _ W1 => ?_) ?_
    · subst hI1e
      refine tr_wk W1 ?_
      replace h0 := bnd h0; obtain ⟨_, p11, h0⟩ := h0
      replace p11 := ck_some p11
      have p11' := p11; try simp at p11'
      replace h0 := bnd h0; obtain ⟨_, p12, h0⟩ := h0
      replace p12 := ck_some p12
      have p12' := p12; try simp at p12'
      refine kr [2] (by simp [p11, arC_take p11, arC_drop p11, arC_take (zerosI_length 256), arC_drop (zerosI_length 256), p12, arC_take p12, arC_drop p12, p11', p12']; rfl) ?_
      replace h0 := bnd h0; obtain ⟨_, p13, h0⟩ := h0
      replace p13 := ck_some p13
      have p13' := p13; try simp at p13'
      cases h0
      exact tr_ret ⟨[], by simp [p13, arC_take p13, arC_drop p13, p13'], by simp, by simp [p13, arC_take p13, arC_drop p13, p13']⟩
    · refine tr_block (tr_iter (fun s2 : Int × (List Int) => ({ nt := 23, env := [(2, .ptr 2 0), (3, .ptr 3 0), (10, .d (.slice (rowsF (iRow .u8) a0))), (11, .d (.int .i64 ((a0).length : Int))), (12, .d (.int .i64 s2.1))], box := [(2, arC (iRow .i64) (zerosI 256)), (3, arC (iRow .i64) s2.2)], vec := [] } : St)) hI1 (wk (by simp [weak_iff])) fun G1 s2 o1 h1 hg1 he1 => ?_)
      unfold entropy_Counts_l0 at h1
      refine kr [2, 3, 10, 11, 12, 13] (by simp; rfl) ?_
      refine tr_seq ?_
      refine tr_cond (b := (decide (s2.1 < ((a0).length : Int)))) (by simp) (fun c4 => ?_) (fun c4 => ?_)
      · rw [if_pos c4] at h1
        refine tr_skip ?_
        refine tr_seq ?_
        refine tr_block ?_
        replace h1 := bnd h1; obtain ⟨x3, p14, h1⟩ := h1
        replace p14 := idx_some p14
        have p14' := p14; try simp at p14'
        refine kr [2, 3, 5, 10, 11, 12] (by simp [p14, p14']; rfl) ?_
        replace h1 := bnd h1; obtain ⟨_, p15, h1⟩ := h1
        replace p15 := ck_some p15
        have p15' := p15; try simp at p15'
        replace h1 := bnd h1; obtain ⟨x4, p16, h1⟩ := h1
        replace p16 := idx_some p16
        have p16' := p16; try simp at p16'
        replace h1 := bnd h1; obtain ⟨_, p17, h1⟩ := h1
        replace p17 := ck_some p17
        have p17' := p17; try simp at p17'
        replace h1 := bnd h1; obtain ⟨_, p18, h1⟩ := h1
        replace p18 := ck_some p18
        refine lr (by simp [p15, p16, p17, show (Int.toNat x3) + 1 ≤ (s2.2).length from p18, arC_put p18, p15', p16', p17']; rfl) ?_
        refine lr (by simp; rfl) ?_
        exact ⟨_, hg1 _ (Option.some.inj h1), wk (by simp [weak_iff])⟩
      · rw [if_neg (by rw [c4]; decide)] at h1
        refine tr_exit ?_
        exact ⟨_, he1 _ (Option.some.inj h1), wk (by simp [weak_iff])⟩
set_option maxHeartbeats 1000000 in
theorem math_bits_Len_ok {a0 : Int} {r : Int} (h0 : math_bits_Len a0 = some r) : FnOK Try.prog 32 [] [.d (.int .u64 a0)] (.d (.int .i64 r)) [] := by
  unfold math_bits_Len at h0
  refine fn_ok (nt := 8) (rs := [.tmp 2]) Try.func32 rfl Try.ntmps32 rfl (by simp) (by decide) rfl fun K => ?_
  refine kr [0] (by simp; rfl) ?_
  refine tr_seq ?_
  refine tr_cond (b := false) (by simp) (fun h => by cases h) (fun _ => ?_)
  refine tr_skip ?_
  refine kc ?_
  refine ko [6] 1 (by simp; rfl) ?_
  replace h0 := bnd h0; obtain ⟨y1, hy1, h0⟩ := h0
  refine kcall [7] [] (math_bits_Len64_ok hy1) rfl rfl rfl Try.call41 (by simp) (by simp; rfl) ?_
  refine ko [2] 1 (by simp; rfl) ?_
  refine tops_nil ?_
  cases h0
  exact tr_ret ⟨[], by simp, rfl, by simp⟩
set_option maxHeartbeats 1000000 in
theorem entropy_Log_ok {a0 : Int} {r : Int} (h0 : entropy_Log a0 = some r) : FnOK Try.prog 9 [] [.d (.int .i64 a0)] (.d (.int .i64 r)) [] := by
  unfold entropy_Log at h0
  refine fn_ok (nt := 35) (rs := [.tmp 2]) Try.func9 rfl Try.ntmps9 rfl (by simp) (by decide) rfl fun K => ?_
  refine kr [0] (by simp; rfl) ?_
  refine tr_seq ?_
  replace h0 := bnd h0; obtain ⟨v1, hvv1, h0⟩ := h0
  refine sjv (fun v1_ : Bool => ({ nt := 35, env := [(0, .d (.int .i64 a0)), (10, .d (.bool v1_))], box := [], vec := [] } : St)) (fun v1_ => v1 = v1_) (fun v1_ e => ?_) ?_
  · subst e
    refine tr_cond (b := v1) (by simp) (fun c3 => ?_) (fun c3 => ?_)
    · rw [if_pos c3] at h0
      refine kr [2] (by simp; rfl) ?_
      cases h0
      exact tr_ret ⟨[], by simp, rfl, by simp⟩
    · rw [if_neg (by rw [c3]; decide)] at h0
      refine tr_skip ?_
      refine kc ?_
      refine ko [0, 12] 2 (by simp; rfl) ?_
      replace h0 := bnd h0; obtain ⟨y2, hy2, h0⟩ := h0
      refine kcall [0, 13] [] (math_bits_Len_ok hy2) rfl rfl rfl Try.call32 (by simp) (by simp; rfl) ?_
      refine ko [0, 3] 2 (by simp; rfl) ?_
      refine tops_nil ?_
      replace h0 := bnd h0; obtain ⟨_, p1, h0⟩ := h0
      replace p1 := ck_some p1
      have p1' := p1; try simp at p1'
      refine kr [3, 4] (by simp [p1, p1']; rfl) ?_
      refine tr_seq ?_
      refine kr [3, 4, 19] (by simp; rfl) ?_
      replace h0 := bnd h0; obtain ⟨e1, hI1, h0⟩ := h0
      refine tjv (fun v3 : Int => ({ nt := 35, env := [(3, .d (.int .i64 v3))], box := [], vec := [] } : St)) (fun v3 => v3 = e1) (fun v3 hI1e _ W1 => ?_) ?_
      · subst hI1e
        refine tr_wk W1 ?_
        refine kr [2] (by simp; rfl) ?_
        cases h0
        exact tr_ret ⟨[], by simp, rfl, by simp⟩
      · refine tr_block (tr_iter (fun s4 : Int × Int × Int => ({ nt := 35, env := [(3, .d (.int .i64 s4.1)), (4, .d (.int .i64 s4.2.1)), (19, .d (.int .i64 s4.2.2))], box := [], vec := [] } : St)) hI1 (wk (by simp [weak_iff])) fun G1 s4 o1 h1 hg1 he1 => ?_)
        unfold entropy_Log_l0 at h1
        refine kr [3, 4, 19, 20] (by simp; rfl) ?_
        refine tr_seq ?_
        refine tr_cond (b := (decide (s4.2.2 < 16))) (by simp) (fun c8 => ?_) (fun c8 => ?_)
        · rw [if_pos c8] at h1
          refine tr_skip ?_
          refine tr_seq ?_
          refine tr_block ?_
          refine kr [3, 4, 19] (by simp; rfl) ?_
          refine kr [3, 4, 19] (by simp; rfl) ?_
          refine kr [3, 4, 19, 28] (by simp; rfl) ?_
          refine tr_cond (b := (decide (2147483648 ≤ (IntKind.i64.wrap (((IntKind.i64.wrap (s4.2.1 * s4.2.1))).tdiv 1073741824))))) (by simp) (fun c9 => ?_) (fun c9 => ?_)
          · rw [if_pos c9] at h1
            refine kr [3, 4, 19] (by simp; rfl) ?_
            refine lr (by simp; rfl) ?_
            refine lr (by simp; rfl) ?_
            exact ⟨_, hg1 _ (Option.some.inj h1), wk (by simp [weak_iff])⟩
          · rw [if_neg (by rw [c9]; decide)] at h1
            refine tr_skip ?_
            refine lr (by simp; rfl) ?_
            exact ⟨_, hg1 _ (Option.some.inj h1), wk (by simp [weak_iff])⟩
        · rw [if_neg (by rw [c8]; decide)] at h1
          refine tr_exit ?_
          exact ⟨_, he1 _ (Option.some.inj h1), wk (by simp [weak_iff])⟩
  · refine kc1 ?_
    refine ko [0, 7] 3 (by simp; rfl) ?_
    refine tops_split 7 (decide (a0 < 1)) (by simp) (fun c10 => ?_) (fun c10 => ?_)
    · rw [c10] at hvv1
      refine ko [0, 10] 3 (by simp; rfl) ?_
      refine tops_nil ?_
      cases hvv1
      exact ⟨_, rfl, wk (by simp [weak_iff])⟩
    · rw [c10] at hvv1
      refine ko [0, 10] 3 (by simp; rfl) ?_
      refine tops_nil ?_
      cases hvv1
      exact ⟨_, rfl, wk (by simp [weak_iff])⟩
set_option maxHeartbeats 1000000 in
theorem entropy_Measure_ok {a0 : List Int} {r : Int} (h0 : entropy_Measure a0 = some r) : FnOK Try.prog 7 [] [.d (.slice (rowsF (iRow .u8) a0))] (.d (.int .i64 r)) [] := by
  unfold entropy_Measure at h0
  refine fn_ok (nt := 25) (rs := [.tmp 2]) Try.func7 rfl Try.ntmps7 rfl (by simp) (by decide) rfl fun K => ?_
  refine kr [0] (by simp; rfl) ?_
  refine kr [0, 3] (by simp; rfl) ?_
  refine tr_seq ?_
  refine kc ?_
  refine ko [0, 3, 6] 1 (by simp; rfl) ?_
  replace h0 := bnd h0; obtain ⟨y1, hy1, h0⟩ := h0
  refine kcall [0, 3, 7] [] (entropy_Counts_ok hy1) rfl rfl rfl Try.call31 (by simp) (by simp; rfl) ?_
  refine ko [0, 3, 7, 8] 1 (by simp; rfl) ?_
  refine tops_nil ?_
  replace h0 := bnd h0; obtain ⟨e1, hI1, h0⟩ := h0
  refine tjv (fun v2 : Int => ({ nt := 25, env := [(3, .d (.int .i64 v2))], box := [], vec := [] } : St)) (fun v2 => v2 = e1) (fun v2 hI1e _ W1 => ?_) ?_
  · subst hI1e
    refine tr_wk W1 ?_
    refine kr [2] (by simp; rfl) ?_
    cases h0
    exact tr_ret ⟨[], by simp, rfl, by simp⟩
  · refine tr_block (tr_iter (fun s3 : Int × Int => ({ nt := 25, env := [(0, .d (.slice (rowsF (iRow .u8) a0))), (3, .d (.int .i64 s3.1)), (7, .agg (arC (iRow .i64) y1)), (8, .d (.int .i64 s3.2))], box := [], vec := [] } : St)) hI1 (wk (by simp [weak_iff])) fun G1 s3 o1 h1 hg1 he1 => ?_)
    unfold entropy_Measure_l0 at h1
    refine kr [0, 3, 7, 8, 9] (by simp; rfl) ?_
    refine tr_seq ?_
    refine tr_cond (b := (decide (s3.2 < 256))) (by simp) (fun c5 => ?_) (fun c5 => ?_)
    · rw [if_pos c5] at h1
      refine tr_skip ?_
      refine tr_seq ?_
      refine tr_block ?_
      replace h1 := bnd h1; obtain ⟨_, p7, h1⟩ := h1
      replace p7 := ck_some p7
      have p7' := p7; try simp at p7'
      replace h1 := bnd h1; obtain ⟨x4, p8, h1⟩ := h1
      replace p8 := idx_some p8
      have p8' := p8; try simp at p8'
      have ix9 : indexVA Try.prog 61 (.agg (arC (iRow .i64) y1)) s3.2 = some (.d (.int .i64 x4)) := indexVA_arC Try.underlying61 sz3 p8.1 p7 p8.2 (by simp) (by simp)
      refine kr [0, 3, 5, 7, 8] (by simp [p7, p8, ix9, -indexVA, p7', p8']; rfl) ?_
      refine kr [0, 3, 5, 7, 8, 12] (by simp; rfl) ?_
      refine tr_cond (b := (decide (0 < x4))) (by simp) (fun c6 => ?_) (fun c6 => ?_)
      · rw [if_pos c6] at h1
        refine kc1 ?_
        refine ko [0, 5, 7, 8, 13, 14, 16] 4 (by simp; rfl) ?_
        replace h1 := bnd h1; obtain ⟨y5, hy5, h1⟩ := h1
        refine kcall [0, 5, 7, 8, 13, 14, 17] [] (entropy_Log_ok hy5) rfl rfl rfl Try.call9 (by simp) (by simp; rfl) ?_
        refine ko [0, 7, 8, 13, 14, 17, 18] 1 (by simp; rfl) ?_
        replace h1 := bnd h1; obtain ⟨y6, hy6, h1⟩ := h1
        refine kcall [0, 7, 8, 13, 14, 17, 19] [] (entropy_Log_ok hy6) rfl rfl rfl Try.call9 (by simp) (by simp; rfl) ?_
        refine ko [0, 3, 7, 8] 4 (by simp; rfl) ?_
        refine tops_nil ?_
        refine lr (by simp; rfl) ?_
        exact ⟨_, hg1 _ (Option.some.inj h1), wk (by simp [weak_iff])⟩
      · rw [if_neg (by rw [c6]; decide)] at h1
        refine tr_skip ?_
        refine lr (by simp; rfl) ?_
        exact ⟨_, hg1 _ (Option.some.inj h1), wk (by simp [weak_iff])⟩
    · rw [if_neg (by rw [c5]; decide)] at h1
      refine tr_exit ?_
      exact ⟨_, he1 _ (Option.some.inj h1), wk (by simp [weak_iff])⟩
set_option maxHeartbeats 1000000 in
theorem entropy_Mean_ok {a0 : List Int} {r : Int} (h0 : entropy_Mean a0 = some r) : FnOK Try.prog 8 [] [.d (.slice (rowsF (iRow .u8) a0))] (.d (.int .i64 r)) [] := by
  unfold entropy_Mean at h0
  refine fn_ok (nt := 9) (rs := [.tmp 2]) Try.func8 rfl Try.ntmps8 rfl (by simp) (by decide) rfl fun K => ?_
  refine kr [0] (by simp; rfl) ?_
  refine kc ?_
  refine ko [0, 3] 1 (by simp; rfl) ?_
  replace h0 := bnd h0; obtain ⟨y1, hy1, h0⟩ := h0
  refine kcall [0, 4] [] (entropy_Measure_ok hy1) rfl rfl rfl Try.call7 (by simp) (by simp; rfl) ?_
  replace h0 := bnd h0; obtain ⟨_, p1, h0⟩ := h0
  replace p1 := ck_some p1
  have p1' := p1; try simp at p1'
  refine ko [2] 5 (by simp [p1, p1']; rfl) ?_
  refine tops_nil ?_
  cases h0
  exact tr_ret ⟨[], by simp, rfl, by simp⟩
set_option maxHeartbeats 1000000 in
theorem entropy_Distinct_ok {a0 : List Int} {r : Int} (h0 : entropy_Distinct a0 = some r) : FnOK Try.prog 10 [] [.d (.slice (rowsF (iRow .u8) a0))] (.d (.int .i64 r)) [] := by
  unfold entropy_Distinct at h0
  refine fn_ok (nt := 17) (rs := [.tmp 2]) Try.func10 rfl Try.ntmps10 rfl (by simp) (by decide) rfl fun K => ?_
  refine kr [0] (by simp; rfl) ?_
  refine kr [0, 3] (by simp; rfl) ?_
  refine tr_seq ?_
  refine kc ?_
  refine ko [3, 6] 1 (by simp; rfl) ?_
  replace h0 := bnd h0; obtain ⟨y1, hy1, h0⟩ := h0
  refine kcall [3, 7] [] (entropy_Counts_ok hy1) rfl rfl rfl Try.call31 (by simp) (by simp; rfl) ?_
  refine ko [3, 7, 8] 1 (by simp; rfl) ?_
  refine tops_nil ?_
  replace h0 := bnd h0; obtain ⟨e1, hI1, h0⟩ := h0
  refine tjv (fun v2 : Int => ({ nt := 17, env := [(3, .d (.int .i64 v2))], box := [], vec := [] } : St)) (fun v2 => v2 = e1) (fun v2 hI1e _ W1 => ?_) ?_
  · subst hI1e
    refine tr_wk W1 ?_
    refine kr [2] (by simp; rfl) ?_
    cases h0
    exact tr_ret ⟨[], by simp, rfl, by simp⟩
  · refine tr_block (tr_iter (fun s3 : Int × Int => ({ nt := 17, env := [(3, .d (.int .i64 s3.1)), (7, .agg (arC (iRow .i64) y1)), (8, .d (.int .i64 s3.2))], box := [], vec := [] } : St)) hI1 (wk (by simp [weak_iff])) fun G1 s3 o1 h1 hg1 he1 => ?_)
    unfold entropy_Distinct_l0 at h1
    refine kr [3, 7, 8, 9] (by simp; rfl) ?_
    refine tr_seq ?_
    refine tr_cond (b := (decide (s3.2 < 256))) (by simp) (fun c3 => ?_) (fun c3 => ?_)
    · rw [if_pos c3] at h1
      refine tr_skip ?_
      refine tr_seq ?_
      refine tr_block ?_
      replace h1 := bnd h1; obtain ⟨_, p7, h1⟩ := h1
      replace p7 := ck_some p7
      have p7' := p7; try simp at p7'
      replace h1 := bnd h1; obtain ⟨x4, p8, h1⟩ := h1
      replace p8 := idx_some p8
      have p8' := p8; try simp at p8'
      have ix9 : indexVA Try.prog 61 (.agg (arC (iRow .i64) y1)) s3.2 = some (.d (.int .i64 x4)) := indexVA_arC Try.underlying61 sz3 p8.1 p7 p8.2 (by simp) (by simp)
      refine kr [3, 5, 7, 8] (by simp [p7, p8, ix9, -indexVA, p7', p8']; rfl) ?_
      refine lr (by simp; rfl) ?_
      refine lr (by simp; rfl) ?_
      exact ⟨_, hg1 _ (Option.some.inj h1), wk (by simp [weak_iff])⟩
    · rw [if_neg (by rw [c3]; decide)] at h1
      refine tr_exit ?_
      exact ⟨_, he1 _ (Option.some.inj h1), wk (by simp [weak_iff])⟩
set_option maxHeartbeats 1000000 in
theorem law02_awake_ok  {r : Bool} (h0 : law02_awake = some r) : FnOK Try.prog 11 [] [] (.d (.bool r)) [] := by
  unfold law02_awake at h0
  refine fn_ok (nt := 9) (rs := [.tmp 0]) Try.func11 rfl Try.ntmps11 rfl (by simp) (by decide) rfl fun K => ?_
  refine kr [] (by simp; rfl) ?_
  replace h0 := bnd h0; obtain ⟨v1, hvv1, h0⟩ := h0
  refine sjv (fun v1_ : Bool => ({ nt := 9, env := [(0, .d (.bool v1_))], box := [], vec := [] } : St)) (fun v1_ => v1 = v1_) (fun v1_ e => ?_) ?_
  · subst e
    cases h0
    exact tr_ret ⟨[], by simp, rfl, by simp⟩
  · refine kc1 ?_
    replace hvv1 := bnd hvv1; obtain ⟨y2, hy2, hvv1⟩ := hvv1
    refine kcall [1] [] (entropy_Log_ok hy2) rfl rfl rfl Try.call9 (by simp) (by simp; rfl) ?_
    refine ko [3] 2 (by simp; rfl) ?_
    refine tops_split 3 (y2 == 196608) (by simp) (fun c3 => ?_) (fun c3 => ?_)
    · rw [if_pos c3] at hvv1
      refine ko [3, 4] 1 (by simp; rfl) ?_
      refine kmark [3, 5] rfl rfl Try.underlying26 Try.underlying5 (n := 4) (by simp; rfl) (by simp) (by simp; rfl) ?_
      replace hvv1 := bnd hvv1; obtain ⟨y3, hy3, hvv1⟩ := hvv1
      refine kcall [3, 6] [] (entropy_Measure_ok hy3) rfl rfl rfl Try.call7 (by simp) (by simp; rfl) ?_
      refine ko [0] 3 (by simp; rfl) ?_
      refine tops_nil ?_
      cases hvv1
      exact ⟨_, rfl, wk (by simp [weak_iff])⟩
    · rw [if_neg (by rw [c3]; decide)] at hvv1
      refine kskip 4 [] (by kernel_rfl) ?_
      refine ko [0] 2 (by simp; rfl) ?_
      refine tops_nil ?_
      cases hvv1
      exact ⟨_, rfl, wk (by simp [weak_iff])⟩
set_option maxHeartbeats 1000000 in
theorem law02_EntropyOrder_ok {a0 : List Int} {a1 : Int} {r : Bool} (h0 : law02_EntropyOrder a0 a1 = some r) : FnOK Try.prog 3 [] [.d (.slice (rowsF (iRow .i64) a0)), .d (.int .i64 a1)] (.d (.bool r)) [] := by
  unfold law02_EntropyOrder at h0
  refine fn_okK (nt := 63) (rs := [.tmp 4]) Try.func3 rfl Try.ntmps3 rfl (by simp) (by decide) rfl fun K hK => ?_
  refine kr [0, 1] (by simp; rfl) ?_
  refine kr [1, 5] (by simp; rfl) ?_
  refine kc ?_
  refine ko [13, 16] 4 (by simp; rfl) ?_
  replace h0 := bnd h0; obtain ⟨y1, hy1, h0⟩ := h0
  refine kcall [17] [12] (make_Bytes_ok hy1) rfl rfl rfl Try.call6 (by simp) (by simp; rfl) ?_
  refine ko [6] 1 (by simp; rfl) ?_
  refine tops_nil ?_
  refine kr [6, 7, 8] (by simp; rfl) ?_
  refine tr_seq ?_
  refine kr [6, 7, 8, 9] (by simp; rfl) ?_
  refine tr_wk (wk_own 7 31 5 1 (by simp) (by simp)) ?_
  refine tr_wk (wk_own 8 37 5 1 (by simp) (by simp)) ?_
  replace h0 := bnd h0; obtain ⟨e1, hI1, h0⟩ := h0
  refine tjv (fun v2 : (List Int) × (List Int) => ({ nt := 63, env := [(6, .d (.slice (rowsF (iRow .u8) y1.1))), (7, .vec 31), (8, .vec 37)], box := [], vec := [(31, ⟨5, 1, rowsF (iRow .u8) v2.1⟩), (37, ⟨5, 1, rowsF (iRow .u8) v2.2⟩)] } : St)) (fun v2 => v2 = e1) (fun v2 hI1e _ W1 => ?_) ?_
  · subst hI1e
    refine tr_wk W1 ?_
    refine tr_seq ?_
    replace h0 := bnd h0; obtain ⟨v3, hvv3, h0⟩ := h0
    refine sjv (fun v3_ : Bool => ({ nt := 63, env := [(6, .d (.slice (rowsF (iRow .u8) y1.1))), (52, .d (.bool v3_))], box := [], vec := [] } : St)) (fun v3_ => v3 = v3_) (fun v3_ e => ?_) ?_
    · subst e
      refine tr_cond (b := v3) (by simp) (fun c8 => ?_) (fun c8 => ?_)
      · rw [if_pos c8] at h0
        refine kr [4] (by simp; rfl) ?_
        cases h0
        exact tr_ret ⟨[], by simp, rfl, by simp⟩
      · rw [if_neg (by rw [c8]; decide)] at h0
        refine tr_skip ?_
        replace h0 := bnd h0; obtain ⟨v4, hvv4, h0⟩ := h0
        refine sjv (fun v4_ : Bool => ({ nt := 63, env := [(4, .d (.bool v4_))], box := [], vec := [] } : St)) (fun v4_ => v4 = v4_) (fun v4_ e => ?_) ?_
        · subst e
          cases h0
          exact tr_ret ⟨[], by simp, rfl, by simp⟩
        · refine kc1 ?_
          refine ko [6, 53] 1 (by simp; rfl) ?_
          replace hvv4 := bnd hvv4; obtain ⟨y5, hy5, hvv4⟩ := hvv4
          refine kcall [6, 54] [] (entropy_Mean_ok hy5) rfl rfl rfl Try.call8 (by simp) (by simp; rfl) ?_
          refine ko [54, 55] 1 (by simp; rfl) ?_
          replace hvv4 := bnd hvv4; obtain ⟨y6, hy6, hvv4⟩ := hvv4
          refine kcall [54, 56] [] (entropy_Distinct_ok hy6) rfl rfl rfl Try.call10 (by simp) (by simp; rfl) ?_
          replace hvv4 := bnd hvv4; obtain ⟨y7, hy7, hvv4⟩ := hvv4
          refine kcall [54, 57] [] (entropy_Log_ok hy7) rfl rfl rfl Try.call9 (by simp) (by simp; rfl) ?_
          refine ko [60] 3 (by simp; rfl) ?_
          refine tops_split 60 (decide (y5 ≤ (IntKind.i64.wrap (y7 + 8)))) (by simp) (fun c11 => ?_) (fun c11 => ?_)
          · rw [if_pos c11] at hvv4
            replace hvv4 := bnd hvv4; obtain ⟨y8, hy8, hvv4⟩ := hvv4
            refine kcall [60, 61] [] (law02_awake_ok hy8) rfl rfl rfl Try.call11 (by simp) (by simp; rfl) ?_
            refine ko [4] 2 (by simp; rfl) ?_
            refine tops_nil ?_
            cases hvv4
            exact ⟨_, rfl, wk (by simp [weak_iff])⟩
          · rw [if_neg (by rw [c11]; decide)] at hvv4
            refine ko [4] 3 (by simp; rfl) ?_
            refine tops_nil ?_
            cases hvv4
            exact ⟨_, rfl, wk (by simp [weak_iff])⟩
    · refine kc1 ?_
      refine ko [6, 7, 8, 38] 1 (by simp; rfl) ?_
      replace hvv3 := bnd hvv3; obtain ⟨y9, hy9, hvv3⟩ := hvv3
      refine kcall [6, 7, 8, 39] [] (entropy_Measure_ok hy9) rfl rfl rfl Try.call7 (by simp) (by simp; rfl) ?_
      refine ko [6, 8, 39, 40] 1 (by simp; rfl) ?_
      refine tops_wk (wk_frz 31) ?_
      replace hvv3 := bnd hvv3; obtain ⟨y10, hy10, hvv3⟩ := hvv3
      refine kcall [6, 8, 39, 41] [] (entropy_Measure_ok hy10) rfl rfl rfl Try.call7 (by simp) (by simp; rfl) ?_
      refine ko [6, 8, 43] 2 (by simp; rfl) ?_
      refine tops_split 43 (y9 != y10) (by simp) (fun c12 => ?_) (fun c12 => ?_)
      · rw [if_pos c12] at hvv3
        refine kskip 3 [] (by kernel_rfl) ?_
        refine ko [6, 48] 2 (by simp; rfl) ?_
        refine kskip 3 [] (by kernel_rfl) ?_
        refine ko [6, 52] 1 (by simp; rfl) ?_
        refine tops_nil ?_
        cases hvv3
        exact ⟨_, rfl, wk (by simp [weak_iff])⟩
      · rw [if_neg (by rw [c12]; decide)] at hvv3
        refine ko [6, 43, 44] 1 (by simp; rfl) ?_
        refine tops_wk (wk_frz 37) ?_
        replace hvv3 := bnd hvv3; obtain ⟨y11, hy11, hvv3⟩ := hvv3
        refine kcall [6, 43, 45] [] (entropy_Measure_ok hy11) rfl rfl rfl Try.call7 (by simp) (by simp; rfl) ?_
        refine ko [6, 48] 3 (by simp; rfl) ?_
        refine tops_split 48 (y11 != 0) (by simp) (fun c13 => ?_) (fun c13 => ?_)
        · rw [if_pos c13] at hvv3
          refine kskip 3 [] (by kernel_rfl) ?_
          refine ko [6, 52] 1 (by simp; rfl) ?_
          refine tops_nil ?_
          cases hvv3
          exact ⟨_, rfl, wk (by simp [weak_iff])⟩
        · rw [if_neg (by rw [c13]; decide)] at hvv3
          refine ko [6, 48, 49] 1 (by simp; rfl) ?_
          replace hvv3 := bnd hvv3; obtain ⟨y12, hy12, hvv3⟩ := hvv3
          refine kcall [6, 48, 50] [] (entropy_Measure_ok hy12) rfl rfl rfl Try.call7 (by simp) (by simp; rfl) ?_
          refine ko [6, 52] 2 (by simp; rfl) ?_
          refine tops_nil ?_
          cases hvv3
          exact ⟨_, rfl, wk (by simp [weak_iff])⟩
  · refine tr_block (tr_iter (fun s13 : Int × (List Int) × (List Int) => ({ nt := 63, env := [(6, .d (.slice (rowsF (iRow .u8) y1.1))), (7, .vec 31), (8, .vec 37), (9, .d (.int .i64 s13.1))], box := [], vec := [(31, ⟨5, 1, rowsF (iRow .u8) s13.2.1⟩), (37, ⟨5, 1, rowsF (iRow .u8) s13.2.2⟩)] } : St)) hI1 (wk (by simp [weak_iff])) fun G1 s13 o1 h1 hg1 he1 => ?_)
    unfold law02_EntropyOrder_l0 at h1
    refine tr_seq ?_
    refine kr [6, 7, 8, 9, 22] (by simp; rfl) ?_
    refine tr_cond (b := (decide (0 ≤ s13.1))) (by simp) (fun c14 => ?_) (fun c14 => ?_)
    · rw [if_pos c14] at h1
      refine tr_skip ?_
      refine tr_seq ?_
      refine tr_block ?_
      replace h1 := bnd h1; obtain ⟨x14, p14, h1⟩ := h1
      replace p14 := idx_some p14
      have p14' := p14; try simp at p14'
      replace h1 := bnd h1; obtain ⟨_, p15, h1⟩ := h1
      replace p15 := ck_some p15
      have p15' := p15; try simp at p15'
      replace h1 := bnd h1; obtain ⟨x15, p16, h1⟩ := h1
      replace p16 := idx_some p16
      have p16' := p16; try simp at p16'
      replace h1 := bnd h1; obtain ⟨_, p17, h1⟩ := h1
      replace p17 := ck_some p17
      have p17' := p17; try simp at p17'
      refine kheld1 (S0 := ({ nt := 63, env := [(6, .d (.slice (rowsF (iRow .u8) y1.1))), (7, .vec 31), (8, .vec 37), (9, .d (.int .i64 s13.1))], box := [], vec := [(31, ⟨5, 1, rowsF (iRow .u8) (s13.2.1 ++ [x14])⟩), (37, ⟨5, 1, rowsF (iRow .u8) (s13.2.2 ++ [x15])⟩)] } : St)) [0, 1, 2, 3, 4, 7, 8, 9, 10] 6 (by simpa using hK) fol (by decide +kernel) rfl rfl rfl (by simp [stillsL, stillB, pureP, pureB, p14, p15, p16, p17, p14', p15', p16', p17']; rfl) (fun K' S F C => ?_) (fun _ Wk18 => ?_)
      ·
        refine ho_all C [5, 11] (by decide +kernel) (by decide) ?_
        refine hall_cons rfl (by simp [p14, p15, p16, p17, p14', p15', p16', p17']; rfl) ?_ ?_
        ·
          refine ho_all C [6, 11] (by decide +kernel) (by decide) ?_
          refine hall_cons rfl (by simp [p14, p15, p16, p17, p14', p15', p16', p17']; rfl) ?_ ?_
          ·
            refine ho_all C [11] (by decide +kernel) (by decide) ?_
            refine hall_cons rfl (by simp [p14, p15, p16, p17, p14', p15', p16', p17']; rfl) ?_ ?_
            ·
              refine ho_all C [12] (by decide +kernel) (by decide) ?_
              refine hall_cons rfl (by simp [p14, p15, p16, p17, p14', p15', p16', p17']; rfl) ?_ ?_
              ·
                refine ho_pure C 13 rfl (by decide +kernel) (by decide +kernel) (by simp [pureP, pureB]) (by simp [p14, p15, p16, p17, p14', p15', p16', p17']; rfl) ?_
                refine ho_pure C 14 rfl (by decide +kernel) (by decide +kernel) (by simp [pureP, pureB]) (by simp [p14, p15, p16, p17, p14', p15', p16', p17']; rfl) ?_
                exact ho_end C (by decide +kernel) ⟨rfl, weak_iff.2 (by simp)⟩
              exact trivial
            exact trivial
          refine hall_cons rfl (by simp [p14, p15, p16, p17, p14', p15', p16', p17']; rfl) ?_ ?_
          ·
            refine ho_all C [6] (by decide +kernel) (by decide) ?_
            refine hall_cons rfl (by simp [p14, p15, p16, p17, p14', p15', p16', p17']; rfl) ?_ ?_
            ·
              refine ho_all C [12] (by decide +kernel) (by decide) ?_
              refine hall_cons rfl (by simp [p14, p15, p16, p17, p14', p15', p16', p17']; rfl) ?_ ?_
              ·
                refine ho_pure C 13 rfl (by decide +kernel) (by decide +kernel) (by simp [pureP, pureB]) (by simp [p14, p15, p16, p17, p14', p15', p16', p17']; rfl) ?_
                refine ho_pure C 14 rfl (by decide +kernel) (by decide +kernel) (by simp [pureP, pureB]) (by simp [p14, p15, p16, p17, p14', p15', p16', p17']; rfl) ?_
                exact ho_end C (by decide +kernel) ⟨rfl, weak_iff.2 (by simp)⟩
              exact trivial
            exact trivial
          exact trivial
        refine hall_cons rfl (by simp [p14, p15, p16, p17, p14', p15', p16', p17']; rfl) ?_ ?_
        ·
          refine ho_all C [5] (by decide +kernel) (by decide) ?_
          refine hall_cons rfl (by simp [p14, p15, p16, p17, p14', p15', p16', p17']; rfl) ?_ ?_
          ·
            refine ho_all C [6] (by decide +kernel) (by decide) ?_
            refine hall_cons rfl (by simp [p14, p15, p16, p17, p14', p15', p16', p17']; rfl) ?_ ?_
            ·
              refine ho_all C [12] (by decide +kernel) (by decide) ?_
              refine hall_cons rfl (by simp [p14, p15, p16, p17, p14', p15', p16', p17']; rfl) ?_ ?_
              ·
                refine ho_pure C 13 rfl (by decide +kernel) (by decide +kernel) (by simp [pureP, pureB]) (by simp [p14, p15, p16, p17, p14', p15', p16', p17']; rfl) ?_
                refine ho_pure C 14 rfl (by decide +kernel) (by decide +kernel) (by simp [pureP, pureB]) (by simp [p14, p15, p16, p17, p14', p15', p16', p17']; rfl) ?_
                exact ho_end C (by decide +kernel) ⟨rfl, weak_iff.2 (by simp)⟩
              exact trivial
            exact trivial
          exact trivial
        exact trivial
      ·
        refine tr_wk (wk Wk18) ?_
        refine lr (by simp; rfl) ?_
        exact ⟨_, hg1 _ (Option.some.inj h1), wk (by simp [weak_iff])⟩
    · rw [if_neg (by rw [c14]; decide)] at h1
      refine tr_exit ?_
      exact ⟨_, he1 _ (Option.some.inj h1), wk (by simp [weak_iff])⟩
end Go.Vl
