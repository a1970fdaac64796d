/- Walks: each function of the given program computes what its mirror says. Conditions: none. -/
import Derived.Test.YtjfpmakolbgnhaaVmQ
import Derived.Test.YtjfpmakolbgnhaaUw2
set_option linter.unusedSimpArgs false
set_option linter.unusedVariables false
namespace Go.Vl
open Go Go.Proofs
set_option maxHeartbeats 1000000 in
theorem math_bits_Mul64_ok {a0 : Int} {a1 : Int} {r : Int × Int} (h0 : math_bits_Mul64 a0 a1 = some r) : FnOK Try.prog 108 [] [.d (.int .u64 a0), .d (.int .u64 a1)] (.tup [.d (.int .u64 r.1), .d (.int .u64 r.2)]) [] := by
  unfold math_bits_Mul64 at h0
  refine fn_ok (nt := 51) (rs := [.tmp 4, .tmp 5]) Try.func108 rfl Try.ntmps108 rfl (by simp) (by decide) rfl fun K => ?_
  refine kr [0, 1] (by simp; rfl) ?_
  refine kr [0, 1, 6] (by simp; rfl) ?_
  refine kr [0, 1, 6, 7] (by simp; rfl) ?_
  refine kr [0, 1, 6, 7, 8] (by simp; rfl) ?_
  refine kr [0, 1, 6, 7, 8, 9] (by simp; rfl) ?_
  refine kr [0, 1, 6, 7, 8, 9, 10] (by simp; rfl) ?_
  refine kr [0, 1, 6, 7, 9, 11] (by simp; rfl) ?_
  refine kr [0, 1, 6, 7, 9, 11, 12] (by simp; rfl) ?_
  refine kr [0, 1, 6, 7, 9, 12, 13] (by simp; rfl) ?_
  refine kr [0, 1, 7, 9, 12, 13] (by simp; rfl) ?_
  refine kr [0, 1, 4] (by simp; rfl) ?_
  refine kr [4, 5] (by simp; rfl) ?_
  cases h0
  exact tr_ret ⟨[], by simp, rfl, by simp⟩
set_option maxHeartbeats 1000000 in
theorem math_bits_Mul_ok {a0 : Int} {a1 : Int} {r : Int × Int} (h0 : math_bits_Mul a0 a1 = some r) : FnOK Try.prog 86 [] [.d (.int .u64 a0), .d (.int .u64 a1)] (.tup [.d (.int .u64 r.1), .d (.int .u64 r.2)]) [] := by
  unfold math_bits_Mul at h0
  refine fn_ok (nt := 30) (rs := [.tmp 4, .tmp 5]) Try.func86 rfl Try.ntmps86 rfl (by simp) (by decide) rfl fun K => ?_
  refine kr [0, 1] (by simp; rfl) ?_
  refine tr_seq ?_
  refine tr_cond (b := false) (by simp) (fun h => by cases h) (fun _ => ?_)
  refine tr_skip ?_
  refine kc ?_
  refine ko [23, 24] 2 (by simp; rfl) ?_
  replace h0 := bnd h0; obtain ⟨y1, hy1, h0⟩ := h0
  refine kcall [25] [] (math_bits_Mul64_ok hy1) rfl rfl rfl Try.call108 (by simp) (by simp; rfl) ?_
  refine ko [8, 9] 5 (by simp; rfl) ?_
  refine tops_nil ?_
  refine kr [4, 5] (by simp; rfl) ?_
  cases h0
  exact tr_ret ⟨[], by simp, rfl, by simp⟩
set_option maxHeartbeats 1000000 in
theorem slices_Repeat_api_Unit_ok {a0 : List api_Unit} {a1 : Int} {r : (List api_Unit)} (h0 : slices_Repeat_api_Unit a0 a1 = some r) : FnOK Try.prog 74 [] [.d (.slice (rowsF api_Unit_row a0)), .d (.int .i64 a1)] (.d (.slice (rowsF api_Unit_row r))) [] := by
  unfold slices_Repeat_api_Unit at h0
  refine fn_ok (nt := 48) (rs := [.tmp 4]) Try.func74 rfl Try.ntmps74 rfl (by simp) (by decide) rfl fun K => ?_
  refine kr [0, 1] (by simp; rfl) ?_
  refine tr_seq ?_
  refine kr [0, 1, 10] (by simp; rfl) ?_
  refine tr_cond (b := (decide (a1 < 0))) (by simp) (fun c1 => ?_) (fun c1 => ?_)
  · rw [if_pos c1] at h0
    cases h0
  · rw [if_neg (by rw [c1]; decide)] at h0
    refine tr_skip ?_
    refine kc ?_
    refine ko [0, 15, 17] 5 (by simp; rfl) ?_
    replace h0 := bnd h0; obtain ⟨y1, hy1, h0⟩ := h0
    refine kcall [0, 18] [] (math_bits_Mul_ok hy1) rfl rfl rfl Try.call86 (by simp) (by simp; rfl) ?_
    refine ko [0, 5, 6] 5 (by simp; rfl) ?_
    refine tops_nil ?_
    refine tr_seq ?_
    replace h0 := bnd h0; obtain ⟨v2, hvv2, h0⟩ := h0
    refine sjv (fun v2_ : Bool => ({ nt := 48, env := [(0, .d (.slice (rowsF api_Unit_row a0))), (6, .d (.int .u64 y1.2)), (26, .d (.bool v2_))], box := [], vec := [] } : St)) (fun v2_ => v2 = v2_) (fun v2_ e => ?_) ?_
    · subst e
      refine tr_cond (b := v2) (by simp) (fun c4 => ?_) (fun c4 => ?_)
      · rw [if_pos c4] at h0
        cases h0
      · rw [if_neg (by rw [c4]; decide)] at h0
        refine tr_skip ?_
        replace h0 := bnd h0; obtain ⟨_, p1, h0⟩ := h0
        replace p1 := ck_some p1
        have p1' := p1; try simp at p1'
        replace h0 := bnd h0; obtain ⟨l3, p2, h0⟩ := h0
        replace p2 := Option.some.inj p2
        refine kr [0, 7] (by simp [p1, (show List.replicate (Int.toNat (IntKind.i64.wrap y1.2)) ([.bool false, .int .i64 0, .int .i64 0] : List D) = rowsF api_Unit_row l3 from by subst p2; simp [rowsF]), p1']; rfl) ?_
        refine kr [7, 8] (by simp; rfl) ?_
        replace h0 := bnd h0; obtain ⟨e1, hI1, h0⟩ := h0
        refine sjv (fun v4 : (List api_Unit) => ({ nt := 48, env := [(7, .vec 30)], box := [], vec := [(30, ⟨53, 3, rowsF api_Unit_row v4⟩)] } : St)) (fun v4 => v4 = e1) (fun v4 hI1e => ?_) ?_
        · subst hI1e
          refine kr [4] (by simp; rfl) ?_
          cases h0
          exact tr_ret ⟨[30], by simp, rfl, by simp⟩
        · refine tr_block (tr_iter (fun s5 : Int × (List api_Unit) => ({ nt := 48, env := [(7, .vec 30), (8, .d (.int .i64 s5.1))], box := [], vec := [(30, ⟨53, 3, rowsF api_Unit_row s5.2⟩)] } : St)) hI1 (wk (by simp [weak_iff])) fun G1 s5 o1 h1 hg1 he1 => ?_)
          unfold slices_Repeat_api_Unit_l0 at h1
          refine tr_seq ?_
          refine kr [7, 8, 37] (by simp; rfl) ?_
          refine tr_cond (b := (decide (s5.1 < ((s5.2).length : Int)))) (by simp) (fun c7 => ?_) (fun c7 => ?_)
          · rw [if_pos c7] at h1
            refine tr_skip ?_
            refine tr_block ?_
            replace h1 := bnd h1; obtain ⟨_, p11, h1⟩ := h1
            replace p11 := ck_some p11
            have p11' := p11; try simp at p11'
            replace h1 := bnd h1; obtain ⟨_, p12, h1⟩ := h1
            replace p12 := ck_some p12
            have p12' := p12; try simp at p12'
            refine kmix1 7 fol (by decide +kernel) (by simp [p11, p12, p11', p12']; rfl) (by repeat (first | exact np_fin | exact np_finv | refine np_then ?_ | refine np_block ?_)) ?_
            replace h1 := bnd h1; obtain ⟨_, p13, h1⟩ := h1
            replace p13 := ck_some p13
            have p13' := p13; try simp at p13'
            replace h1 := bnd h1; obtain ⟨_, p14, h1⟩ := h1
            replace p14 := ck_some p14
            have p14' := p14; try simp at p14'
            refine ko [7, 8] 3 (by simp [p11, p12, p13, p14, p11', p12', p13', p14']; rfl) ?_
            refine tops_nil ?_
            exact ⟨_, hg1 _ (Option.some.inj h1), wk (by simp [weak_iff])⟩
          · rw [if_neg (by rw [c7]; decide)] at h1
            refine tr_exit ?_
            exact ⟨_, he1 _ (Option.some.inj h1), wk (by simp [weak_iff])⟩
    · refine kc1 ?_
      refine ko [0, 6, 23] 3 (by simp; rfl) ?_
      refine tops_split 23 (decide (0 < y1.1)) (by simp) (fun c8 => ?_) (fun c8 => ?_)
      · rw [c8] at hvv2
        refine ko [0, 6, 26] 3 (by simp; rfl) ?_
        refine tops_nil ?_
        cases hvv2
        exact ⟨_, rfl, wk (by simp [weak_iff])⟩
      · rw [c8] at hvv2
        refine ko [0, 6, 26] 3 (by simp; rfl) ?_
        refine tops_nil ?_
        cases hvv2
        exact ⟨_, rfl, wk (by simp [weak_iff])⟩
set_option maxHeartbeats 1000000 in
theorem fleet_Start_ok {a0 : api_Fleet} {r : api_Rotation × Int} (h0 : fleet_Start a0 = some r) : FnOK Try.prog 60 [] [.agg (api_Fleet_av a0)] (.tup [.agg (api_Rotation_av r.1), .d (.int .i64 r.2)]) [] := by
  unfold fleet_Start at h0
  refine fn_ok (nt := 20) (rs := [.cell 2 33, .tmp 3]) Try.func60 rfl Try.ntmps60 rfl (by simp) (by decide) rfl fun K => ?_
  refine kr [1, 2] (by simp; rfl) ?_
  refine tr_seq ?_
  refine kc ?_
  refine ko [1, 2, 6] 1 (by simp; rfl) ?_
  replace h0 := bnd h0; obtain ⟨y1, hy1, h0⟩ := h0
  refine kcall [1, 2, 7] [] (fleet_Check_ok hy1) rfl rfl rfl Try.call62 (by simp) (by simp; rfl) ?_
  refine ko [1, 2, 4] 1 (by simp; rfl) ?_
  refine tops_nil ?_
  refine kr [1, 2, 4, 9] (by simp; rfl) ?_
  refine tr_cond (b := (y1 != 0)) (by simp) (fun c1 => ?_) (fun c1 => ?_)
  · rw [if_pos c1] at h0
    refine kr [2, 3] (by simp; rfl) ?_
    cases h0
    exact tr_ret ⟨[], by simp, rfl, by simp⟩
  · rw [if_neg (by rw [c1]; decide)] at h0
    refine tr_skip ?_
    refine kc ?_
    refine ko [2, 13, 16] 5 (by simp; rfl) ?_
    refine tops_wk (wk_frz 13) ?_
    replace h0 := bnd h0; obtain ⟨y2, hy2, h0⟩ := h0
    refine kcall [2, 17] [] (slices_Repeat_api_Unit_ok hy2) rfl rfl rfl Try.call74 (by simp) (by simp; rfl) ?_
    refine ko [2, 5] 1 (by simp; rfl) ?_
    refine tops_nil ?_
    refine kr [2, 3] (by simp; rfl) ?_
    cases h0
    exact tr_ret ⟨[], by simp, rfl, by simp⟩
set_option maxHeartbeats 1000000 in
theorem fleet_Pools_ok {a0 : api_Fleet} {r : (List Int)} (h0 : fleet_Pools a0 = some r) : FnOK Try.prog 47 [] [.agg (api_Fleet_av a0)] (.d (.slice (rowsF (iRow .i64) r))) [] := by
  unfold fleet_Pools at h0
  refine fn_ok (nt := 26) (rs := [.tmp 2]) Try.func47 rfl Try.ntmps47 rfl (by simp) (by decide) rfl fun K => ?_
  refine kr [1] (by simp; rfl) ?_
  refine tr_seq ?_
  refine kc ?_
  refine ko [1, 6] 1 (by simp; rfl) ?_
  replace h0 := bnd h0; obtain ⟨y1, hy1, h0⟩ := h0
  refine kcall [1, 7] [] (fleet_Check_ok hy1) rfl rfl rfl Try.call62 (by simp) (by simp; rfl) ?_
  refine ko [1, 8] 1 (by simp; rfl) ?_
  refine tops_nil ?_
  refine tr_cond (b := (y1 != 0)) (by simp) (fun c1 => ?_) (fun c1 => ?_)
  · rw [if_pos c1] at h0
    refine kr [2] (by simp; rfl) ?_
    cases h0
    exact tr_ret ⟨[], by simp, rfl, by simp⟩
  · rw [if_neg (by rw [c1]; decide)] at h0
    refine tr_skip ?_
    refine kr [1, 3] (by simp; rfl) ?_
    refine tr_seq ?_
    refine kr [3, 10, 11, 12] (by simp; rfl) ?_
    refine tr_wk (wk_own 3 20 3 1 (by simp) (by simp)) ?_
    replace h0 := bnd h0; obtain ⟨e1, hI1, h0⟩ := h0
    refine tjv (fun v2 : (List Int) => ({ nt := 26, env := [(3, .vec 20)], box := [], vec := [(20, ⟨3, 1, rowsF (iRow .i64) v2⟩)] } : St)) (fun v2 => v2 = e1) (fun v2 hI1e _ W1 => ?_) ?_
    · subst hI1e
      refine tr_wk W1 ?_
      refine kc ?_
      refine ko [3, 22] 1 (by simp; rfl) ?_
      replace h0 := bnd h0; obtain ⟨y3, hy3, h0⟩ := h0
      refine kcallH [3] [] [20] [(3, 20), (22, 20)] (slices_Sort_int_vec0_ok hy3) rfl rfl rfl Try.call63 (by simp) (by simp; rfl) ?_
      refine tops_nil ?_
      refine kc ?_
      refine ko [24] 1 (by simp; rfl) ?_
      replace h0 := bnd h0; obtain ⟨y4, hy4, h0⟩ := h0
      refine kcallV [25] [] [20] [600100] (slices_Compact_int_eat0_own0_ok hy4) rfl rfl rfl Try.call64 (by simp) (by simp; rfl) ?_
      refine ko [2] 1 (by simp; rfl) ?_
      refine tops_nil ?_
      cases h0
      exact tr_ret ⟨[600100], by simp, rfl, by simp⟩
    · refine tr_block (tr_iter (fun s5 : Int × (List Int) => ({ nt := 26, env := [(3, .vec 20), (10, .d (.slice (rowsF api_Consumer_row a0.Consumers))), (11, .d (.int .i64 ((a0.Consumers).length : Int))), (12, .d (.int .i64 s5.1))], box := [], vec := [(20, ⟨3, 1, rowsF (iRow .i64) s5.2⟩)] } : St)) hI1 (wk (by simp [weak_iff])) fun G1 s5 o1 h1 hg1 he1 => ?_)
      unfold fleet_Pools_l0 at h1
      refine kr [3, 10, 11, 12, 13] (by simp; rfl) ?_
      refine tr_seq ?_
      refine tr_cond (b := (decide (s5.1 < ((a0.Consumers).length : Int)))) (by simp) (fun c5 => ?_) (fun c5 => ?_)
      · rw [if_pos c5] at h1
        refine tr_skip ?_
        refine tr_seq ?_
        refine tr_block ?_
        replace h1 := bnd h1; obtain ⟨x6, p6, h1⟩ := h1
        replace p6 := idx_some p6
        have p6' := p6; try simp at p6'
        refine kr [3, 5, 10, 11, 12] (by simp [p6, p6']; rfl) ?_
        replace h1 := bnd h1; obtain ⟨_, p7, h1⟩ := h1
        replace p7 := ck_some p7
        have p7' := p7; try simp at p7'
        refine lr (by simp [p7, p7']; rfl) ?_
        refine lr (by simp; rfl) ?_
        exact ⟨_, hg1 _ (Option.some.inj h1), wk (by simp [weak_iff])⟩
      · rw [if_neg (by rw [c5]; decide)] at h1
        refine tr_exit ?_
        exact ⟨_, he1 _ (Option.some.inj h1), wk (by simp [weak_iff])⟩
set_option maxHeartbeats 1000000 in
theorem fleet_Units_ok {a0 : api_Fleet} {a1 : Int} {r : (List Int)} (h0 : fleet_Units a0 a1 = some r) : FnOK Try.prog 48 [] [.agg (api_Fleet_av a0), .d (.int .i64 a1)] (.d (.slice (rowsF (iRow .i64) r))) [] := by
  unfold fleet_Units at h0
  refine fn_ok (nt := 29) (rs := [.tmp 4]) Try.func48 rfl Try.ntmps48 rfl (by simp) (by decide) rfl fun K => ?_
  refine kr [1, 2] (by simp; rfl) ?_
  refine tr_seq ?_
  refine kc ?_
  refine ko [1, 2, 8] 1 (by simp; rfl) ?_
  replace h0 := bnd h0; obtain ⟨y1, hy1, h0⟩ := h0
  refine kcall [1, 2, 9] [] (fleet_Check_ok hy1) rfl rfl rfl Try.call62 (by simp) (by simp; rfl) ?_
  refine ko [1, 2, 10] 1 (by simp; rfl) ?_
  refine tops_nil ?_
  refine tr_cond (b := (y1 != 0)) (by simp) (fun c1 => ?_) (fun c1 => ?_)
  · rw [if_pos c1] at h0
    refine kr [4] (by simp; rfl) ?_
    cases h0
    exact tr_ret ⟨[], by simp, rfl, by simp⟩
  · rw [if_neg (by rw [c1]; decide)] at h0
    refine tr_skip ?_
    refine kr [1, 2, 5] (by simp; rfl) ?_
    refine tr_seq ?_
    refine kr [1, 5, 12, 13, 14] (by simp; rfl) ?_
    refine tr_wk (wk_own 5 26 3 1 (by simp) (by simp)) ?_
    replace h0 := bnd h0; obtain ⟨e1, hI1, h0⟩ := h0
    refine tjv (fun v2 : (List Int) => ({ nt := 29, env := [(5, .vec 26)], box := [], vec := [(26, ⟨3, 1, rowsF (iRow .i64) v2⟩)] } : St)) (fun v2 => v2 = e1) (fun v2 hI1e _ W1 => ?_) ?_
    · subst hI1e
      refine tr_wk W1 ?_
      refine kr [4] (by simp; rfl) ?_
      cases h0
      exact tr_ret ⟨[26], by simp, rfl, by simp⟩
    · refine tr_block (tr_iter (fun s3 : Int × (List Int) => ({ nt := 29, env := [(1, .d (.int .i64 a1)), (5, .vec 26), (12, .d (.slice (rowsF api_Consumer_row a0.Consumers))), (13, .d (.int .i64 ((a0.Consumers).length : Int))), (14, .d (.int .i64 s3.1))], box := [], vec := [(26, ⟨3, 1, rowsF (iRow .i64) s3.2⟩)] } : St)) hI1 (wk (by simp [weak_iff])) fun G1 s3 o1 h1 hg1 he1 => ?_)
      unfold fleet_Units_l0 at h1
      refine kr [1, 5, 12, 13, 14, 15] (by simp; rfl) ?_
      refine tr_seq ?_
      refine tr_cond (b := (decide (s3.1 < ((a0.Consumers).length : Int)))) (by simp) (fun c8 => ?_) (fun c8 => ?_)
      · rw [if_pos c8] at h1
        refine tr_skip ?_
        refine tr_seq ?_
        refine tr_block ?_
        replace h1 := bnd h1; obtain ⟨x4, p6, h1⟩ := h1
        replace p6 := idx_some p6
        have p6' := p6; try simp at p6'
        refine kr [1, 5, 6, 7, 12, 13, 14] (by simp [p6, p6']; rfl) ?_
        refine kr [1, 5, 6, 12, 13, 14, 22] (by simp; rfl) ?_
        refine tr_cond (b := (x4.Pool == a1)) (by simp) (fun c9 => ?_) (fun c9 => ?_)
        · rw [if_pos c9] at h1
          replace h1 := bnd h1; obtain ⟨_, p7, h1⟩ := h1
          replace p7 := ck_some p7
          have p7' := p7; try simp at p7'
          refine lr (by simp [p7, p7']; rfl) ?_
          refine lr (by simp; rfl) ?_
          exact ⟨_, hg1 _ (Option.some.inj h1), wk (by simp [weak_iff])⟩
        · rw [if_neg (by rw [c9]; decide)] at h1
          refine tr_skip ?_
          refine lr (by simp; rfl) ?_
          exact ⟨_, hg1 _ (Option.some.inj h1), wk (by simp [weak_iff])⟩
      · rw [if_neg (by rw [c8]; decide)] at h1
        refine tr_exit ?_
        exact ⟨_, he1 _ (Option.some.inj h1), wk (by simp [weak_iff])⟩
set_option maxHeartbeats 1000000 in
theorem plan_Fit_ok {a0 : api_Fleet} {a1 : Int} {r : Bool} (h0 : plan_Fit a0 a1 = some r) : FnOK Try.prog 28 [] [.agg (api_Fleet_av a0), .d (.int .i64 a1)] (.d (.bool r)) [] := by
  unfold plan_Fit at h0
  refine fn_ok (nt := 34) (rs := [.tmp 4]) Try.func28 rfl Try.ntmps28 rfl (by simp) (by decide) rfl fun K => ?_
  refine kr [1, 2] (by simp; rfl) ?_
  refine kc ?_
  refine ko [2, 7, 8] 2 (by simp; rfl) ?_
  replace h0 := bnd h0; obtain ⟨y1, hy1, h0⟩ := h0
  refine kcall [2, 9] [] (fleet_Units_ok hy1) rfl rfl rfl Try.call48 (by simp) (by simp; rfl) ?_
  refine ko [2, 5] 1 (by simp; rfl) ?_
  refine tops_nil ?_
  refine tr_seq ?_
  refine kr [2, 5, 12] (by simp; rfl) ?_
  refine tr_cond (b := (((y1).length : Int) != 1)) (by simp) (fun c1 => ?_) (fun c1 => ?_)
  · rw [if_pos c1] at h0
    refine kr [4] (by simp; rfl) ?_
    cases h0
    exact tr_ret ⟨[], by simp, rfl, by simp⟩
  · rw [if_neg (by rw [c1]; decide)] at h0
    refine tr_skip ?_
    refine kd [[], [0], [], [2], [3], [1, 4], [5], [], [6, 7]] [7, 8] [(6, [7, 8])] none [] 9 fol (by decide +kernel) (by simp) ?_
    replace h0 := bnd h0; obtain ⟨x2, p5, h0⟩ := h0
    replace p5 := idx_some p5
    have p5' := p5; try simp at p5'
    replace h0 := bnd h0; obtain ⟨x3, p6, h0⟩ := h0
    replace p6 := idx_some p6
    have p6' := p6; try simp at p6'
    refine dr_go 0 2 rfl (by simp (maxSteps := 1000000) [p5, p6, p5', p6']; rfl) ?_
    refine dr_go 2 2 rfl (by simp (maxSteps := 1000000) [p5, p6, p5', p6']; rfl) ?_
    refine dr_go 4 2 rfl (by simp (maxSteps := 1000000) [p5, p6, p5', p6']; rfl) ?_
    refine dr_go 6 2 rfl (by simp (maxSteps := 1000000) [p5, p6, p5', p6']; rfl) ?_
    refine dr_go 8 1 rfl (by simp (maxSteps := 1000000) [p5, p6, p5', p6']; rfl) ?_
    refine dr_end rfl (tops_nil ?_)
    replace h0 := bnd h0; obtain ⟨v4, hvv4, h0⟩ := h0
    refine sjv (fun v4_ : Bool => ({ nt := 34, env := [(4, .d (.bool v4_))], box := [], vec := [] } : St)) (fun v4_ => v4 = v4_) (fun v4_ e => ?_) ?_
    · subst e
      cases h0
      exact tr_ret ⟨[], by simp, rfl, by simp⟩
    · refine kc1 ?_
      refine ko [2, 6, 25] 3 (by simp; rfl) ?_
      refine tops_split 25 x3.Live (by simp) (fun c6 => ?_) (fun c6 => ?_)
      · rw [c6] at hvv4
        refine ko [2, 25, 28] 3 (by simp; rfl) ?_
        refine tops_split 28 x3.Dual (by simp) (fun c7 => ?_) (fun c7 => ?_)
        · rw [c7] at hvv4
          refine kskip 3 [] (by kernel_rfl) ?_
          refine ko [4] 3 (by simp; rfl) ?_
          refine tops_nil ?_
          cases hvv4
          exact ⟨_, rfl, wk (by simp [weak_iff])⟩
        · rw [c7] at hvv4
          refine ko [4] 6 (by simp; rfl) ?_
          refine tops_nil ?_
          cases hvv4
          exact ⟨_, rfl, wk (by simp [weak_iff])⟩
      · rw [c6] at hvv4
        refine kskip 7 [] (by kernel_rfl) ?_
        refine ko [4] 2 (by simp; rfl) ?_
        refine tops_nil ?_
        cases hvv4
        exact ⟨_, rfl, wk (by simp [weak_iff])⟩
set_option maxHeartbeats 1000000 in
theorem plan_Why_ok {a0 : api_Fleet} {r : api_Hindrance × Bool} (h0 : plan_Why a0 = some r) : FnOK Try.prog 27 [] [.agg (api_Fleet_av a0)] (.tup [.agg (api_Hindrance_av r.1), .d (.bool r.2)]) [] := by
  unfold plan_Why at h0
  refine fn_ok (nt := 21) (rs := [.cell 2 61, .tmp 3]) Try.func27 rfl Try.ntmps27 rfl (by simp) (by decide) rfl fun K => ?_
  refine kr [1, 2] (by simp; rfl) ?_
  refine tr_seq ?_
  refine kc ?_
  refine ko [1, 2, 6] 1 (by simp; rfl) ?_
  replace h0 := bnd h0; obtain ⟨y1, hy1, h0⟩ := h0
  refine kcall [1, 2, 7] [] (fleet_Pools_ok hy1) rfl rfl rfl Try.call47 (by simp) (by simp; rfl) ?_
  refine ko [1, 2, 7, 8, 9] 2 (by simp; rfl) ?_
  refine tops_nil ?_
  replace h0 := bnd h0; obtain ⟨e1, hI1, h0⟩ := h0
  refine tjv (fun v2 : Unit => ({ nt := 21, env := [(2, .ptr 2 0)], box := [(2, [.d (.int .i64 0)])], vec := [] } : St)) (fun v2 => .inl v2 = e1) (fun v2 hI1e _ W1 => ?_) ?_
  · subst hI1e
    dsimp only at h0
    refine tr_wk W1 ?_
    refine kr [2, 3] (by simp; rfl) ?_
    cases h0
    exact tr_ret ⟨[], by simp, rfl, by simp⟩
  · refine tr_block (tr_iter (fun s3 : Int => ({ nt := 21, env := [(1, .ptr 1 0), (2, .ptr 2 0), (7, .d (.slice (rowsF (iRow .i64) y1))), (8, .d (.int .i64 ((y1).length : Int))), (9, .d (.int .i64 s3))], box := [(1, [.d (.int .i64 a0.Slots), .d (.slice (rowsF api_Consumer_row a0.Consumers))]), (2, [.d (.int .i64 0)])], vec := [] } : St)) hI1 (wk (by simp [weak_iff])) fun G1 s3 o1 h1 hg1 he1 => ?_)
    unfold plan_Why_l0 at h1
    refine kr [1, 2, 7, 8, 9, 10] (by simp; rfl) ?_
    refine tr_seq ?_
    refine tr_cond (b := (decide (s3 < ((y1).length : Int)))) (by simp) (fun c5 => ?_) (fun c5 => ?_)
    · rw [if_pos c5] at h1
      refine tr_skip ?_
      refine tr_seq ?_
      refine tr_block ?_
      replace h1 := bnd h1; obtain ⟨x4, p3, h1⟩ := h1
      replace p3 := idx_some p3
      have p3' := p3; try simp at p3'
      refine kr [1, 2, 5, 7, 8, 9] (by simp [p3, p3']; rfl) ?_
      refine kc ?_
      refine ko [1, 2, 5, 7, 8, 9, 13, 14] 2 (by simp; rfl) ?_
      replace h1 := bnd h1; obtain ⟨y5, hy5, h1⟩ := h1
      refine kcall [1, 2, 5, 7, 8, 9, 15] [] (plan_Fit_ok hy5) rfl rfl rfl Try.call28 (by simp) (by simp; rfl) ?_
      refine ko [1, 2, 5, 7, 8, 9, 16] 1 (by simp; rfl) ?_
      refine tops_nil ?_
      refine tr_cond (b := (!y5)) (by simp) (fun c6 => ?_) (fun c6 => ?_)
      · rw [if_pos c6] at h1
        refine kr [2, 3] (by simp; rfl) ?_
        have k1 := he1 _ (Option.some.inj h1)
        subst k1
        dsimp only at h0
        cases h0
        exact tr_ret ⟨[], by simp, rfl, by simp⟩
      · rw [if_neg (by rw [c6]; decide)] at h1
        refine tr_skip ?_
        refine lr (by simp; rfl) ?_
        exact ⟨_, hg1 _ (Option.some.inj h1), wk (by simp [weak_iff])⟩
    · rw [if_neg (by rw [c5]; decide)] at h1
      refine tr_exit ?_
      exact ⟨_, he1 _ (Option.some.inj h1), wk (by simp [weak_iff])⟩
set_option maxHeartbeats 1000000 in
theorem plan_planner_prepare_1_cb_ok {a0 : Int} {a1 : Int} {r : Bool × Int} (h0 : plan_planner_prepare_1_cb a0 a1 = some r) : FnOK Try.prog 89 [[.d (.int .i64 a1)]] [.d (.int .i64 a0), .ptr (InO 0) 0] (.d (.bool r.1)) [[.d (.int .i64 r.2)]] := by
  unfold plan_planner_prepare_1_cb at h0
  refine fn_ok (nt := 7) (rs := [.tmp 3]) Try.func89 rfl Try.ntmps89 rfl (by simp) (by decide) rfl fun K => ?_
  refine kr [0, 1] (by simp; rfl) ?_
  refine kr [3] (by simp; rfl) ?_
  cases h0
  exact tr_ret ⟨[], by simp, rfl, by simp⟩
set_option maxHeartbeats 1000000 in
theorem slices_IndexFunc_int_at_plan_planner_prepare_1_b_ok {a0 : List Int} {b10 : Int} {r : Int × Int} (h0 : slices_IndexFunc_int_at_plan_planner_prepare_1_b a0 b10 = some r) : FnOK Try.prog 88 [[.d (.int .i64 b10)]] [.d (.slice (rowsF (iRow .i64) a0)), .fn 89 [.ptr (InO 0) 0]] (.d (.int .i64 r.1)) [[.d (.int .i64 r.2)]] := by
  unfold slices_IndexFunc_int_at_plan_planner_prepare_1_b at h0
  refine fn_ok (nt := 19) (rs := [.tmp 4]) Try.func88 rfl Try.ntmps88 rfl (by simp) (by decide) rfl fun K => ?_
  refine kr [0, 1] (by simp; rfl) ?_
  refine tr_seq ?_
  refine kr [0, 1, 7, 8] (by simp; rfl) ?_
  replace h0 := bnd h0; obtain ⟨e1, hI1, h0⟩ := h0
  refine tjv (fun v1 : Int => ({ nt := 19, env := [], box := [(1000000, [.d (.int .i64 v1)])], vec := [] } : St)) (fun v1 => .inl v1 = e1) (fun v1 hI1e _ W1 => ?_) ?_
  · subst hI1e
    dsimp only at h0
    refine tr_wk W1 ?_
    refine kr [4] (by simp; rfl) ?_
    cases h0
    exact tr_ret ⟨[], by simp, rfl, by simp⟩
  · refine tr_block (tr_iter (fun s2 : Int × Int => ({ nt := 19, env := [(0, .d (.slice (rowsF (iRow .i64) a0))), (1, .fn 89 [.ptr 1000000 0]), (7, .d (.int .i64 ((a0).length : Int))), (8, .d (.int .i64 s2.1))], box := [(1000000, [.d (.int .i64 s2.2)])], vec := [] } : St)) hI1 (wk (by simp [weak_iff])) fun G1 s2 o1 h1 hg1 he1 => ?_)
    unfold slices_IndexFunc_int_at_plan_planner_prepare_1_b_l0 at h1
    refine kr [0, 1, 7, 8, 9] (by simp; rfl) ?_
    refine tr_seq ?_
    refine tr_cond (b := (decide (s2.1 < ((a0).length : Int)))) (by simp) (fun c5 => ?_) (fun c5 => ?_)
    · rw [if_pos c5] at h1
      refine tr_skip ?_
      refine tr_seq ?_
      refine tr_block ?_
      refine kr [0, 1, 5, 7, 8] (by simp; rfl) ?_
      refine kc ?_
      replace h1 := bnd h1; obtain ⟨x3, p3, h1⟩ := h1
      replace p3 := idx_some p3
      have p3' := p3; try simp at p3'
      refine ko [0, 1, 5, 7, 8, 11, 15] 5 (by simp [p3, p3']; rfl) ?_
      replace h1 := bnd h1; obtain ⟨y4, hy4, h1⟩ := h1
      refine kcallV [0, 1, 5, 7, 8, 16] [1000000] [] [] (plan_planner_prepare_1_cb_ok hy4) rfl rfl rfl Try.call89 (by simp) (by simp; rfl) ?_
      refine tops_nil ?_
      refine tr_cond (b := y4.1) (by simp) (fun c6 => ?_) (fun c6 => ?_)
      · rw [if_pos c6] at h1
        refine kr [4] (by simp; rfl) ?_
        have k1 := he1 _ (Option.some.inj h1)
        subst k1
        dsimp only at h0
        cases h0
        exact tr_ret ⟨[], by simp, rfl, by simp⟩
      · rw [if_neg (by rw [c6]; decide)] at h1
        refine tr_skip ?_
        refine lr (by simp; rfl) ?_
        exact ⟨_, hg1 _ (Option.some.inj h1), wk (by simp [weak_iff])⟩
    · rw [if_neg (by rw [c5]; decide)] at h1
      refine tr_exit ?_
      exact ⟨_, he1 _ (Option.some.inj h1), wk (by simp [weak_iff])⟩
set_option maxHeartbeats 1000000 in
theorem plan_planner_do_o0_5_ok {a0 : plan_planner} {a1 : Int} {a2 : Int} {r : plan_planner} (h0 : plan_planner_do_o0_5 a0 a1 a2 = some r) : FnOKv Try.prog 75 [[.d (.int .i64 a0.fleet.Slots), .d (.slice (rowsF api_Consumer_row a0.fleet.Consumers)), .d (.int .i64 a0.state.Known), .d (.int .i64 a0.state.Valid), .d (.slice (rowsF api_Unit_row a0.state.Units)), .vec (InV 0)]] [⟨43, 2, rowsF api_Step_row a0.out⟩] [.ptr (InO 0) 0, .d (.int .i64 a1), .d (.int .i64 a2)] (.tup []) [[.d (.int .i64 r.fleet.Slots), .d (.slice (rowsF api_Consumer_row r.fleet.Consumers)), .d (.int .i64 r.state.Known), .d (.int .i64 r.state.Valid), .d (.slice (rowsF api_Unit_row r.state.Units)), .vec (InV 0)]] [⟨43, 2, rowsF api_Step_row r.out⟩] := by
  unfold plan_planner_do_o0_5 at h0
  refine fn_okv (nt := 41) (rs := []) Try.func75 rfl Try.ntmps75 rfl (by simp) (by decide) rfl fun K => ?_
  refine kr [0, 6] (by simp; rfl) ?_
  refine kd [[], [0], [1], [2], [], [4], [5], [6], [], [3, 7, 8], [9], [10], [10], [], [11, 13], [12, 13]] [13, 14] [(7, [13, 14])] none [] 16 fol (by decide +kernel) (by simp) ?_
  refine dr_go 0 2 rfl (by simp (maxSteps := 1000000); rfl) ?_
  refine dr_go 2 2 rfl (by simp (maxSteps := 1000000); rfl) ?_
  refine dr_go 4 2 rfl (by simp (maxSteps := 1000000); rfl) ?_
  refine dr_go 6 2 rfl (by simp (maxSteps := 1000000); rfl) ?_
  refine dr_go 8 1 rfl (by simp (maxSteps := 1000000); rfl) ?_
  replace h0 := bnd h0; obtain ⟨y1, hy1, h0⟩ := h0
  refine dr_call 9 [] (steps_Apply_ok hy1) rfl rfl rfl rfl rfl Try.call52 (by simp) ?_
  refine dr_go 10 2 rfl (by simp (maxSteps := 1000000); rfl) ?_
  refine dr_go 12 2 rfl (by simp (maxSteps := 1000000); rfl) ?_
  refine dr_go 14 2 rfl (by simp (maxSteps := 1000000); rfl) ?_
  refine dr_end rfl (tops_nil ?_)
  refine kr [0, 6, 7, 26] (by simp; rfl) ?_
  refine tr_cond (b := (y1.2 == 0)) (by simp) (fun c1 => ?_) (fun c1 => ?_)
  · rw [if_pos c1] at h0
    refine kd1 [[], [], [], [], [3], [4], [5], [], [7], [6, 8], [0, 9], [9, 10], [2, 6, 9, 11], [1, 9], [9, 13], [6, 9, 12, 14]] [9, 12, 15] [(1000000, [9, 12, 15])] (some (9, 2000000)) [33] 16 fol (by decide +kernel) (by simp) ?_
    replace h0 := bnd h0; obtain ⟨_, p3, h0⟩ := h0
    replace p3 := ck_some p3
    have p3' := p3; try simp at p3'
    refine dr_go 0 2 rfl (by simp (maxSteps := 1000000) [p3, p3']; rfl) ?_
    refine dr_go 2 2 rfl (by simp (maxSteps := 1000000) [p3, p3']; rfl) ?_
    refine dr_go 4 2 rfl (by simp (maxSteps := 1000000) [p3, p3']; rfl) ?_
    refine dr_go 6 2 rfl (by simp (maxSteps := 1000000) [p3, p3']; rfl) ?_
    refine dr_go 8 2 rfl (by simp (maxSteps := 1000000) [p3, p3']; rfl) ?_
    refine dr_go 10 2 rfl (by simp (maxSteps := 1000000) [p3, p3']; rfl) ?_
    refine dr_go 12 2 rfl (by simp (maxSteps := 1000000) [p3, p3']; rfl) ?_
    refine dr_go 14 2 rfl (by simp (maxSteps := 1000000) [p3, p3']; rfl) ?_
    refine dr_end rfl (tops_nil ?_)
    cases h0
    exact ⟨[], [36], by simp, by simp, by simp, by simp, by simp⟩
  · rw [if_neg (by rw [c1]; decide)] at h0
    refine tr_skip ?_
    cases h0
    exact ⟨[], [2000000], by simp, by simp, by simp, by simp, by simp⟩
set_option maxHeartbeats 1000000 in
theorem plan_planner_serving_o0_5_ok {a0 : plan_planner} {a1 : Int} {a2 : Int} {r : Int × Bool × plan_planner} (h0 : plan_planner_serving_o0_5 a0 a1 a2 = some r) : FnOKv Try.prog 87 [[.d (.int .i64 a0.fleet.Slots), .d (.slice (rowsF api_Consumer_row a0.fleet.Consumers)), .d (.int .i64 a0.state.Known), .d (.int .i64 a0.state.Valid), .d (.slice (rowsF api_Unit_row a0.state.Units)), .vec (InV 0)]] [⟨43, 2, rowsF api_Step_row a0.out⟩] [.ptr (InO 0) 0, .d (.int .i64 a1), .d (.int .i64 a2)] (.tup [.d (.int .i64 r.1), .d (.bool r.2.1)]) [[.d (.int .i64 r.2.2.fleet.Slots), .d (.slice (rowsF api_Consumer_row r.2.2.fleet.Consumers)), .d (.int .i64 r.2.2.state.Known), .d (.int .i64 r.2.2.state.Valid), .d (.slice (rowsF api_Unit_row r.2.2.state.Units)), .vec (InV 0)]] [⟨43, 2, rowsF api_Step_row r.2.2.out⟩] := by
  unfold plan_planner_serving_o0_5 at h0
  refine fn_okv (nt := 35) (rs := [.tmp 6, .tmp 7]) Try.func87 rfl Try.ntmps87 rfl (by simp) (by decide) rfl fun K => ?_
  refine kr [0, 1, 2] (by simp; rfl) ?_
  refine tr_seq ?_
  refine kc ?_
  refine ko [0, 2, 13, 14] 5 (by simp; rfl) ?_
  replace h0 := bnd h0; obtain ⟨y1, hy1, h0⟩ := h0
  refine kcall [0, 2, 15] [] (fleet_Units_ok hy1) rfl rfl rfl Try.call48 (by simp) (by simp; rfl) ?_
  refine ko [0, 2, 15, 16, 17] 2 (by simp; rfl) ?_
  refine tops_nil ?_
  replace h0 := bnd h0; obtain ⟨e1, hI1, h0⟩ := h0
  refine tjv (fun v2 : Unit => ({ nt := 35, env := [], box := [(1000000, [.d (.int .i64 a0.fleet.Slots), .d (.slice (rowsF api_Consumer_row a0.fleet.Consumers)), .d (.int .i64 a0.state.Known), .d (.int .i64 a0.state.Valid), .d (.slice (rowsF api_Unit_row a0.state.Units)), .vec 2000000])], vec := [(2000000, ⟨43, 2, rowsF api_Step_row a0.out⟩)] } : St)) (fun v2 => .inl v2 = e1) (fun v2 hI1e _ W1 => ?_) ?_
  · subst hI1e
    dsimp only at h0
    refine tr_wk W1 ?_
    refine kr [6, 7] (by simp; rfl) ?_
    cases h0
    exact tr_ret ⟨[], [2000000], by simp, by simp, by simp, by simp, by simp⟩
  · refine tr_block (tr_iter (fun s3 : Int => ({ nt := 35, env := [(0, .ptr 1000000 0), (2, .d (.int .i64 a2)), (15, .d (.slice (rowsF (iRow .i64) y1))), (16, .d (.int .i64 ((y1).length : Int))), (17, .d (.int .i64 s3))], box := [(1000000, [.d (.int .i64 a0.fleet.Slots), .d (.slice (rowsF api_Consumer_row a0.fleet.Consumers)), .d (.int .i64 a0.state.Known), .d (.int .i64 a0.state.Valid), .d (.slice (rowsF api_Unit_row a0.state.Units)), .vec 2000000])], vec := [(2000000, ⟨43, 2, rowsF api_Step_row a0.out⟩)] } : St)) hI1 (wk (by simp [weak_iff])) fun G1 s3 o1 h1 hg1 he1 => ?_)
    unfold plan_planner_serving_o0_5_l0 at h1
    refine kr [0, 2, 15, 16, 17, 18] (by simp; rfl) ?_
    refine tr_seq ?_
    refine tr_cond (b := (decide (s3 < ((y1).length : Int)))) (by simp) (fun c5 => ?_) (fun c5 => ?_)
    · rw [if_pos c5] at h1
      refine tr_skip ?_
      refine tr_seq ?_
      refine tr_block ?_
      replace h1 := bnd h1; obtain ⟨x4, p5, h1⟩ := h1
      replace p5 := idx_some p5
      have p5' := p5; try simp at p5'
      refine kr [0, 2, 9, 15, 16, 17] (by simp [p5, p5']; rfl) ?_
      replace h1 := bnd h1; obtain ⟨x5, p6, h1⟩ := h1
      replace p6 := idx_some p6
      have p6' := p6; try simp at p6'
      refine kr [0, 2, 9, 15, 16, 17, 32] (by simp [p6, p6']; rfl) ?_
      refine tr_cond (b := ((bAnd .i64 x5.Used a2) != 0)) (by simp) (fun c6 => ?_) (fun c6 => ?_)
      · rw [if_pos c6] at h1
        refine kr [6, 7] (by simp; rfl) ?_
        have k1 := he1 _ (Option.some.inj h1)
        subst k1
        dsimp only at h0
        cases h0
        exact tr_ret ⟨[], [2000000], by simp, by simp, by simp, by simp, by simp⟩
      · rw [if_neg (by rw [c6]; decide)] at h1
        refine tr_skip ?_
        refine lr (by simp; rfl) ?_
        exact ⟨_, hg1 _ (Option.some.inj h1), wk (by simp [weak_iff])⟩
    · rw [if_neg (by rw [c5]; decide)] at h1
      refine tr_exit ?_
      exact ⟨_, he1 _ (Option.some.inj h1), wk (by simp [weak_iff])⟩
set_option maxHeartbeats 1000000 in
theorem plan_planner_mend_o0_5_ok {a0 : plan_planner} {a1 : Int} {r : plan_planner} (h0 : plan_planner_mend_o0_5 a0 a1 = some r) : FnOKv Try.prog 90 [[.d (.int .i64 a0.fleet.Slots), .d (.slice (rowsF api_Consumer_row a0.fleet.Consumers)), .d (.int .i64 a0.state.Known), .d (.int .i64 a0.state.Valid), .d (.slice (rowsF api_Unit_row a0.state.Units)), .vec (InV 0)]] [⟨43, 2, rowsF api_Step_row a0.out⟩] [.ptr (InO 0) 0, .d (.int .i64 a1)] (.tup []) [[.d (.int .i64 r.fleet.Slots), .d (.slice (rowsF api_Consumer_row r.fleet.Consumers)), .d (.int .i64 r.state.Known), .d (.int .i64 r.state.Valid), .d (.slice (rowsF api_Unit_row r.state.Units)), .vec (InV 0)]] [⟨43, 2, rowsF api_Step_row r.out⟩] := by
  unfold plan_planner_mend_o0_5 at h0
  refine fn_okv (nt := 26) (rs := []) Try.func90 rfl Try.ntmps90 rfl (by simp) (by decide) rfl fun K => ?_
  refine kc ?_
  refine ko [0, 1, 4, 5] 2 (by simp; rfl) ?_
  replace h0 := bnd h0; obtain ⟨y1, hy1, h0⟩ := h0
  refine kcallV [0, 1] [1000000] [2000000] [2000000] (plan_planner_do_o0_5_ok hy1) rfl rfl rfl Try.call75 (by simp) (by simp; rfl) ?_
  refine tops_nil ?_
  refine kc ?_
  refine ko [0, 1, 7, 8] 2 (by simp; rfl) ?_
  replace h0 := bnd h0; obtain ⟨y2, hy2, h0⟩ := h0
  refine kcallV [0, 1] [1000000] [2000000] [2000000] (plan_planner_do_o0_5_ok hy2) rfl rfl rfl Try.call75 (by simp) (by simp; rfl) ?_
  refine tops_nil ?_
  refine sjv (fun v3 : Int × (List api_Consumer) × Int × Int × (List api_Unit) × (List api_Step) => ({ nt := 26, env := [(0, .ptr 1000000 0), (1, .d (.int .i64 a1))], box := [(1000000, [.d (.int .i64 v3.1), .d (.slice (rowsF api_Consumer_row v3.2.1)), .d (.int .i64 v3.2.2.1), .d (.int .i64 v3.2.2.2.1), .d (.slice (rowsF api_Unit_row v3.2.2.2.2.1)), .vec 2000000])], vec := [(2000000, ⟨43, 2, rowsF api_Step_row v3.2.2.2.2.2⟩)] } : St)) (fun v3 => plan_planner_mend_o0_5_j0 a1 v3 = some r) (fun v3 h0 => ?_) ?_
  · unfold plan_planner_mend_o0_5_j0 at h0
    refine kc1 ?_
    refine ko [23, 24] 2 (by simp; rfl) ?_
    replace h0 := bnd h0; obtain ⟨y4, hy4, h0⟩ := h0
    refine kcallV [] [1000000] [2000000] [2000000] (plan_planner_do_o0_5_ok hy4) rfl rfl rfl Try.call75 (by simp) (by simp; rfl) ?_
    refine tops_nil ?_
    cases h0
    exact ⟨[], [2000000], by simp, by simp, by simp, by simp, by simp⟩
  · replace h0 := bnd h0; obtain ⟨x5, p2, h0⟩ := h0
    replace p2 := idx_some p2
    have p2' := p2; try simp at p2'
    refine kr [0, 1, 19] (by simp [p2, p2']; rfl) ?_
    refine tr_cond (b := (x5.Used != 2)) (by simp) (fun c2 => ?_) (fun c2 => ?_)
    · rw [if_pos c2] at h0
      refine kc1 ?_
      refine ko [0, 1, 20, 21] 2 (by simp; rfl) ?_
      replace h0 := bnd h0; obtain ⟨y6, hy6, h0⟩ := h0
      refine kcallV [0, 1] [1000000] [2000000] [2000000] (plan_planner_do_o0_5_ok hy6) rfl rfl rfl Try.call75 (by simp) (by simp; rfl) ?_
      refine tops_nil ?_
      exact ⟨_, h0, wk (by simp [weak_iff])⟩
    · rw [if_neg (by rw [c2]; decide)] at h0
      refine tr_skip ?_
      exact ⟨_, h0, wk (by simp [weak_iff])⟩
set_option maxHeartbeats 1000000 in
theorem plan_planner_prepare_o0_5_ok {a0 : plan_planner} {a1 : Int} {r : plan_planner} (h0 : plan_planner_prepare_o0_5 a0 a1 = some r) : FnOKv Try.prog 76 [[.d (.int .i64 a0.fleet.Slots), .d (.slice (rowsF api_Consumer_row a0.fleet.Consumers)), .d (.int .i64 a0.state.Known), .d (.int .i64 a0.state.Valid), .d (.slice (rowsF api_Unit_row a0.state.Units)), .vec (InV 0)]] [⟨43, 2, rowsF api_Step_row a0.out⟩] [.ptr (InO 0) 0, .d (.int .i64 a1)] (.tup []) [[.d (.int .i64 r.fleet.Slots), .d (.slice (rowsF api_Consumer_row r.fleet.Consumers)), .d (.int .i64 r.state.Known), .d (.int .i64 r.state.Valid), .d (.slice (rowsF api_Unit_row r.state.Units)), .vec (InV 0)]] [⟨43, 2, rowsF api_Step_row r.out⟩] := by
  unfold plan_planner_prepare_o0_5 at h0
  refine fn_okv (nt := 43) (rs := []) Try.func76 rfl Try.ntmps76 rfl (by simp) (by decide) rfl fun K => ?_
  refine tr_seq ?_
  refine kc ?_
  refine ko [0, 1, 11, 12] 2 (by simp; rfl) ?_
  replace h0 := bnd h0; obtain ⟨y1, hy1, h0⟩ := h0
  refine kcallV [0, 1, 13] [1000000] [2000000] [2000000] (plan_planner_serving_o0_5_ok hy1) rfl rfl rfl Try.call87 (by simp) (by simp; rfl) ?_
  refine ko [0, 1, 5] 5 (by simp; rfl) ?_
  refine tops_nil ?_
  refine kr [0, 1, 16] (by simp; rfl) ?_
  refine tr_cond (b := y1.2.1) (by simp) (fun c1 => ?_) (fun c1 => ?_)
  · rw [if_pos c1] at h0
    cases h0
    exact tr_ret ⟨[], [2000000], by simp, by simp, by simp, by simp, by simp⟩
  · rw [if_neg (by rw [c1]; decide)] at h0
    refine tr_skip ?_
    refine kc ?_
    refine ko [0, 1, 18, 19] 2 (by simp; rfl) ?_
    replace h0 := bnd h0; obtain ⟨y2, hy2, h0⟩ := h0
    refine kcallV [0, 1, 20] [1000000] [2000000] [2000000] (plan_planner_serving_o0_5_ok hy2) rfl rfl rfl Try.call87 (by simp) (by simp; rfl) ?_
    refine ko [0, 1, 6] 6 (by simp; rfl) ?_
    refine tops_nil ?_
    refine kc ?_
    refine ko [0, 6, 26, 27] 5 (by simp; rfl) ?_
    replace h0 := bnd h0; obtain ⟨y3, hy3, h0⟩ := h0
    refine kcall [0, 6, 28] [] (fleet_Units_ok hy3) rfl rfl rfl Try.call48 (by simp) (by simp; rfl) ?_
    refine ko [0, 6, 8] 1 (by simp; rfl) ?_
    refine tops_nil ?_
    refine tr_seq ?_
    refine kc ?_
    refine ko [0, 6, 8, 29, 30] 2 (by simp; rfl) ?_
    replace h0 := bnd h0; obtain ⟨y4, hy4, h0⟩ := h0
    refine kcall [0, 6, 8, 31] [6] (slices_IndexFunc_int_at_plan_planner_prepare_1_b_ok hy4) rfl rfl rfl Try.call88 (by simp) (by simp; rfl) ?_
    refine ko [0, 6, 8, 9] 1 (by simp; rfl) ?_
    refine tops_nil ?_
    refine kr [0, 6, 8, 9, 33] (by simp; rfl) ?_
    refine tr_cond (b := (decide (0 ≤ y4.1))) (by simp) (fun c2 => ?_) (fun c2 => ?_)
    · rw [if_pos c2] at h0
      refine kc ?_
      replace h0 := bnd h0; obtain ⟨x5, p1, h0⟩ := h0
      replace p1 := idx_some p1
      have p1' := p1; try simp at p1'
      refine ko [34, 38] 5 (by simp [p1, p1']; rfl) ?_
      replace h0 := bnd h0; obtain ⟨y6, hy6, h0⟩ := h0
      refine kcallV [] [1000000] [2000000] [2000000] (plan_planner_mend_o0_5_ok hy6) rfl rfl rfl Try.call90 (by simp) (by simp; rfl) ?_
      refine tops_nil ?_
      cases h0
      exact tr_ret ⟨[], [2000000], by simp, by simp, by simp, by simp, by simp⟩
    · rw [if_neg (by rw [c2]; decide)] at h0
      refine tr_skip ?_
      refine kc1 ?_
      refine ko [40, 41] 2 (by simp; rfl) ?_
      replace h0 := bnd h0; obtain ⟨y7, hy7, h0⟩ := h0
      refine kcallV [] [1000000] [2000000] [2000000] (plan_planner_do_o0_5_ok hy7) rfl rfl rfl Try.call75 (by simp) (by simp; rfl) ?_
      refine tops_nil ?_
      cases h0
      exact ⟨[], [2000000], by simp, by simp, by simp, by simp, by simp⟩
set_option maxHeartbeats 1000000 in
theorem plan_planner_settle_o0_5_ok {a0 : plan_planner} {a1 : Int} {r : plan_planner} (h0 : plan_planner_settle_o0_5 a0 a1 = some r) : FnOKv Try.prog 77 [[.d (.int .i64 a0.fleet.Slots), .d (.slice (rowsF api_Consumer_row a0.fleet.Consumers)), .d (.int .i64 a0.state.Known), .d (.int .i64 a0.state.Valid), .d (.slice (rowsF api_Unit_row a0.state.Units)), .vec (InV 0)]] [⟨43, 2, rowsF api_Step_row a0.out⟩] [.ptr (InO 0) 0, .d (.int .i64 a1)] (.tup []) [[.d (.int .i64 r.fleet.Slots), .d (.slice (rowsF api_Consumer_row r.fleet.Consumers)), .d (.int .i64 r.state.Known), .d (.int .i64 r.state.Valid), .d (.slice (rowsF api_Unit_row r.state.Units)), .vec (InV 0)]] [⟨43, 2, rowsF api_Step_row r.out⟩] := by
  unfold plan_planner_settle_o0_5 at h0
  refine fn_okv (nt := 40) (rs := []) Try.func77 rfl Try.ntmps77 rfl (by simp) (by decide) rfl fun K => ?_
  refine kc ?_
  refine ko [0, 1, 9, 10, 15] 7 (by simp; rfl) ?_
  replace h0 := bnd h0; obtain ⟨y1, hy1, h0⟩ := h0
  refine kcallV [0, 1, 16] [1000000] [2000000] [2000000] (plan_planner_serving_o0_5_ok hy1) rfl rfl rfl Try.call87 (by simp) (by simp; rfl) ?_
  refine ko [0, 1, 4] 5 (by simp; rfl) ?_
  refine tops_nil ?_
  refine tr_seq ?_
  refine kc ?_
  refine ko [0, 4, 22, 23] 5 (by simp; rfl) ?_
  replace h0 := bnd h0; obtain ⟨y2, hy2, h0⟩ := h0
  refine kcall [0, 4, 24] [] (fleet_Units_ok hy2) rfl rfl rfl Try.call48 (by simp) (by simp; rfl) ?_
  refine ko [0, 4, 24, 25, 26] 2 (by simp; rfl) ?_
  refine tops_nil ?_
  replace h0 := bnd h0; obtain ⟨e1, hI1, h0⟩ := h0
  refine tjv (fun v3 : Int × (List api_Consumer) × Int × Int × (List api_Unit) × (List api_Step) => ({ nt := 40, env := [(0, .ptr 1000000 0), (4, .d (.int .i64 y1.1))], box := [(1000000, [.d (.int .i64 v3.1), .d (.slice (rowsF api_Consumer_row v3.2.1)), .d (.int .i64 v3.2.2.1), .d (.int .i64 v3.2.2.2.1), .d (.slice (rowsF api_Unit_row v3.2.2.2.2.1)), .vec 2000000])], vec := [(2000000, ⟨43, 2, rowsF api_Step_row v3.2.2.2.2.2⟩)] } : St)) (fun v3 => v3 = e1) (fun v3 hI1e _ W1 => ?_) ?_
  · subst hI1e
    refine tr_wk W1 ?_
    refine kc1 ?_
    refine ko [37, 38] 2 (by simp; rfl) ?_
    replace h0 := bnd h0; obtain ⟨y4, hy4, h0⟩ := h0
    refine kcallV [] [1000000] [2000000] [2000000] (plan_planner_mend_o0_5_ok hy4) rfl rfl rfl Try.call90 (by simp) (by simp; rfl) ?_
    refine tops_nil ?_
    cases h0
    exact ⟨[], [2000000], by simp, by simp, by simp, by simp, by simp⟩
  · refine tr_block (tr_iter (fun s5 : Int × Int × (List api_Consumer) × Int × Int × (List api_Unit) × (List api_Step) => ({ nt := 40, env := [(0, .ptr 1000000 0), (4, .d (.int .i64 y1.1)), (24, .d (.slice (rowsF (iRow .i64) y2))), (25, .d (.int .i64 ((y2).length : Int))), (26, .d (.int .i64 s5.1))], box := [(1000000, [.d (.int .i64 s5.2.1), .d (.slice (rowsF api_Consumer_row s5.2.2.1)), .d (.int .i64 s5.2.2.2.1), .d (.int .i64 s5.2.2.2.2.1), .d (.slice (rowsF api_Unit_row s5.2.2.2.2.2.1)), .vec 2000000])], vec := [(2000000, ⟨43, 2, rowsF api_Step_row s5.2.2.2.2.2.2⟩)] } : St)) hI1 (wk (by simp [weak_iff])) fun G1 s5 o1 h1 hg1 he1 => ?_)
    unfold plan_planner_settle_o0_5_l0 at h1
    refine kr [0, 4, 24, 25, 26, 27] (by simp; rfl) ?_
    refine tr_seq ?_
    refine tr_cond (b := (decide (s5.1 < ((y2).length : Int)))) (by simp) (fun c5 => ?_) (fun c5 => ?_)
    · rw [if_pos c5] at h1
      refine tr_skip ?_
      refine tr_seq ?_
      refine tr_block ?_
      replace h1 := bnd h1; obtain ⟨x6, p3, h1⟩ := h1
      replace p3 := idx_some p3
      have p3' := p3; try simp at p3'
      refine kr [0, 4, 7, 24, 25, 26] (by simp [p3, p3']; rfl) ?_
      refine kr [0, 4, 7, 24, 25, 26, 32] (by simp; rfl) ?_
      refine tr_cond (b := (x6 != y1.1)) (by simp) (fun c6 => ?_) (fun c6 => ?_)
      · rw [if_pos c6] at h1
        refine kc1 ?_
        refine ko [0, 4, 24, 25, 26, 33, 34] 2 (by simp; rfl) ?_
        replace h1 := bnd h1; obtain ⟨y7, hy7, h1⟩ := h1
        refine kcallV [0, 4, 24, 25, 26] [1000000] [2000000] [2000000] (plan_planner_mend_o0_5_ok hy7) rfl rfl rfl Try.call90 (by simp) (by simp; rfl) ?_
        refine tops_nil ?_
        refine lr (by simp; rfl) ?_
        exact ⟨_, hg1 _ (Option.some.inj h1), wk (by simp [weak_iff])⟩
      · rw [if_neg (by rw [c6]; decide)] at h1
        refine tr_skip ?_
        refine lr (by simp; rfl) ?_
        exact ⟨_, hg1 _ (Option.some.inj h1), wk (by simp [weak_iff])⟩
    · rw [if_neg (by rw [c5]; decide)] at h1
      refine tr_exit ?_
      exact ⟨_, he1 _ (Option.some.inj h1), wk (by simp [weak_iff])⟩
set_option maxHeartbeats 1000000 in
theorem plan_From_ok {a0 : api_Fleet} {a1 : api_Rotation} {r : (List api_Step)} (h0 : plan_From a0 a1 = some r) : FnOK Try.prog 61 [] [.agg (api_Fleet_av a0), .agg (api_Rotation_av a1)] (.d (.slice (rowsF api_Step_row r))) [] := by
  unfold plan_From at h0
  refine fn_ok (nt := 55) (rs := [.tmp 4]) Try.func61 rfl Try.ntmps61 rfl (by simp) (by decide) rfl fun K => ?_
  refine kr [2, 3] (by simp; rfl) ?_
  refine kr [2, 5] (by simp; rfl) ?_
  refine kc ?_
  refine ko [5, 15] 1 (by simp; rfl) ?_
  replace h0 := bnd h0; obtain ⟨y1, hy1, h0⟩ := h0
  refine kcall [5, 16] [] (fleet_Pools_ok hy1) rfl rfl rfl Try.call47 (by simp) (by simp; rfl) ?_
  refine ko [5, 6] 1 (by simp; rfl) ?_
  refine tops_nil ?_
  refine kc ?_
  refine ko [5, 6, 17] 1 (by simp; rfl) ?_
  refine tops_wk (wk_ownbox 14 5 400565 43 2 (by simp; rfl) (by simp) (by simp)) ?_
  replace h0 := bnd h0; obtain ⟨y2, hy2, h0⟩ := h0
  refine kcallV [5, 6] [14] [400565] [400565] (plan_planner_do_o0_5_ok hy2) rfl rfl rfl Try.call75 (by simp) (by simp; rfl) ?_
  refine tops_nil ?_
  refine kc ?_
  refine ko [5, 6, 19] 1 (by simp; rfl) ?_
  replace h0 := bnd h0; obtain ⟨y3, hy3, h0⟩ := h0
  refine kcallV [5, 6] [14] [400565] [400565] (plan_planner_do_o0_5_ok hy3) rfl rfl rfl Try.call75 (by simp) (by simp; rfl) ?_
  refine tops_nil ?_
  refine sjv (fun v4 : Int × (List api_Consumer) × Int × Int × (List api_Unit) × (List api_Step) => ({ nt := 55, env := [(5, .ptr 14 0), (6, .d (.slice (rowsF (iRow .i64) y1)))], box := [(14, [.d (.int .i64 v4.1), .d (.slice (rowsF api_Consumer_row v4.2.1)), .d (.int .i64 v4.2.2.1), .d (.int .i64 v4.2.2.2.1), .d (.slice (rowsF api_Unit_row v4.2.2.2.2.1)), .vec 400565])], vec := [(400565, ⟨43, 2, rowsF api_Step_row v4.2.2.2.2.2⟩)] } : St)) (fun v4 => plan_From_j0 y1 v4 = some r) (fun v4 h0 => ?_) ?_
  · unfold plan_From_j0 at h0
    refine tr_seq ?_
    refine kr [5, 39, 40, 41] (by simp; rfl) ?_
    replace h0 := bnd h0; obtain ⟨e1, hI1, h0⟩ := h0
    refine tjv (fun v5 : Int × (List api_Consumer) × Int × Int × (List api_Unit) × (List api_Step) => ({ nt := 55, env := [(5, .ptr 14 0)], box := [(14, [.d (.int .i64 v5.1), .d (.slice (rowsF api_Consumer_row v5.2.1)), .d (.int .i64 v5.2.2.1), .d (.int .i64 v5.2.2.2.1), .d (.slice (rowsF api_Unit_row v5.2.2.2.2.1)), .vec 400565])], vec := [(400565, ⟨43, 2, rowsF api_Step_row v5.2.2.2.2.2⟩)] } : St)) (fun v5 => v5 = e1) (fun v5 hI1e _ W1 => ?_) ?_
    · subst hI1e
      refine tr_wk W1 ?_
      refine kc ?_
      refine ko [5, 49] 1 (by simp; rfl) ?_
      replace h0 := bnd h0; obtain ⟨y6, hy6, h0⟩ := h0
      refine kcallV [5] [14] [400565] [400565] (plan_planner_do_o0_5_ok hy6) rfl rfl rfl Try.call75 (by simp) (by simp; rfl) ?_
      refine tops_nil ?_
      refine kr [4] (by simp; rfl) ?_
      cases h0
      exact tr_ret ⟨[400565], by simp, rfl, by simp⟩
    · refine tr_block (tr_iter (fun s7 : Int × Int × (List api_Consumer) × Int × Int × (List api_Unit) × (List api_Step) => ({ nt := 55, env := [(5, .ptr 14 0), (39, .d (.slice (rowsF (iRow .i64) y1))), (40, .d (.int .i64 ((y1).length : Int))), (41, .d (.int .i64 s7.1))], box := [(14, [.d (.int .i64 s7.2.1), .d (.slice (rowsF api_Consumer_row s7.2.2.1)), .d (.int .i64 s7.2.2.2.1), .d (.int .i64 s7.2.2.2.2.1), .d (.slice (rowsF api_Unit_row s7.2.2.2.2.2.1)), .vec 400565])], vec := [(400565, ⟨43, 2, rowsF api_Step_row s7.2.2.2.2.2.2⟩)] } : St)) hI1 (wk (by simp [weak_iff])) fun G1 s7 o1 h1 hg1 he1 => ?_)
      unfold plan_From_l1 at h1
      refine kr [5, 39, 40, 41, 42] (by simp; rfl) ?_
      refine tr_seq ?_
      refine tr_cond (b := (decide (s7.1 < ((y1).length : Int)))) (by simp) (fun c6 => ?_) (fun c6 => ?_)
      · rw [if_pos c6] at h1
        refine tr_skip ?_
        refine tr_seq ?_
        refine tr_block ?_
        replace h1 := bnd h1; obtain ⟨x8, p5, h1⟩ := h1
        replace p5 := idx_some p5
        have p5' := p5; try simp at p5'
        refine kr [5, 10, 39, 40, 41] (by simp [p5, p5']; rfl) ?_
        refine kc1 ?_
        refine ko [5, 39, 40, 41, 45, 46] 2 (by simp; rfl) ?_
        replace h1 := bnd h1; obtain ⟨y9, hy9, h1⟩ := h1
        refine kcallV [5, 39, 40, 41] [14] [400565] [400565] (plan_planner_settle_o0_5_ok hy9) rfl rfl rfl Try.call77 (by simp) (by simp; rfl) ?_
        refine tops_nil ?_
        refine lr (by simp; rfl) ?_
        exact ⟨_, hg1 _ (Option.some.inj h1), wk (by simp [weak_iff])⟩
      · rw [if_neg (by rw [c6]; decide)] at h1
        refine tr_exit ?_
        exact ⟨_, he1 _ (Option.some.inj h1), wk (by simp [weak_iff])⟩
  · refine kr [5, 6, 26] (by simp; rfl) ?_
    refine tr_cond (b := (y3.state.Valid == 1)) (by simp) (fun c7 => ?_) (fun c7 => ?_)
    · rw [if_pos c7] at h0
      refine tr_seq ?_
      refine kr [5, 6, 27, 28, 29] (by simp; rfl) ?_
      replace h0 := bnd h0; obtain ⟨e2, hI2, h0⟩ := h0
      refine tjv (fun v10 : Int × (List api_Consumer) × Int × Int × (List api_Unit) × (List api_Step) => ({ nt := 55, env := [(5, .ptr 14 0), (6, .d (.slice (rowsF (iRow .i64) y1)))], box := [(14, [.d (.int .i64 v10.1), .d (.slice (rowsF api_Consumer_row v10.2.1)), .d (.int .i64 v10.2.2.1), .d (.int .i64 v10.2.2.2.1), .d (.slice (rowsF api_Unit_row v10.2.2.2.2.1)), .vec 400565])], vec := [(400565, ⟨43, 2, rowsF api_Step_row v10.2.2.2.2.2⟩)] } : St)) (fun v10 => v10 = e2) (fun v10 hI2e _ W2 => ?_) ?_
      · subst hI2e
        refine tr_wk W2 ?_
        refine kc1 ?_
        refine ko [5, 6, 37] 1 (by simp; rfl) ?_
        replace h0 := bnd h0; obtain ⟨y11, hy11, h0⟩ := h0
        refine kcallV [5, 6] [14] [400565] [400565] (plan_planner_do_o0_5_ok hy11) rfl rfl rfl Try.call75 (by simp) (by simp; rfl) ?_
        refine tops_nil ?_
        exact ⟨_, h0, wk (by simp [weak_iff])⟩
      · refine tr_block (tr_iter (fun s12 : Int × Int × (List api_Consumer) × Int × Int × (List api_Unit) × (List api_Step) => ({ nt := 55, env := [(5, .ptr 14 0), (6, .d (.slice (rowsF (iRow .i64) y1))), (27, .d (.slice (rowsF (iRow .i64) y1))), (28, .d (.int .i64 ((y1).length : Int))), (29, .d (.int .i64 s12.1))], box := [(14, [.d (.int .i64 s12.2.1), .d (.slice (rowsF api_Consumer_row s12.2.2.1)), .d (.int .i64 s12.2.2.2.1), .d (.int .i64 s12.2.2.2.2.1), .d (.slice (rowsF api_Unit_row s12.2.2.2.2.2.1)), .vec 400565])], vec := [(400565, ⟨43, 2, rowsF api_Step_row s12.2.2.2.2.2.2⟩)] } : St)) hI2 (wk (by simp [weak_iff])) fun G2 s12 o2 h2 hg2 he2 => ?_)
        unfold plan_From_l2 at h2
        refine kr [5, 6, 27, 28, 29, 30] (by simp; rfl) ?_
        refine tr_seq ?_
        refine tr_cond (b := (decide (s12.1 < ((y1).length : Int)))) (by simp) (fun c10 => ?_) (fun c10 => ?_)
        · rw [if_pos c10] at h2
          refine tr_skip ?_
          refine tr_seq ?_
          refine tr_block ?_
          replace h2 := bnd h2; obtain ⟨x13, p8, h2⟩ := h2
          replace p8 := idx_some p8
          have p8' := p8; try simp at p8'
          refine kr [5, 6, 8, 27, 28, 29] (by simp [p8, p8']; rfl) ?_
          refine kc1 ?_
          refine ko [5, 6, 27, 28, 29, 33, 34] 2 (by simp; rfl) ?_
          replace h2 := bnd h2; obtain ⟨y14, hy14, h2⟩ := h2
          refine kcallV [5, 6, 27, 28, 29] [14] [400565] [400565] (plan_planner_prepare_o0_5_ok hy14) rfl rfl rfl Try.call76 (by simp) (by simp; rfl) ?_
          refine tops_nil ?_
          refine lr (by simp; rfl) ?_
          exact ⟨_, hg2 _ (Option.some.inj h2), wk (by simp [weak_iff])⟩
        · rw [if_neg (by rw [c10]; decide)] at h2
          refine tr_exit ?_
          exact ⟨_, he2 _ (Option.some.inj h2), wk (by simp [weak_iff])⟩
    · rw [if_neg (by rw [c7]; decide)] at h0
      refine tr_skip ?_
      exact ⟨_, h0, wk (by simp [weak_iff])⟩
set_option maxHeartbeats 1000000 in
theorem plan_Make_ok {a0 : api_Fleet} {r : (List api_Step) × Int} (h0 : plan_Make a0 = some r) : FnOK Try.prog 45 [] [.agg (api_Fleet_av a0)] (.tup [.d (.slice (rowsF api_Step_row r.1)), .d (.int .i64 r.2)]) [] := by
  unfold plan_Make at h0
  refine fn_ok (nt := 25) (rs := [.tmp 2, .tmp 3]) Try.func45 rfl Try.ntmps45 rfl (by simp) (by decide) rfl fun K => ?_
  refine kr [1] (by simp; rfl) ?_
  refine kc ?_
  refine ko [1, 9] 1 (by simp; rfl) ?_
  replace h0 := bnd h0; obtain ⟨y1, hy1, h0⟩ := h0
  refine kcall [1, 10] [] (fleet_Start_ok hy1) rfl rfl rfl Try.call60 (by simp) (by simp; rfl) ?_
  refine ko [1, 4, 5] 6 (by simp; rfl) ?_
  refine tops_nil ?_
  refine tr_seq ?_
  refine kr [1, 4, 5, 14] (by simp; rfl) ?_
  refine tr_cond (b := (y1.2 != 0)) (by simp) (fun c1 => ?_) (fun c1 => ?_)
  · rw [if_pos c1] at h0
    refine kr [2, 3] (by simp; rfl) ?_
    cases h0
    exact tr_ret ⟨[], by simp, rfl, by simp⟩
  · rw [if_neg (by rw [c1]; decide)] at h0
    refine tr_skip ?_
    refine tr_seq ?_
    refine kc ?_
    refine ko [1, 4, 17] 1 (by simp; rfl) ?_
    replace h0 := bnd h0; obtain ⟨y2, hy2, h0⟩ := h0
    refine kcall [1, 4, 18] [] (plan_Why_ok hy2) rfl rfl rfl Try.call27 (by simp) (by simp; rfl) ?_
    refine ko [1, 4, 7] 6 (by simp; rfl) ?_
    refine tops_nil ?_
    refine kr [1, 4, 21] (by simp; rfl) ?_
    refine tr_cond (b := y2.2) (by simp) (fun c2 => ?_) (fun c2 => ?_)
    · rw [if_pos c2] at h0
      refine kr [2, 3] (by simp; rfl) ?_
      cases h0
      exact tr_ret ⟨[], by simp, rfl, by simp⟩
    · rw [if_neg (by rw [c2]; decide)] at h0
      refine tr_skip ?_
      refine kc ?_
      refine ko [22, 23] 2 (by simp; rfl) ?_
      replace h0 := bnd h0; obtain ⟨y3, hy3, h0⟩ := h0
      refine kcall [24] [] (plan_From_ok hy3) rfl rfl rfl Try.call61 (by simp) (by simp; rfl) ?_
      refine ko [2, 3] 2 (by simp; rfl) ?_
      refine tops_nil ?_
      cases h0
      exact tr_ret ⟨[], by simp, rfl, by simp⟩
set_option maxHeartbeats 1000000 in
theorem ref35_Check_ok {a0 : api_Fleet} {a1 : api_Rotation} {a2 : List api_Step} {r : Bool} (h0 : ref35_Check a0 a1 a2 = some r) : FnOK Try.prog 46 [] [.agg (api_Fleet_av a0), .agg (api_Rotation_av a1), .d (.slice (rowsF api_Step_row a2))] (.d (.bool r)) [] := by
  unfold ref35_Check at h0
  refine fn_ok (nt := 45) (rs := [.tmp 6]) Try.func46 rfl Try.ntmps46 rfl (by simp) (by decide) rfl fun K => ?_
  refine kr [2, 3, 4] (by simp; rfl) ?_
  refine tr_seq ?_
  refine kc ?_
  refine ko [2, 3, 4, 12, 13, 14] 3 (by simp; rfl) ?_
  replace h0 := bnd h0; obtain ⟨y1, hy1, h0⟩ := h0
  refine kcall [2, 3, 4, 15] [] (ref33_Fault_ok hy1) rfl rfl rfl Try.call43 (by simp) (by simp; rfl) ?_
  refine ko [2, 3, 4, 7, 8] 5 (by simp; rfl) ?_
  refine tops_nil ?_
  replace h0 := bnd h0; obtain ⟨v2, hvv2, h0⟩ := h0
  refine sjv (fun v2_ : Bool => ({ nt := 45, env := [(2, .d (.slice (rowsF api_Step_row a2))), (3, .ptr 3 0), (4, .ptr 4 0), (25, .d (.bool v2_))], box := [(3, [.d (.int .i64 a0.Slots), .d (.slice (rowsF api_Consumer_row a0.Consumers))]), (4, [.d (.int .i64 a1.Known), .d (.int .i64 a1.Valid), .d (.slice (rowsF api_Unit_row a1.Units))])], vec := [] } : St)) (fun v2_ => v2 = v2_) (fun v2_ e => ?_) ?_
  · subst e
    refine tr_cond (b := v2) (by simp) (fun c3 => ?_) (fun c3 => ?_)
    · rw [if_pos c3] at h0
      refine kr [6] (by simp; rfl) ?_
      cases h0
      exact tr_ret ⟨[], by simp, rfl, by simp⟩
    · rw [if_neg (by rw [c3]; decide)] at h0
      refine tr_skip ?_
      refine kc ?_
      refine ko [3, 4, 27, 28, 29] 3 (by simp; rfl) ?_
      replace h0 := bnd h0; obtain ⟨y3, hy3, h0⟩ := h0
      refine kcall [3, 4, 30] [] (ref33_Run_ok hy3) rfl rfl rfl Try.call44 (by simp) (by simp; rfl) ?_
      refine ko [3, 4, 9] 5 (by simp; rfl) ?_
      refine tops_nil ?_
      refine sjv (fun v4 : Int × Int × (List api_Unit) => ({ nt := 45, env := [(3, .ptr 3 0), (4, .ptr 4 0)], box := [(3, [.d (.int .i64 a0.Slots), .d (.slice (rowsF api_Consumer_row a0.Consumers))]), (4, [.d (.int .i64 v4.1), .d (.int .i64 v4.2.1), .d (.slice (rowsF api_Unit_row v4.2.2))])], vec := [] } : St)) (fun v4 => ref35_Check_j0 a0 v4 = some r) (fun v4 h0 => ?_) ?_
      · unfold ref35_Check_j0 at h0
        refine kc ?_
        refine ko [42, 43] 2 (by simp; rfl) ?_
        replace h0 := bnd h0; obtain ⟨y5, hy5, h0⟩ := h0
        refine kcall [44] [] (ref32_Ended_ok hy5) rfl rfl rfl Try.call19 (by simp) (by simp; rfl) ?_
        refine ko [6] 1 (by simp; rfl) ?_
        refine tops_nil ?_
        cases h0
        exact tr_ret ⟨[], by simp, rfl, by simp⟩
      · refine kr [3, 4, 9, 35] (by simp; rfl) ?_
        refine tr_cond (b := (decide (0 < ((y3.1).length : Int)))) (by simp) (fun c5 => ?_) (fun c5 => ?_)
        · rw [if_pos c5] at h0
          replace h0 := bnd h0; obtain ⟨x6, p2, h0⟩ := h0
          replace p2 := idx_some p2
          have p2' := p2; try simp at p2'
          refine lr (by simp [p2, p2']; rfl) ?_
          exact ⟨_, h0, wk (by simp [weak_iff])⟩
        · rw [if_neg (by rw [c5]; decide)] at h0
          refine tr_skip ?_
          exact ⟨_, h0, wk (by simp [weak_iff])⟩
  · refine kc1 ?_
    refine ko [2, 3, 4, 7, 20] 3 (by simp; rfl) ?_
    refine tops_split 20 (y1.2 != 0) (by simp) (fun c6 => ?_) (fun c6 => ?_)
    · rw [c6] at hvv2
      refine kskip 4 [] (by kernel_rfl) ?_
      refine ko [2, 3, 4, 25] 1 (by simp; rfl) ?_
      refine tops_nil ?_
      cases hvv2
      exact ⟨_, rfl, wk (by simp [weak_iff])⟩
    · rw [c6] at hvv2
      refine ko [2, 3, 4, 25] 5 (by simp; rfl) ?_
      refine tops_nil ?_
      cases hvv2
      exact ⟨_, rfl, wk (by simp [weak_iff])⟩
set_option maxHeartbeats 1000000 in
theorem law35_awake_ok  {r : Bool} (h0 : law35_awake = some r) : FnOK Try.prog 26 [] [] (.d (.bool r)) [] := by
  unfold law35_awake at h0
  refine fn_ok (nt := 58) (rs := [.tmp 0]) Try.func26 rfl Try.ntmps26 rfl (by simp) (by decide) rfl fun K => ?_
  refine kr [] (by simp; rfl) ?_
  refine kr [1] (by simp; rfl) ?_
  refine kc ?_
  refine ko [1, 15] 1 (by simp; rfl) ?_
  refine tops_wk (wk_frz 12) ?_
  replace h0 := bnd h0; obtain ⟨y1, hy1, h0⟩ := h0
  refine kcall [1, 16] [] (plan_Make_ok hy1) rfl rfl rfl Try.call45 (by simp) (by simp; rfl) ?_
  refine ko [1, 3] 5 (by simp; rfl) ?_
  refine tops_nil ?_
  refine kc ?_
  refine ko [3, 20] 1 (by simp; rfl) ?_
  replace h0 := bnd h0; obtain ⟨y2, hy2, h0⟩ := h0
  refine kcall [3, 21] [] (plan_Why_ok hy2) rfl rfl rfl Try.call27 (by simp) (by simp; rfl) ?_
  refine ko [3, 4, 5] 6 (by simp; rfl) ?_
  refine tops_nil ?_
  refine kr [3, 4, 5, 6] (by simp; rfl) ?_
  refine kc ?_
  refine ko [3, 4, 5, 6, 29] 1 (by simp; rfl) ?_
  refine tops_wk (wk_frz 26) ?_
  replace h0 := bnd h0; obtain ⟨y3, hy3, h0⟩ := h0
  refine kcall [3, 4, 5, 6, 30] [] (ref32_Start_ok hy3) rfl rfl rfl Try.call22 (by simp) (by simp; rfl) ?_
  refine ko [3, 4, 5, 6, 7] 6 (by simp; rfl) ?_
  refine tops_nil ?_
  refine kc ?_
  refine ko [3, 4, 5, 6, 7, 34] 1 (by simp; rfl) ?_
  replace h0 := bnd h0; obtain ⟨y4, hy4, h0⟩ := h0
  refine kcall [3, 4, 5, 6, 7, 35] [] (plan_Make_ok hy4) rfl rfl rfl Try.call45 (by simp) (by simp; rfl) ?_
  refine ko [3, 4, 5, 6, 7, 9, 10] 5 (by simp; rfl) ?_
  refine tops_nil ?_
  replace h0 := bnd h0; obtain ⟨v5, hvv5, h0⟩ := h0
  refine sjv (fun v5_ : Bool => ({ nt := 58, env := [(0, .d (.bool v5_))], box := [], vec := [] } : St)) (fun v5_ => v5 = v5_) (fun v5_ e => ?_) ?_
  · subst e
    cases h0
    exact tr_ret ⟨[], by simp, rfl, by simp⟩
  · refine kc1 ?_
    refine ko [4, 5, 6, 7, 9, 10, 40] 3 (by simp; rfl) ?_
    refine tops_split 40 (y1.2 == 38) (by simp) (fun c9 => ?_) (fun c9 => ?_)
    · rw [if_pos c9] at hvv5
      refine ko [4, 6, 7, 9, 10, 43] 3 (by simp; rfl) ?_
      refine tops_split 43 y2.2 (by simp) (fun c10 => ?_) (fun c10 => ?_)
      · rw [if_pos c10] at hvv5
        refine ko [6, 7, 9, 10, 48] 5 (by simp; rfl) ?_
        refine tops_split 48 (y2.1.Pool == 4) (by simp) (fun c11 => ?_) (fun c11 => ?_)
        · rw [if_pos c11] at hvv5
          refine ko [6, 7, 9, 52] 4 (by simp; rfl) ?_
          refine tops_split 52 (y4.2 == 0) (by simp) (fun c12 => ?_) (fun c12 => ?_)
          · rw [if_pos c12] at hvv5
            refine ko [52, 53, 54, 55] 3 (by simp; rfl) ?_
            replace hvv5 := bnd hvv5; obtain ⟨y6, hy6, hvv5⟩ := hvv5
            refine kcall [52, 56] [] (ref35_Check_ok hy6) rfl rfl rfl Try.call46 (by simp) (by simp; rfl) ?_
            refine ko [0] 2 (by simp; rfl) ?_
            refine tops_nil ?_
            cases hvv5
            exact ⟨_, rfl, wk (by simp [weak_iff])⟩
          · rw [if_neg (by rw [c12]; decide)] at hvv5
            refine kskip 4 [] (by kernel_rfl) ?_
            refine ko [0] 2 (by simp; rfl) ?_
            refine tops_nil ?_
            cases hvv5
            exact ⟨_, rfl, wk (by simp [weak_iff])⟩
        · rw [if_neg (by rw [c11]; decide)] at hvv5
          refine ko [6, 7, 9, 52] 4 (by simp; rfl) ?_
          refine kskip 4 [] (by kernel_rfl) ?_
          refine ko [0] 2 (by simp; rfl) ?_
          refine tops_nil ?_
          cases hvv5
          exact ⟨_, rfl, wk (by simp [weak_iff])⟩
      · rw [if_neg (by rw [c10]; decide)] at hvv5
        refine kskip 3 [] (by kernel_rfl) ?_
        refine ko [6, 7, 9, 52] 6 (by simp; rfl) ?_
        refine kskip 4 [] (by kernel_rfl) ?_
        refine ko [0] 2 (by simp; rfl) ?_
        refine tops_nil ?_
        cases hvv5
        exact ⟨_, rfl, wk (by simp [weak_iff])⟩
    · rw [if_neg (by rw [c9]; decide)] at hvv5
      refine ko [4, 6, 7, 9, 10, 43] 3 (by simp; rfl) ?_
      refine kskip 3 [] (by kernel_rfl) ?_
      refine ko [6, 7, 9, 52] 6 (by simp; rfl) ?_
      refine kskip 4 [] (by kernel_rfl) ?_
      refine ko [0] 2 (by simp; rfl) ?_
      refine tops_nil ?_
      cases hvv5
      exact ⟨_, rfl, wk (by simp [weak_iff])⟩
set_option maxHeartbeats 1000000 in
theorem law35_PlanHelps_ok {a0 : List Int} {r : Bool} (h0 : law35_PlanHelps a0 = some r) : FnOK Try.prog 7 [] [.d (.slice (rowsF (iRow .i64) a0))] (.d (.bool r)) [] := by
  unfold law35_PlanHelps at h0
  refine fn_okK (nt := 103) (rs := [.tmp 2]) Try.func7 rfl Try.ntmps7 rfl (by simp) (by decide) rfl fun K hK => ?_
  refine kr [0] (by simp; rfl) ?_
  refine tr_seq ?_
  refine kr [0, 13] (by simp; rfl) ?_
  refine tr_cond (b := (decide (200 < ((a0).length : Int)))) (by simp) (fun c1 => ?_) (fun c1 => ?_)
  · rw [if_pos c1] at h0
    refine kc ?_
    replace h0 := bnd h0; obtain ⟨y1, hy1, h0⟩ := h0
    refine kcall [14] [] (law35_awake_ok hy1) rfl rfl rfl Try.call26 (by simp) (by simp; rfl) ?_
    refine ko [2] 1 (by simp; rfl) ?_
    refine tops_nil ?_
    cases h0
    exact tr_ret ⟨[], by simp, rfl, by simp⟩
  · rw [if_neg (by rw [c1]; decide)] at h0
    refine tr_skip ?_
    refine kr [3] (by simp; rfl) ?_
    refine kc ?_
    refine ko [3, 18] 1 (by simp; rfl) ?_
    replace h0 := bnd h0; obtain ⟨y2, hy2, h0⟩ := h0
    refine kcall [3, 19] [17] (make_Fleet_ok hy2) rfl rfl rfl Try.call9 (by simp) (by simp; rfl) ?_
    refine ko [3, 4] 2 (by simp; rfl) ?_
    refine tops_nil ?_
    refine sjv (fun v3 : Unit => ({ nt := 103, env := [(3, .ptr 17 0), (4, .cptr [.int .i64 y2.1.Slots, .slice (rowsF api_Consumer_row y2.1.Consumers)] 0)], box := [(17, [.d (.slice (rowsF (iRow .i64) y2.2.L)), .d (.int .i64 y2.2.at_)])], vec := [] } : St)) (fun v3 => law35_PlanHelps_j0 y2 v3 = some r) (fun v3 h0 => ?_) ?_
    · unfold law35_PlanHelps_j0 at h0
      replace h0 := bnd h0; obtain ⟨_, p4, h0⟩ := h0
      replace p4 := ck_some p4
      have p4' := p4; try simp at p4'
      refine kr [3, 4, 8] (by simp [p4, p4']; rfl) ?_
      refine kc ?_
      refine ko [3, 4, 8, 52, 55] 4 (by simp; rfl) ?_
      replace h0 := bnd h0; obtain ⟨y4, hy4, h0⟩ := h0
      refine kcall [3, 4, 8, 56] [17] (make_Tape_Next_ok hy4) rfl rfl rfl Try.call14 (by simp) (by simp; rfl) ?_
      refine ko [3, 4, 8, 9] 1 (by simp; rfl) ?_
      refine tops_nil ?_
      replace h0 := bnd h0; obtain ⟨v5, hvv5, h0⟩ := h0
      refine sjv (fun v5_ : (List Int) × Int × (List api_Consumer) => ({ nt := 103, env := [(3, .ptr 17 0), (4, .cptr [.int .i64 y2.1.Slots, .slice (rowsF api_Consumer_row y2.1.Consumers)] 0), (8, .ptr 8 0), (9, .d (.int .i64 y4.1))], box := [(8, [.d (.int .i64 2), .vec 50]), (17, [.d (.slice (rowsF (iRow .i64) v5_.1)), .d (.int .i64 v5_.2.1)])], vec := [(50, ⟨65, 3, rowsF api_Consumer_row v5_.2.2⟩)] } : St)) (fun v5_ => v5 = v5_) (fun v5_ e => ?_) ?_
      · subst e
        replace h0 := bnd h0; obtain ⟨v6, hvv6, h0⟩ := h0
        refine sjv (fun v6_ : (List api_Consumer) => ({ nt := 103, env := [(4, .cptr [.int .i64 y2.1.Slots, .slice (rowsF api_Consumer_row y2.1.Consumers)] 0), (8, .ptr 8 0)], box := [(8, [.d (.int .i64 2), .vec 50])], vec := [(50, ⟨65, 3, rowsF api_Consumer_row v6_⟩)] } : St)) (fun v6_ => v6 = v6_) (fun v6_ e => ?_) ?_
        · subst e
          refine tr_seq ?_
          refine kr [4, 8, 10] (by simp; rfl) ?_
          replace h0 := bnd h0; obtain ⟨e1, hI1, h0⟩ := h0
          refine tjv (fun v7 : Unit => ({ nt := 103, env := [], box := [], vec := [] } : St)) (fun v7 => .inl v7 = e1) (fun v7 hI1e _ W1 => ?_) ?_
          · subst hI1e
            dsimp only at h0
            refine tr_wk W1 ?_
            refine kc ?_
            replace h0 := bnd h0; obtain ⟨y8, hy8, h0⟩ := h0
            refine kcall [102] [] (law35_awake_ok hy8) rfl rfl rfl Try.call26 (by simp) (by simp; rfl) ?_
            refine ko [2] 1 (by simp; rfl) ?_
            refine tops_nil ?_
            cases h0
            exact tr_ret ⟨[], by simp, rfl, by simp⟩
          · refine tr_block (tr_iter (fun s9 : Int => ({ nt := 103, env := [(4, .cptr [.int .i64 y2.1.Slots, .slice (rowsF api_Consumer_row y2.1.Consumers)] 0), (8, .ptr 8 0), (10, .d (.int .i64 s9))], box := [(8, [.d (.int .i64 2), .d (.slice (rowsF api_Consumer_row v6))])], vec := [] } : St)) hI1 ((wk_frz 50).trans (wk (by simp [weak_iff]))) fun G1 s9 o1 h1 hg1 he1 => ?_)
            unfold law35_PlanHelps_l1 at h1
            refine tr_seq ?_
            refine kr [4, 8, 10, 90] (by simp; rfl) ?_
            refine tr_cond (b := (decide (s9 < 2))) (by simp) (fun c27 => ?_) (fun c27 => ?_)
            · rw [if_pos c27] at h1
              refine tr_skip ?_
              refine tr_seq ?_
              refine tr_block ?_
              replace h1 := bnd h1; obtain ⟨v10, hvv10, h1⟩ := h1
              refine sjv (fun v10_ : Bool => ({ nt := 103, env := [(4, .cptr [.int .i64 y2.1.Slots, .slice (rowsF api_Consumer_row y2.1.Consumers)] 0), (8, .ptr 8 0), (10, .d (.int .i64 s9)), (101, .d (.bool v10_))], box := [(8, [.d (.int .i64 2), .d (.slice (rowsF api_Consumer_row v6))])], vec := [] } : St)) (fun v10_ => v10 = v10_) (fun v10_ e => ?_) ?_
              · subst e
                refine tr_cond (b := v10) (by simp) (fun c30 => ?_) (fun c30 => ?_)
                · rw [if_pos c30] at h1
                  refine kr [2] (by simp; rfl) ?_
                  have k1 := he1 _ (Option.some.inj h1)
                  subst k1
                  dsimp only at h0
                  cases h0
                  exact tr_ret ⟨[], by simp, rfl, by simp⟩
                · rw [if_neg (by rw [c30]; decide)] at h1
                  refine tr_skip ?_
                  refine lr (by simp; rfl) ?_
                  exact ⟨_, hg1 _ (Option.some.inj h1), wk (by simp [weak_iff])⟩
              · refine kc1 ?_
                refine ko [4, 8, 10, 93, 94] 2 (by simp; rfl) ?_
                replace hvv10 := bnd hvv10; obtain ⟨y11, hy11, hvv10⟩ := hvv10
                refine kcall [4, 8, 10, 95] [] (plan_Fit_ok hy11) rfl rfl rfl Try.call28 (by simp) (by simp; rfl) ?_
                refine ko [4, 8, 10, 96] 1 (by simp; rfl) ?_
                refine tops_split 96 y11 (by simp) (fun c31 => ?_) (fun c31 => ?_)
                · rw [if_pos c31] at hvv10
                  refine ko [4, 8, 10, 96, 97, 98] 2 (by simp; rfl) ?_
                  replace hvv10 := bnd hvv10; obtain ⟨y12, hy12, hvv10⟩ := hvv10
                  refine kcall [4, 8, 10, 96, 97, 98, 99] [] (plan_Fit_ok hy12) rfl rfl rfl Try.call28 (by simp) (by simp; rfl) ?_
                  refine ko [4, 8, 10, 97, 98, 99, 100, 101] 2 (by simp; rfl) ?_
                  refine tops_nil ?_
                  cases hvv10
                  exact ⟨_, rfl, wk (by simp [weak_iff])⟩
                · rw [if_neg (by rw [c31]; decide)] at hvv10
                  refine kskip 4 [] (by kernel_rfl) ?_
                  refine ko [4, 8, 10, 101] 1 (by simp; rfl) ?_
                  refine tops_nil ?_
                  cases hvv10
                  exact ⟨_, rfl, wk (by simp [weak_iff])⟩
            · rw [if_neg (by rw [c27]; decide)] at h1
              refine tr_exit ?_
              exact ⟨_, he1 _ (Option.some.inj h1), wk (by simp [weak_iff])⟩
        · refine kd1 [[], [0], [], [], [3], [], [4, 5], [6], [7], [8], [9], [9, 10], [9, 11], [9, 12], [1, 2], [14], [0, 1, 2, 3, 4, 5, 6, 7, 8, 9, 10, 11, 12, 13, 14, 15]] [11] [(17, [11])] none [] 16 fol (by decide +kernel) (by simp) ?_
          replace hvv6 := bnd hvv6; obtain ⟨_, p81, hvv6⟩ := hvv6
          replace p81 := ck_some p81
          have p81' := p81; try simp at p81'
          have p81o : y4.1 < (((v5.2.2)).length : Int) := by omega
          replace hvv6 := bnd hvv6; obtain ⟨x15, p82, hvv6⟩ := hvv6
          replace p82 := idx_some p82
          have p82' := p82; try simp at p82'
          refine dr_go 0 2 rfl (by simp (maxSteps := 1000000) [-getElem?_pos, List.getElem?_cons_zero, List.getElem?_cons_succ, p81, p81o, p82, p81', p82']; rfl) ?_
          refine dr_go 2 2 rfl (by simp (maxSteps := 1000000) [-getElem?_pos, List.getElem?_cons_zero, List.getElem?_cons_succ, p81, p81o, p82, p81', p82']; rfl) ?_
          refine dr_go 4 2 rfl (by simp (maxSteps := 1000000) [-getElem?_pos, List.getElem?_cons_zero, List.getElem?_cons_succ, p81, p81o, p82, p81', p82']; rfl) ?_
          refine dr_go 6 2 rfl (by simp (maxSteps := 1000000) [-getElem?_pos, List.getElem?_cons_zero, List.getElem?_cons_succ, p81, p81o, p82, p81', p82']; rfl) ?_
          refine dr_go 8 2 rfl (by simp (maxSteps := 1000000) [-getElem?_pos, List.getElem?_cons_zero, List.getElem?_cons_succ, p81, p81o, p82, p81', p82']; rfl) ?_
          refine dr_split 9 82 x15.Dual (by simp) (fun c35 => ?_) (fun c35 => ?_)
          · rw [if_pos c35] at hvv6
            refine dr_skip 10 103 [some 83, some 84, some 85] rfl rfl (by decide) (by kernel_rfl) (by simp only [skEf, List.map_cons, List.map_nil, List.cons_append, List.nil_append]; rfl) ?_
            replace hvv6 := bnd hvv6; obtain ⟨_, p83, hvv6⟩ := hvv6
            replace p83 := ck_some p83
            have p83' := p83; try simp at p83'
            have p83o : y4.1 < (((v5.2.2)).length : Int) := by omega
            refine dr_go 13 2 rfl (by simp (maxSteps := 1000000) [p83, p83o, p83']; rfl) ?_
            refine dr_go 15 1 rfl (by simp (maxSteps := 1000000) [p83, p83o, p83']; rfl) ?_
            refine dr_end rfl ?_
            refine ko [4, 8] 1 (by simp [-getElem?_pos, List.getElem?_cons_zero, List.getElem?_cons_succ, p82, (List.getElem?_eq_some_iff.1 p82.2).1, p82']; rfl) ?_
            refine tops_nil ?_
            cases hvv6
            exact ⟨_, rfl, wk (by simp [weak_iff])⟩
          · rw [if_neg (by rw [c35]; decide)] at hvv6
            refine dr_go 10 1 rfl (by simp (maxSteps := 1000000); rfl) ?_
            replace hvv6 := bnd hvv6; obtain ⟨y16, hy16, hvv6⟩ := hvv6
            refine dr_call 11 [17] (make_Tape_Next_ok hy16) rfl rfl rfl rfl rfl Try.call14 (by simp) ?_
            replace hvv6 := bnd hvv6; obtain ⟨_, p84, hvv6⟩ := hvv6
            replace p84 := ck_some p84
            have p84' := p84; try simp at p84'
            have p84o : y4.1 < (((v5.2.2)).length : Int) := by omega
            refine dr_go 12 2 rfl (by simp (maxSteps := 1000000) [p84, p84o, p84']; rfl) ?_
            refine dr_go 14 2 rfl (by simp (maxSteps := 1000000) [p84, p84o, p84']; rfl) ?_
            refine dr_end rfl ?_
            refine ko [4, 8] 1 (by simp [-getElem?_pos, List.getElem?_cons_zero, List.getElem?_cons_succ, p82, (List.getElem?_eq_some_iff.1 p82.2).1, p82']; rfl) ?_
            refine tops_nil ?_
            cases hvv6
            exact ⟨_, rfl, wk (by simp [weak_iff])⟩
      · refine kd1 [[], [0], [], [], [3], [], [4, 5], [6], [7], [8], [9], [9, 10], [9, 11], [9, 12], [1, 2], [14], [0, 1, 2, 3, 4, 5, 6, 7, 8, 9, 10, 11, 12, 13, 14, 15]] [11] [(17, [11])] none [] 16 fol (by decide +kernel) (by simp) ?_
        replace hvv5 := bnd hvv5; obtain ⟨_, p97, hvv5⟩ := hvv5
        replace p97 := ck_some p97
        have p97' := p97; try simp at p97'
        have p97o : y4.1 < (((y2.1.Consumers)).length : Int) := by omega
        replace hvv5 := bnd hvv5; obtain ⟨x17, p98, hvv5⟩ := hvv5
        replace p98 := idx_some p98
        have p98' := p98; try simp at p98'
        refine dr_go 0 2 rfl (by simp (maxSteps := 1000000) [-getElem?_pos, List.getElem?_cons_zero, List.getElem?_cons_succ, p97, p97o, p98, p97', p98']; rfl) ?_
        refine dr_go 2 2 rfl (by simp (maxSteps := 1000000) [-getElem?_pos, List.getElem?_cons_zero, List.getElem?_cons_succ, p97, p97o, p98, p97', p98']; rfl) ?_
        refine dr_go 4 2 rfl (by simp (maxSteps := 1000000) [-getElem?_pos, List.getElem?_cons_zero, List.getElem?_cons_succ, p97, p97o, p98, p97', p98']; rfl) ?_
        refine dr_go 6 2 rfl (by simp (maxSteps := 1000000) [-getElem?_pos, List.getElem?_cons_zero, List.getElem?_cons_succ, p97, p97o, p98, p97', p98']; rfl) ?_
        refine dr_go 8 2 rfl (by simp (maxSteps := 1000000) [-getElem?_pos, List.getElem?_cons_zero, List.getElem?_cons_succ, p97, p97o, p98, p97', p98']; rfl) ?_
        refine dr_split 9 66 x17.Live (by simp) (fun c39 => ?_) (fun c39 => ?_)
        · rw [if_pos c39] at hvv5
          refine dr_skip 10 103 [some 67, some 68, some 69] rfl rfl (by decide) (by kernel_rfl) (by simp only [skEf, List.map_cons, List.map_nil, List.cons_append, List.nil_append]; rfl) ?_
          replace hvv5 := bnd hvv5; obtain ⟨_, p99, hvv5⟩ := hvv5
          replace p99 := ck_some p99
          have p99' := p99; try simp at p99'
          have p99o : y4.1 < (((y2.1.Consumers)).length : Int) := by omega
          refine dr_go 13 2 rfl (by simp (maxSteps := 1000000) [p99, p99o, p99']; rfl) ?_
          refine dr_go 15 1 rfl (by simp (maxSteps := 1000000) [p99, p99o, p99']; rfl) ?_
          refine dr_end rfl ?_
          refine ko [3, 4, 8, 9] 1 (by simp [-getElem?_pos, List.getElem?_cons_zero, List.getElem?_cons_succ, p98, (List.getElem?_eq_some_iff.1 p98.2).1, p98']; rfl) ?_
          refine tops_nil ?_
          cases hvv5
          exact ⟨_, rfl, wk (by simp [weak_iff])⟩
        · rw [if_neg (by rw [c39]; decide)] at hvv5
          refine dr_go 10 1 rfl (by simp (maxSteps := 1000000); rfl) ?_
          replace hvv5 := bnd hvv5; obtain ⟨y18, hy18, hvv5⟩ := hvv5
          refine dr_call 11 [17] (make_Tape_Next_ok hy18) rfl rfl rfl rfl rfl Try.call14 (by simp) ?_
          replace hvv5 := bnd hvv5; obtain ⟨_, p100, hvv5⟩ := hvv5
          replace p100 := ck_some p100
          have p100' := p100; try simp at p100'
          have p100o : y4.1 < (((y2.1.Consumers)).length : Int) := by omega
          refine dr_go 12 2 rfl (by simp (maxSteps := 1000000) [p100, p100o, p100']; rfl) ?_
          refine dr_go 14 2 rfl (by simp (maxSteps := 1000000) [p100, p100o, p100']; rfl) ?_
          refine dr_end rfl ?_
          refine ko [3, 4, 8, 9] 1 (by simp [-getElem?_pos, List.getElem?_cons_zero, List.getElem?_cons_succ, p98, (List.getElem?_eq_some_iff.1 p98.2).1, p98']; rfl) ?_
          refine tops_nil ?_
          cases hvv5
          exact ⟨_, rfl, wk (by simp [weak_iff])⟩
    · refine kc ?_
      refine ko [3, 4, 21] 1 (by simp; rfl) ?_
      replace h0 := bnd h0; obtain ⟨y19, hy19, h0⟩ := h0
      refine kcall [3, 4, 22] [] (plan_Why_ok hy19) rfl rfl rfl Try.call27 (by simp) (by simp; rfl) ?_
      refine ko [3, 4, 5, 6] 6 (by simp; rfl) ?_
      refine tops_nil ?_
      refine tr_frzB 4 [.d (.int .i64 y2.1.Slots), .d (.slice (rowsF api_Consumer_row y2.1.Consumers))] [.int .i64 y2.1.Slots, .slice (rowsF api_Consumer_row y2.1.Consumers)] (by simp) (by simp) hK (by decide) (fun i hi => absurd hi (Nat.not_lt_zero i)) ?_
      refine tr_frzB 5 [.d (.int .i64 y19.1.Pool)] [.int .i64 y19.1.Pool] (by simp) (by simp) hK (by decide) (fun i hi => absurd hi (Nat.not_lt_zero i)) ?_
      refine kr [3, 4, 5, 25] (by simp; rfl) ?_
      refine tr_cond (b := y19.2) (by simp) (fun c40 => ?_) (fun c40 => ?_)
      · rw [if_pos c40] at h0
        replace h0 := bnd h0; obtain ⟨_, p101, h0⟩ := h0
        replace p101 := ck_some p101
        have p101' := p101; try simp at p101'
        replace h0 := bnd h0; obtain ⟨_, p102, h0⟩ := h0
        replace p102 := ck_some p102
        have p102' := p102; try simp at p102'
        refine kheld (S0 := ({ nt := 103, env := [(3, .ptr 17 0), (4, .cptr [.int .i64 y2.1.Slots, .slice (rowsF api_Consumer_row y2.1.Consumers)] 0), (5, .cptr [.int .i64 y19.1.Pool] 0), (7, .ptr 7 0)], box := [(7, [.d (.int .i64 y2.1.Slots), .vec 35]), (17, [.d (.slice (rowsF (iRow .i64) y2.2.L)), .d (.int .i64 y2.2.at_)])], vec := [(35, ⟨65, 3, rowsF api_Consumer_row (y2.1.Consumers ++ [(⟨y19.1.Pool, false, false⟩ : api_Consumer)])⟩)] } : St)) [0, 1, 2, 3, 5, 6] 7 (by simpa using hK) fol (by decide +kernel) rfl rfl rfl (by simp [stillsL, stillB, pureP, pureB, p101, p102, p101', p102']; rfl) (fun K' S F C => ?_) ?_
        ·
          refine ho_all C [4, 7, 11] (by decide +kernel) (by decide) ?_
          refine hall_cons rfl (by simp [p101, p102, p101', p102']; rfl) ?_ ?_
          ·
            refine ho_all C [7, 11] (by decide +kernel) (by decide) ?_
            refine hall_cons rfl (by simp [p101, p102, p101', p102']; rfl) ?_ ?_
            ·
              refine ho_all C [8, 11] (by decide +kernel) (by decide) ?_
              refine hall_cons rfl (by simp [p101, p102, p101', p102']; rfl) ?_ ?_
              ·
                refine ho_all C [9, 11] (by decide +kernel) (by decide) ?_
                refine hall_cons rfl (by simp [p101, p102, p101', p102']; rfl) ?_ ?_
                ·
                  refine ho_all C [10, 11] (by decide +kernel) (by decide) ?_
                  refine hall_cons rfl (by simp [p101, p102, p101', p102']; rfl) ?_ ?_
                  ·
                    refine ho_all C [11] (by decide +kernel) (by decide) ?_
                    refine hall_cons rfl (by simp [p101, p102, p101', p102']; rfl) ?_ ?_
                    ·
                      refine ho_all C [12] (by decide +kernel) (by decide) ?_
                      refine hall_cons rfl (by simp [p101, p102, p101', p102']; rfl) ?_ ?_
                      ·
                        exact ho_end C (by decide +kernel) ⟨rfl, weak_iff.2 (by simp)⟩
                      exact trivial
                    exact trivial
                  refine hall_cons rfl (by simp [p101, p102, p101', p102']; rfl) ?_ ?_
                  ·
                    refine ho_all C [10] (by decide +kernel) (by decide) ?_
                    refine hall_cons rfl (by simp [p101, p102, p101', p102']; rfl) ?_ ?_
                    ·
                      refine ho_all C [12] (by decide +kernel) (by decide) ?_
                      refine hall_cons rfl (by simp [p101, p102, p101', p102']; rfl) ?_ ?_
                      ·
                        exact ho_end C (by decide +kernel) ⟨rfl, weak_iff.2 (by simp)⟩
                      exact trivial
                    exact trivial
                  exact trivial
                refine hall_cons rfl (by simp [p101, p102, p101', p102']; rfl) ?_ ?_
                ·
                  refine ho_all C [9] (by decide +kernel) (by decide) ?_
                  refine hall_cons rfl (by simp [p101, p102, p101', p102']; rfl) ?_ ?_
                  ·
                    refine ho_all C [10] (by decide +kernel) (by decide) ?_
                    refine hall_cons rfl (by simp [p101, p102, p101', p102']; rfl) ?_ ?_
                    ·
                      refine ho_all C [12] (by decide +kernel) (by decide) ?_
                      refine hall_cons rfl (by simp [p101, p102, p101', p102']; rfl) ?_ ?_
                      ·
                        exact ho_end C (by decide +kernel) ⟨rfl, weak_iff.2 (by simp)⟩
                      exact trivial
                    exact trivial
                  exact trivial
                exact trivial
              refine hall_cons rfl (by simp [p101, p102, p101', p102']; rfl) ?_ ?_
              ·
                refine ho_all C [8] (by decide +kernel) (by decide) ?_
                refine hall_cons rfl (by simp [p101, p102, p101', p102']; rfl) ?_ ?_
                ·
                  refine ho_all C [9] (by decide +kernel) (by decide) ?_
                  refine hall_cons rfl (by simp [p101, p102, p101', p102']; rfl) ?_ ?_
                  ·
                    refine ho_all C [10] (by decide +kernel) (by decide) ?_
                    refine hall_cons rfl (by simp [p101, p102, p101', p102']; rfl) ?_ ?_
                    ·
                      refine ho_all C [12] (by decide +kernel) (by decide) ?_
                      refine hall_cons rfl (by simp [p101, p102, p101', p102']; rfl) ?_ ?_
                      ·
                        exact ho_end C (by decide +kernel) ⟨rfl, weak_iff.2 (by simp)⟩
                      exact trivial
                    exact trivial
                  exact trivial
                exact trivial
              exact trivial
            refine hall_cons rfl (by simp [p101, p102, p101', p102']; rfl) ?_ ?_
            ·
              refine ho_all C [7] (by decide +kernel) (by decide) ?_
              refine hall_cons rfl (by simp [p101, p102, p101', p102']; rfl) ?_ ?_
              ·
                refine ho_all C [8] (by decide +kernel) (by decide) ?_
                refine hall_cons rfl (by simp [p101, p102, p101', p102']; rfl) ?_ ?_
                ·
                  refine ho_all C [9] (by decide +kernel) (by decide) ?_
                  refine hall_cons rfl (by simp [p101, p102, p101', p102']; rfl) ?_ ?_
                  ·
                    refine ho_all C [10] (by decide +kernel) (by decide) ?_
                    refine hall_cons rfl (by simp [p101, p102, p101', p102']; rfl) ?_ ?_
                    ·
                      refine ho_all C [12] (by decide +kernel) (by decide) ?_
                      refine hall_cons rfl (by simp [p101, p102, p101', p102']; rfl) ?_ ?_
                      ·
                        exact ho_end C (by decide +kernel) ⟨rfl, weak_iff.2 (by simp)⟩
                      exact trivial
                    exact trivial
                  exact trivial
                exact trivial
              exact trivial
            exact trivial
          refine hall_cons rfl (by simp [p101, p102, p101', p102']; rfl) ?_ ?_
          ·
            refine ho_all C [4, 8, 11] (by decide +kernel) (by decide) ?_
            refine hall_cons rfl (by simp [p101, p102, p101', p102']; rfl) ?_ ?_
            ·
              refine ho_all C [8, 11] (by decide +kernel) (by decide) ?_
              refine hall_cons rfl (by simp [p101, p102, p101', p102']; rfl) ?_ ?_
              ·
                refine ho_all C [9, 11] (by decide +kernel) (by decide) ?_
                refine hall_cons rfl (by simp [p101, p102, p101', p102']; rfl) ?_ ?_
                ·
                  refine ho_all C [10, 11] (by decide +kernel) (by decide) ?_
                  refine hall_cons rfl (by simp [p101, p102, p101', p102']; rfl) ?_ ?_
                  ·
                    refine ho_all C [11] (by decide +kernel) (by decide) ?_
                    refine hall_cons rfl (by simp [p101, p102, p101', p102']; rfl) ?_ ?_
                    ·
                      refine ho_all C [12] (by decide +kernel) (by decide) ?_
                      refine hall_cons rfl (by simp [p101, p102, p101', p102']; rfl) ?_ ?_
                      ·
                        exact ho_end C (by decide +kernel) ⟨rfl, weak_iff.2 (by simp)⟩
                      exact trivial
                    exact trivial
                  refine hall_cons rfl (by simp [p101, p102, p101', p102']; rfl) ?_ ?_
                  ·
                    refine ho_all C [10] (by decide +kernel) (by decide) ?_
                    refine hall_cons rfl (by simp [p101, p102, p101', p102']; rfl) ?_ ?_
                    ·
                      refine ho_all C [12] (by decide +kernel) (by decide) ?_
                      refine hall_cons rfl (by simp [p101, p102, p101', p102']; rfl) ?_ ?_
                      ·
                        exact ho_end C (by decide +kernel) ⟨rfl, weak_iff.2 (by simp)⟩
                      exact trivial
                    exact trivial
                  exact trivial
                refine hall_cons rfl (by simp [p101, p102, p101', p102']; rfl) ?_ ?_
                ·
                  refine ho_all C [9] (by decide +kernel) (by decide) ?_
                  refine hall_cons rfl (by simp [p101, p102, p101', p102']; rfl) ?_ ?_
                  ·
                    refine ho_all C [10] (by decide +kernel) (by decide) ?_
                    refine hall_cons rfl (by simp [p101, p102, p101', p102']; rfl) ?_ ?_
                    ·
                      refine ho_all C [12] (by decide +kernel) (by decide) ?_
                      refine hall_cons rfl (by simp [p101, p102, p101', p102']; rfl) ?_ ?_
                      ·
                        exact ho_end C (by decide +kernel) ⟨rfl, weak_iff.2 (by simp)⟩
                      exact trivial
                    exact trivial
                  exact trivial
                exact trivial
              refine hall_cons rfl (by simp [p101, p102, p101', p102']; rfl) ?_ ?_
              ·
                refine ho_all C [8] (by decide +kernel) (by decide) ?_
                refine hall_cons rfl (by simp [p101, p102, p101', p102']; rfl) ?_ ?_
                ·
                  refine ho_all C [9] (by decide +kernel) (by decide) ?_
                  refine hall_cons rfl (by simp [p101, p102, p101', p102']; rfl) ?_ ?_
                  ·
                    refine ho_all C [10] (by decide +kernel) (by decide) ?_
                    refine hall_cons rfl (by simp [p101, p102, p101', p102']; rfl) ?_ ?_
                    ·
                      refine ho_all C [12] (by decide +kernel) (by decide) ?_
                      refine hall_cons rfl (by simp [p101, p102, p101', p102']; rfl) ?_ ?_
                      ·
                        exact ho_end C (by decide +kernel) ⟨rfl, weak_iff.2 (by simp)⟩
                      exact trivial
                    exact trivial
                  exact trivial
                exact trivial
              exact trivial
            refine hall_cons rfl (by simp [p101, p102, p101', p102']; rfl) ?_ ?_
            ·
              refine ho_all C [4, 11] (by decide +kernel) (by decide) ?_
              refine hall_cons rfl (by simp [p101, p102, p101', p102']; rfl) ?_ ?_
              ·
                refine ho_all C [9, 11] (by decide +kernel) (by decide) ?_
                refine hall_cons rfl (by simp [p101, p102, p101', p102']; rfl) ?_ ?_
                ·
                  refine ho_all C [10, 11] (by decide +kernel) (by decide) ?_
                  refine hall_cons rfl (by simp [p101, p102, p101', p102']; rfl) ?_ ?_
                  ·
                    refine ho_all C [11] (by decide +kernel) (by decide) ?_
                    refine hall_cons rfl (by simp [p101, p102, p101', p102']; rfl) ?_ ?_
                    ·
                      refine ho_all C [12] (by decide +kernel) (by decide) ?_
                      refine hall_cons rfl (by simp [p101, p102, p101', p102']; rfl) ?_ ?_
                      ·
                        exact ho_end C (by decide +kernel) ⟨rfl, weak_iff.2 (by simp)⟩
                      exact trivial
                    exact trivial
                  refine hall_cons rfl (by simp [p101, p102, p101', p102']; rfl) ?_ ?_
                  ·
                    refine ho_all C [10] (by decide +kernel) (by decide) ?_
                    refine hall_cons rfl (by simp [p101, p102, p101', p102']; rfl) ?_ ?_
                    ·
                      refine ho_all C [12] (by decide +kernel) (by decide) ?_
                      refine hall_cons rfl (by simp [p101, p102, p101', p102']; rfl) ?_ ?_
                      ·
                        exact ho_end C (by decide +kernel) ⟨rfl, weak_iff.2 (by simp)⟩
                      exact trivial
                    exact trivial
                  exact trivial
                refine hall_cons rfl (by simp [p101, p102, p101', p102']; rfl) ?_ ?_
                ·
                  refine ho_all C [9] (by decide +kernel) (by decide) ?_
                  refine hall_cons rfl (by simp [p101, p102, p101', p102']; rfl) ?_ ?_
                  ·
                    refine ho_all C [10] (by decide +kernel) (by decide) ?_
                    refine hall_cons rfl (by simp [p101, p102, p101', p102']; rfl) ?_ ?_
                    ·
                      refine ho_all C [12] (by decide +kernel) (by decide) ?_
                      refine hall_cons rfl (by simp [p101, p102, p101', p102']; rfl) ?_ ?_
                      ·
                        exact ho_end C (by decide +kernel) ⟨rfl, weak_iff.2 (by simp)⟩
                      exact trivial
                    exact trivial
                  exact trivial
                exact trivial
              refine hall_cons rfl (by simp [p101, p102, p101', p102']; rfl) ?_ ?_
              ·
                refine ho_all C [4] (by decide +kernel) (by decide) ?_
                refine hall_cons rfl (by simp [p101, p102, p101', p102']; rfl) ?_ ?_
                ·
                  refine ho_all C [9] (by decide +kernel) (by decide) ?_
                  refine hall_cons rfl (by simp [p101, p102, p101', p102']; rfl) ?_ ?_
                  ·
                    refine ho_all C [10] (by decide +kernel) (by decide) ?_
                    refine hall_cons rfl (by simp [p101, p102, p101', p102']; rfl) ?_ ?_
                    ·
                      refine ho_all C [12] (by decide +kernel) (by decide) ?_
                      refine hall_cons rfl (by simp [p101, p102, p101', p102']; rfl) ?_ ?_
                      ·
                        exact ho_end C (by decide +kernel) ⟨rfl, weak_iff.2 (by simp)⟩
                      exact trivial
                    exact trivial
                  exact trivial
                exact trivial
              exact trivial
            refine hall_cons rfl (by simp [p101, p102, p101', p102']; rfl) ?_ ?_
            ·
              refine ho_all C [4, 8] (by decide +kernel) (by decide) ?_
              refine hall_cons rfl (by simp [p101, p102, p101', p102']; rfl) ?_ ?_
              ·
                refine ho_all C [8] (by decide +kernel) (by decide) ?_
                refine hall_cons rfl (by simp [p101, p102, p101', p102']; rfl) ?_ ?_
                ·
                  refine ho_all C [9] (by decide +kernel) (by decide) ?_
                  refine hall_cons rfl (by simp [p101, p102, p101', p102']; rfl) ?_ ?_
                  ·
                    refine ho_all C [10] (by decide +kernel) (by decide) ?_
                    refine hall_cons rfl (by simp [p101, p102, p101', p102']; rfl) ?_ ?_
                    ·
                      refine ho_all C [12] (by decide +kernel) (by decide) ?_
                      refine hall_cons rfl (by simp [p101, p102, p101', p102']; rfl) ?_ ?_
                      ·
                        exact ho_end C (by decide +kernel) ⟨rfl, weak_iff.2 (by simp)⟩
                      exact trivial
                    exact trivial
                  exact trivial
                exact trivial
              refine hall_cons rfl (by simp [p101, p102, p101', p102']; rfl) ?_ ?_
              ·
                refine ho_all C [4] (by decide +kernel) (by decide) ?_
                refine hall_cons rfl (by simp [p101, p102, p101', p102']; rfl) ?_ ?_
                ·
                  refine ho_all C [9] (by decide +kernel) (by decide) ?_
                  refine hall_cons rfl (by simp [p101, p102, p101', p102']; rfl) ?_ ?_
                  ·
                    refine ho_all C [10] (by decide +kernel) (by decide) ?_
                    refine hall_cons rfl (by simp [p101, p102, p101', p102']; rfl) ?_ ?_
                    ·
                      refine ho_all C [12] (by decide +kernel) (by decide) ?_
                      refine hall_cons rfl (by simp [p101, p102, p101', p102']; rfl) ?_ ?_
                      ·
                        exact ho_end C (by decide +kernel) ⟨rfl, weak_iff.2 (by simp)⟩
                      exact trivial
                    exact trivial
                  exact trivial
                exact trivial
              exact trivial
            exact trivial
          refine hall_cons rfl (by simp [p101, p102, p101', p102']; rfl) ?_ ?_
          ·
            refine ho_all C [4, 7] (by decide +kernel) (by decide) ?_
            refine hall_cons rfl (by simp [p101, p102, p101', p102']; rfl) ?_ ?_
            ·
              refine ho_all C [7] (by decide +kernel) (by decide) ?_
              refine hall_cons rfl (by simp [p101, p102, p101', p102']; rfl) ?_ ?_
              ·
                refine ho_all C [8] (by decide +kernel) (by decide) ?_
                refine hall_cons rfl (by simp [p101, p102, p101', p102']; rfl) ?_ ?_
                ·
                  refine ho_all C [9] (by decide +kernel) (by decide) ?_
                  refine hall_cons rfl (by simp [p101, p102, p101', p102']; rfl) ?_ ?_
                  ·
                    refine ho_all C [10] (by decide +kernel) (by decide) ?_
                    refine hall_cons rfl (by simp [p101, p102, p101', p102']; rfl) ?_ ?_
                    ·
                      refine ho_all C [12] (by decide +kernel) (by decide) ?_
                      refine hall_cons rfl (by simp [p101, p102, p101', p102']; rfl) ?_ ?_
                      ·
                        exact ho_end C (by decide +kernel) ⟨rfl, weak_iff.2 (by simp)⟩
                      exact trivial
                    exact trivial
                  exact trivial
                exact trivial
              exact trivial
            refine hall_cons rfl (by simp [p101, p102, p101', p102']; rfl) ?_ ?_
            ·
              refine ho_all C [4, 8] (by decide +kernel) (by decide) ?_
              refine hall_cons rfl (by simp [p101, p102, p101', p102']; rfl) ?_ ?_
              ·
                refine ho_all C [8] (by decide +kernel) (by decide) ?_
                refine hall_cons rfl (by simp [p101, p102, p101', p102']; rfl) ?_ ?_
                ·
                  refine ho_all C [9] (by decide +kernel) (by decide) ?_
                  refine hall_cons rfl (by simp [p101, p102, p101', p102']; rfl) ?_ ?_
                  ·
                    refine ho_all C [10] (by decide +kernel) (by decide) ?_
                    refine hall_cons rfl (by simp [p101, p102, p101', p102']; rfl) ?_ ?_
                    ·
                      refine ho_all C [12] (by decide +kernel) (by decide) ?_
                      refine hall_cons rfl (by simp [p101, p102, p101', p102']; rfl) ?_ ?_
                      ·
                        exact ho_end C (by decide +kernel) ⟨rfl, weak_iff.2 (by simp)⟩
                      exact trivial
                    exact trivial
                  exact trivial
                exact trivial
              refine hall_cons rfl (by simp [p101, p102, p101', p102']; rfl) ?_ ?_
              ·
                refine ho_all C [4] (by decide +kernel) (by decide) ?_
                refine hall_cons rfl (by simp [p101, p102, p101', p102']; rfl) ?_ ?_
                ·
                  refine ho_all C [9] (by decide +kernel) (by decide) ?_
                  refine hall_cons rfl (by simp [p101, p102, p101', p102']; rfl) ?_ ?_
                  ·
                    refine ho_all C [10] (by decide +kernel) (by decide) ?_
                    refine hall_cons rfl (by simp [p101, p102, p101', p102']; rfl) ?_ ?_
                    ·
                      refine ho_all C [12] (by decide +kernel) (by decide) ?_
                      refine hall_cons rfl (by simp [p101, p102, p101', p102']; rfl) ?_ ?_
                      ·
                        exact ho_end C (by decide +kernel) ⟨rfl, weak_iff.2 (by simp)⟩
                      exact trivial
                    exact trivial
                  exact trivial
                exact trivial
              exact trivial
            exact trivial
          exact trivial
        ·
          replace h0 := bnd h0; obtain ⟨v20, hvv20, h0⟩ := h0
          refine sjv (fun v20_ : Bool => ({ nt := 103, env := [(3, .ptr 17 0), (4, .cptr [.int .i64 y2.1.Slots, .slice (rowsF api_Consumer_row y2.1.Consumers)] 0), (47, .d (.bool v20_))], box := [(17, [.d (.slice (rowsF (iRow .i64) y2.2.L)), .d (.int .i64 y2.2.at_)])], vec := [] } : St)) (fun v20_ => v20 = v20_) (fun v20_ e => ?_) ?_
          · subst e
            refine tr_cond (b := v20) (by simp) (fun c43 => ?_) (fun c43 => ?_)
            · rw [if_pos c43] at h0
              refine kr [2] (by simp; rfl) ?_
              cases h0
              exact tr_ret ⟨[], by simp, rfl, by simp⟩
            · rw [if_neg (by rw [c43]; decide)] at h0
              refine tr_skip ?_
              exact ⟨_, h0, wk (by simp [weak_iff])⟩
          · refine kc1 ?_
            refine ko [3, 4, 5, 7, 37, 39] 3 (by simp; rfl) ?_
            replace hvv20 := bnd hvv20; obtain ⟨y21, hy21, hvv20⟩ := hvv20
            refine kcall [3, 4, 5, 7, 40] [] (plan_Fit_ok hy21) rfl rfl rfl Try.call28 (by simp) (by simp; rfl) ?_
            refine ko [3, 4, 5, 7, 41] 1 (by simp; rfl) ?_
            refine tops_split 41 y21 (by simp) (fun c44 => ?_) (fun c44 => ?_)
            · rw [if_pos c44] at hvv20
              refine kskip 5 [] (by kernel_rfl) ?_
              refine ko [3, 4, 47] 1 (by simp; rfl) ?_
              refine tops_nil ?_
              cases hvv20
              exact ⟨_, rfl, wk (by simp [weak_iff])⟩
            · rw [if_neg (by rw [c44]; decide)] at hvv20
              refine ko [3, 4, 41, 42, 44] 3 (by simp; rfl) ?_
              refine tops_wk (wk_frz 35) ?_
              replace hvv20 := bnd hvv20; obtain ⟨y22, hy22, hvv20⟩ := hvv20
              refine kcall [3, 4, 41, 45] [] (plan_Fit_ok hy22) rfl rfl rfl Try.call28 (by simp) (by simp; rfl) ?_
              refine ko [3, 4, 47] 2 (by simp; rfl) ?_
              refine tops_nil ?_
              cases hvv20
              exact ⟨_, rfl, wk (by simp [weak_iff])⟩
      · rw [if_neg (by rw [c40]; decide)] at h0
        refine tr_skip ?_
        exact ⟨_, h0, wk (by simp [weak_iff])⟩
end Go.Vl
