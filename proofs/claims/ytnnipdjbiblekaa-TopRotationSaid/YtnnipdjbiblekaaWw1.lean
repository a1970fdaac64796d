/- Walks: each function of the given program computes what its mirror says. Conditions: none. -/
import Derived.Test.YtnnipdjbiblekaaWm
import Derived.Test.YtnnipdjbiblekaaVmLz
import Derived.Test.YtnnipdjbiblekaaWq
import Derived.Test.YtnnipdjbiblekaaTyW
set_option linter.unusedSimpArgs false
set_option linter.unusedVariables false
namespace Go.Vl
open Go Go.Proofs
set_option maxHeartbeats 1000000 in
theorem fleet_Check_1_ok {a0 : api_Consumer} {r : Bool} (h0 : fleet_Check_1 a0 = some r) : FnOK Try.prog 41 [] [.agg (api_Consumer_av a0)] (.d (.bool r)) [] := by
  unfold fleet_Check_1 at h0
  refine fn_ok (nt := 11) (rs := [.tmp 2]) Try.func41 rfl Try.ntmps41 rfl (by simp) (by decide) rfl fun K => ?_
  refine kr [1] (by simp; rfl) ?_
  replace h0 := bnd h0; obtain ⟨v1, hvv1, h0⟩ := h0
  refine sjv (fun v1_ : Bool => ({ nt := 11, env := [(2, .d (.bool v1_))], box := [], vec := [] } : St)) (fun v1_ => v1 = v1_) (fun v1_ e => ?_) ?_
  · subst e
    cases h0
    exact tr_ret ⟨[], by simp, rfl, by simp⟩
  · refine kc1 ?_
    refine ko [1, 6] 4 (by simp; rfl) ?_
    refine tops_split 6 (decide (a0.Pool < 0)) (by simp) (fun c3 => ?_) (fun c3 => ?_)
    · rw [c3] at hvv1
      refine kskip 3 [] (by kernel_rfl) ?_
      refine ko [2] 2 (by simp; rfl) ?_
      refine tops_nil ?_
      cases hvv1
      exact ⟨_, rfl, wk (by simp [weak_iff])⟩
    · rw [c3] at hvv1
      refine ko [2] 5 (by simp; rfl) ?_
      refine tops_nil ?_
      cases hvv1
      exact ⟨_, rfl, wk (by simp [weak_iff])⟩
set_option maxHeartbeats 1000000 in
theorem slices_IndexFunc_api_Consumer_at_fleet_Check_1_ok {a0 : List api_Consumer} {r : Int} (h0 : slices_IndexFunc_api_Consumer_at_fleet_Check_1 a0 = some r) : FnOK Try.prog 63 [] [.d (.slice (rowsF api_Consumer_row a0)), .fn 41 []] (.d (.int .i64 r)) [] := by
  unfold slices_IndexFunc_api_Consumer_at_fleet_Check_1 at h0
  refine fn_ok (nt := 19) (rs := [.tmp 4]) Try.func63 rfl Try.ntmps63 rfl (by simp) (by decide) rfl fun K => ?_
  refine kr [0, 1] (by simp; rfl) ?_
  refine tr_seq ?_
  refine kr [0, 1, 7, 8] (by simp; rfl) ?_
  replace h0 := bnd h0; obtain ⟨e1, hI1, h0⟩ := h0
  refine tjv (fun v1 : Unit => ({ nt := 19, env := [], box := [], vec := [] } : St)) (fun v1 => .inl v1 = e1) (fun v1 hI1e _ W1 => ?_) ?_
  · subst hI1e
    dsimp only at h0
    refine tr_wk W1 ?_
    refine kr [4] (by simp; rfl) ?_
    cases h0
    exact tr_ret ⟨[], by simp, rfl, by simp⟩
  · refine tr_block (tr_iter (fun s2 : Int => ({ nt := 19, env := [(0, .d (.slice (rowsF api_Consumer_row a0))), (1, .fn 41 []), (7, .d (.int .i64 ((a0).length : Int))), (8, .d (.int .i64 s2))], box := [], vec := [] } : St)) hI1 (wk (by simp [weak_iff])) fun G1 s2 o1 h1 hg1 he1 => ?_)
    unfold slices_IndexFunc_api_Consumer_at_fleet_Check_1_l0 at h1
    refine kr [0, 1, 7, 8, 9] (by simp; rfl) ?_
    refine tr_seq ?_
    refine tr_cond (b := (decide (s2 < ((a0).length : Int)))) (by simp) (fun c5 => ?_) (fun c5 => ?_)
    · rw [if_pos c5] at h1
      refine tr_skip ?_
      refine tr_seq ?_
      refine tr_block ?_
      refine kr [0, 1, 5, 7, 8] (by simp; rfl) ?_
      refine kc ?_
      replace h1 := bnd h1; obtain ⟨x3, p3, h1⟩ := h1
      replace p3 := idx_some p3
      have p3' := p3; try simp at p3'
      refine ko [0, 1, 5, 7, 8, 11, 15] 5 (by simp [p3, p3']; rfl) ?_
      replace h1 := bnd h1; obtain ⟨y4, hy4, h1⟩ := h1
      refine kcallV [0, 1, 5, 7, 8, 16] [] [] [] (fleet_Check_1_ok hy4) rfl rfl rfl Try.call41 (by simp) (by simp; rfl) ?_
      refine tops_nil ?_
      refine tr_cond (b := y4) (by simp) (fun c6 => ?_) (fun c6 => ?_)
      · rw [if_pos c6] at h1
        refine kr [4] (by simp; rfl) ?_
        have k1 := he1 _ (Option.some.inj h1)
        subst k1
        dsimp only at h0
        cases h0
        exact tr_ret ⟨[], by simp, rfl, by simp⟩
      · rw [if_neg (by rw [c6]; decide)] at h1
        refine tr_skip ?_
        refine lr (by simp; rfl) ?_
        exact ⟨_, hg1 _ (Option.some.inj h1), wk (by simp [weak_iff])⟩
    · rw [if_neg (by rw [c5]; decide)] at h1
      refine tr_exit ?_
      exact ⟨_, he1 _ (Option.some.inj h1), wk (by simp [weak_iff])⟩
set_option maxHeartbeats 1000000 in
theorem slices_ContainsFunc_api_Consumer_at_fleet_Check_1_ok {a0 : List api_Consumer} {r : Bool} (h0 : slices_ContainsFunc_api_Consumer_at_fleet_Check_1 a0 = some r) : FnOK Try.prog 42 [] [.d (.slice (rowsF api_Consumer_row a0)), .fn 41 []] (.d (.bool r)) [] := by
  unfold slices_ContainsFunc_api_Consumer_at_fleet_Check_1 at h0
  refine fn_ok (nt := 9) (rs := [.tmp 4]) Try.func42 rfl Try.ntmps42 rfl (by simp) (by decide) rfl fun K => ?_
  refine kr [0, 1] (by simp; rfl) ?_
  refine kc ?_
  refine ko [5, 6] 2 (by simp; rfl) ?_
  replace h0 := bnd h0; obtain ⟨y1, hy1, h0⟩ := h0
  refine kcall [7] [] (slices_IndexFunc_api_Consumer_at_fleet_Check_1_ok hy1) rfl rfl rfl Try.call63 (by simp) (by simp; rfl) ?_
  refine ko [4] 2 (by simp; rfl) ?_
  refine tops_nil ?_
  cases h0
  exact tr_ret ⟨[], by simp, rfl, by simp⟩
set_option maxHeartbeats 1000000 in
theorem fleet_Check_ok {a0 : api_Fleet} {r : Int} (h0 : fleet_Check a0 = some r) : FnOK Try.prog 23 [] [.agg (api_Fleet_av a0)] (.d (.int .i64 r)) [] := by
  unfold fleet_Check at h0
  refine fn_ok (nt := 30) (rs := [.tmp 2]) Try.func23 rfl Try.ntmps23 rfl (by simp) (by decide) rfl fun K => ?_
  refine kr [1] (by simp; rfl) ?_
  refine kr [1, 3] (by simp; rfl) ?_
  refine tr_seq ?_
  replace h0 := bnd h0; obtain ⟨v1, hvv1, h0⟩ := h0
  refine sjv (fun v1_ : Bool => ({ nt := 30, env := [(29, .d (.bool v1_))], box := [], vec := [] } : St)) (fun v1_ => v1 = v1_) (fun v1_ e => ?_) ?_
  · subst e
    refine tr_cond (b := v1) (by simp) (fun c13 => ?_) (fun c13 => ?_)
    · rw [if_pos c13] at h0
      refine kr [2] (by simp; rfl) ?_
      cases h0
      exact tr_ret ⟨[], by simp, rfl, by simp⟩
    · rw [if_neg (by rw [c13]; decide)] at h0
      refine tr_skip ?_
      refine kr [2] (by simp; rfl) ?_
      cases h0
      exact tr_ret ⟨[], by simp, rfl, by simp⟩
  · refine kc1 ?_
    refine ko [1, 3, 7] 4 (by simp; rfl) ?_
    refine tops_split 7 (a0.Slots != 1) (by simp) (fun c14 => ?_) (fun c14 => ?_)
    · rw [if_pos c14] at hvv1
      refine ko [1, 3, 12] 5 (by simp; rfl) ?_
      refine tops_split 12 (a0.Slots != 2) (by simp) (fun c15 => ?_) (fun c15 => ?_)
      · rw [if_pos c15] at hvv1
        refine kskip 4 [] (by kernel_rfl) ?_
        refine ko [1, 3, 18] 2 (by simp; rfl) ?_
        refine kskip 4 [] (by kernel_rfl) ?_
        refine ko [1, 3, 24] 2 (by simp; rfl) ?_
        refine kskip 4 [] (by kernel_rfl) ?_
        refine ko [29] 1 (by simp; rfl) ?_
        refine tops_nil ?_
        cases hvv1
        exact ⟨_, rfl, wk (by simp [weak_iff])⟩
      · rw [if_neg (by rw [c15]; decide)] at hvv1
        refine ko [1, 3, 18] 6 (by simp; rfl) ?_
        refine tops_split 18 (decide (((a0.Consumers).length : Int) < 1)) (by simp) (fun c16 => ?_) (fun c16 => ?_)
        · rw [if_pos c16] at hvv1
          refine kskip 4 [] (by kernel_rfl) ?_
          refine ko [1, 3, 24] 2 (by simp; rfl) ?_
          refine kskip 4 [] (by kernel_rfl) ?_
          refine ko [29] 1 (by simp; rfl) ?_
          refine tops_nil ?_
          cases hvv1
          exact ⟨_, rfl, wk (by simp [weak_iff])⟩
        · rw [if_neg (by rw [c16]; decide)] at hvv1
          refine ko [1, 3, 24] 6 (by simp; rfl) ?_
          refine tops_split 24 (decide (8 < ((a0.Consumers).length : Int))) (by simp) (fun c17 => ?_) (fun c17 => ?_)
          · rw [if_pos c17] at hvv1
            refine kskip 4 [] (by kernel_rfl) ?_
            refine ko [29] 1 (by simp; rfl) ?_
            refine tops_nil ?_
            cases hvv1
            exact ⟨_, rfl, wk (by simp [weak_iff])⟩
          · rw [if_neg (by rw [c17]; decide)] at hvv1
            refine ko [24, 26, 27] 3 (by simp; rfl) ?_
            replace hvv1 := bnd hvv1; obtain ⟨y2, hy2, hvv1⟩ := hvv1
            refine kcall [24, 28] [] (slices_ContainsFunc_api_Consumer_at_fleet_Check_1_ok hy2) rfl rfl rfl Try.call42 (by simp) (by simp; rfl) ?_
            refine ko [29] 1 (by simp; rfl) ?_
            refine tops_nil ?_
            cases hvv1
            exact ⟨_, rfl, wk (by simp [weak_iff])⟩
    · rw [if_neg (by rw [c14]; decide)] at hvv1
      refine kskip 3 [] (by kernel_rfl) ?_
      refine ko [1, 3, 18] 8 (by simp; rfl) ?_
      refine tops_split 18 (decide (((a0.Consumers).length : Int) < 1)) (by simp) (fun c18 => ?_) (fun c18 => ?_)
      · rw [if_pos c18] at hvv1
        refine kskip 4 [] (by kernel_rfl) ?_
        refine ko [1, 3, 24] 2 (by simp; rfl) ?_
        refine kskip 4 [] (by kernel_rfl) ?_
        refine ko [29] 1 (by simp; rfl) ?_
        refine tops_nil ?_
        cases hvv1
        exact ⟨_, rfl, wk (by simp [weak_iff])⟩
      · rw [if_neg (by rw [c18]; decide)] at hvv1
        refine ko [1, 3, 24] 6 (by simp; rfl) ?_
        refine tops_split 24 (decide (8 < ((a0.Consumers).length : Int))) (by simp) (fun c19 => ?_) (fun c19 => ?_)
        · rw [if_pos c19] at hvv1
          refine kskip 4 [] (by kernel_rfl) ?_
          refine ko [29] 1 (by simp; rfl) ?_
          refine tops_nil ?_
          cases hvv1
          exact ⟨_, rfl, wk (by simp [weak_iff])⟩
        · rw [if_neg (by rw [c19]; decide)] at hvv1
          refine ko [24, 26, 27] 3 (by simp; rfl) ?_
          replace hvv1 := bnd hvv1; obtain ⟨y3, hy3, hvv1⟩ := hvv1
          refine kcall [24, 28] [] (slices_ContainsFunc_api_Consumer_at_fleet_Check_1_ok hy3) rfl rfl rfl Try.call42 (by simp) (by simp; rfl) ?_
          refine ko [29] 1 (by simp; rfl) ?_
          refine tops_nil ?_
          cases hvv1
          exact ⟨_, rfl, wk (by simp [weak_iff])⟩
set_option maxHeartbeats 1000000 in
theorem math_bits_Mul64_ok {a0 : Int} {a1 : Int} {r : Int × Int} (h0 : math_bits_Mul64 a0 a1 = some r) : FnOK Try.prog 65 [] [.d (.int .u64 a0), .d (.int .u64 a1)] (.tup [.d (.int .u64 r.1), .d (.int .u64 r.2)]) [] := by
  unfold math_bits_Mul64 at h0
  refine fn_ok (nt := 51) (rs := [.tmp 4, .tmp 5]) Try.func65 rfl Try.ntmps65 rfl (by simp) (by decide) rfl fun K => ?_
  refine kr [0, 1] (by simp; rfl) ?_
  refine kr [0, 1, 6] (by simp; rfl) ?_
  refine kr [0, 1, 6, 7] (by simp; rfl) ?_
  refine kr [0, 1, 6, 7, 8] (by simp; rfl) ?_
  refine kr [0, 1, 6, 7, 8, 9] (by simp; rfl) ?_
  refine kr [0, 1, 6, 7, 8, 9, 10] (by simp; rfl) ?_
  refine kr [0, 1, 6, 7, 9, 11] (by simp; rfl) ?_
  refine kr [0, 1, 6, 7, 9, 11, 12] (by simp; rfl) ?_
  refine kr [0, 1, 6, 7, 9, 12, 13] (by simp; rfl) ?_
  refine kr [0, 1, 7, 9, 12, 13] (by simp; rfl) ?_
  refine kr [0, 1, 4] (by simp; rfl) ?_
  refine kr [4, 5] (by simp; rfl) ?_
  cases h0
  exact tr_ret ⟨[], by simp, rfl, by simp⟩
set_option maxHeartbeats 1000000 in
theorem math_bits_Mul_ok {a0 : Int} {a1 : Int} {r : Int × Int} (h0 : math_bits_Mul a0 a1 = some r) : FnOK Try.prog 43 [] [.d (.int .u64 a0), .d (.int .u64 a1)] (.tup [.d (.int .u64 r.1), .d (.int .u64 r.2)]) [] := by
  unfold math_bits_Mul at h0
  refine fn_ok (nt := 30) (rs := [.tmp 4, .tmp 5]) Try.func43 rfl Try.ntmps43 rfl (by simp) (by decide) rfl fun K => ?_
  refine kr [0, 1] (by simp; rfl) ?_
  refine tr_seq ?_
  refine tr_cond (b := false) (by simp) (fun h => by cases h) (fun _ => ?_)
  refine tr_skip ?_
  refine kc ?_
  refine ko [23, 24] 2 (by simp; rfl) ?_
  replace h0 := bnd h0; obtain ⟨y1, hy1, h0⟩ := h0
  refine kcall [25] [] (math_bits_Mul64_ok hy1) rfl rfl rfl Try.call65 (by simp) (by simp; rfl) ?_
  refine ko [8, 9] 5 (by simp; rfl) ?_
  refine tops_nil ?_
  refine kr [4, 5] (by simp; rfl) ?_
  cases h0
  exact tr_ret ⟨[], by simp, rfl, by simp⟩
set_option maxHeartbeats 1000000 in
theorem slices_Repeat_api_Unit_ok {a0 : List api_Unit} {a1 : Int} {r : (List api_Unit)} (h0 : slices_Repeat_api_Unit a0 a1 = some r) : FnOK Try.prog 24 [] [.d (.slice (rowsF api_Unit_row a0)), .d (.int .i64 a1)] (.d (.slice (rowsF api_Unit_row r))) [] := by
  unfold slices_Repeat_api_Unit at h0
  refine fn_ok (nt := 48) (rs := [.tmp 4]) Try.func24 rfl Try.ntmps24 rfl (by simp) (by decide) rfl fun K => ?_
  refine kr [0, 1] (by simp; rfl) ?_
  refine tr_seq ?_
  refine kr [0, 1, 10] (by simp; rfl) ?_
  refine tr_cond (b := (decide (a1 < 0))) (by simp) (fun c1 => ?_) (fun c1 => ?_)
  · rw [if_pos c1] at h0
    cases h0
  · rw [if_neg (by rw [c1]; decide)] at h0
    refine tr_skip ?_
    refine kc ?_
    refine ko [0, 15, 17] 5 (by simp; rfl) ?_
    replace h0 := bnd h0; obtain ⟨y1, hy1, h0⟩ := h0
    refine kcall [0, 18] [] (math_bits_Mul_ok hy1) rfl rfl rfl Try.call43 (by simp) (by simp; rfl) ?_
    refine ko [0, 5, 6] 5 (by simp; rfl) ?_
    refine tops_nil ?_
    refine tr_seq ?_
    replace h0 := bnd h0; obtain ⟨v2, hvv2, h0⟩ := h0
    refine sjv (fun v2_ : Bool => ({ nt := 48, env := [(0, .d (.slice (rowsF api_Unit_row a0))), (6, .d (.int .u64 y1.2)), (26, .d (.bool v2_))], box := [], vec := [] } : St)) (fun v2_ => v2 = v2_) (fun v2_ e => ?_) ?_
    · subst e
      refine tr_cond (b := v2) (by simp) (fun c4 => ?_) (fun c4 => ?_)
      · rw [if_pos c4] at h0
        cases h0
      · rw [if_neg (by rw [c4]; decide)] at h0
        refine tr_skip ?_
        replace h0 := bnd h0; obtain ⟨_, p1, h0⟩ := h0
        replace p1 := ck_some p1
        have p1' := p1; try simp at p1'
        replace h0 := bnd h0; obtain ⟨l3, p2, h0⟩ := h0
        replace p2 := Option.some.inj p2
        refine kr [0, 7] (by simp [p1, (show List.replicate (Int.toNat (IntKind.i64.wrap y1.2)) ([.bool false, .int .i64 0, .int .i64 0] : List D) = rowsF api_Unit_row l3 from by subst p2; simp [rowsF]), p1']; rfl) ?_
        refine kr [7, 8] (by simp; rfl) ?_
        replace h0 := bnd h0; obtain ⟨e1, hI1, h0⟩ := h0
        refine sjv (fun v4 : (List api_Unit) => ({ nt := 48, env := [(7, .vec 30)], box := [], vec := [(30, ⟨69, 3, rowsF api_Unit_row v4⟩)] } : St)) (fun v4 => v4 = e1) (fun v4 hI1e => ?_) ?_
        · subst hI1e
          refine kr [4] (by simp; rfl) ?_
          cases h0
          exact tr_ret ⟨[30], by simp, rfl, by simp⟩
        · refine tr_block (tr_iter (fun s5 : Int × (List api_Unit) => ({ nt := 48, env := [(7, .vec 30), (8, .d (.int .i64 s5.1))], box := [], vec := [(30, ⟨69, 3, rowsF api_Unit_row s5.2⟩)] } : St)) hI1 (wk (by simp [weak_iff])) fun G1 s5 o1 h1 hg1 he1 => ?_)
          unfold slices_Repeat_api_Unit_l0 at h1
          refine tr_seq ?_
          refine kr [7, 8, 37] (by simp; rfl) ?_
          refine tr_cond (b := (decide (s5.1 < ((s5.2).length : Int)))) (by simp) (fun c7 => ?_) (fun c7 => ?_)
          · rw [if_pos c7] at h1
            refine tr_skip ?_
            refine tr_block ?_
            replace h1 := bnd h1; obtain ⟨_, p11, h1⟩ := h1
            replace p11 := ck_some p11
            have p11' := p11; try simp at p11'
            replace h1 := bnd h1; obtain ⟨_, p12, h1⟩ := h1
            replace p12 := ck_some p12
            have p12' := p12; try simp at p12'
            refine kmix1 7 fol (by decide +kernel) (by simp [p11, p12, p11', p12']; rfl) (by repeat (first | exact np_fin | exact np_finv | refine np_then ?_ | refine np_block ?_)) ?_
            replace h1 := bnd h1; obtain ⟨_, p13, h1⟩ := h1
            replace p13 := ck_some p13
            have p13' := p13; try simp at p13'
            replace h1 := bnd h1; obtain ⟨_, p14, h1⟩ := h1
            replace p14 := ck_some p14
            have p14' := p14; try simp at p14'
            refine ko [7, 8] 3 (by simp [p11, p12, p13, p14, p11', p12', p13', p14']; rfl) ?_
            refine tops_nil ?_
            exact ⟨_, hg1 _ (Option.some.inj h1), wk (by simp [weak_iff])⟩
          · rw [if_neg (by rw [c7]; decide)] at h1
            refine tr_exit ?_
            exact ⟨_, he1 _ (Option.some.inj h1), wk (by simp [weak_iff])⟩
    · refine kc1 ?_
      refine ko [0, 6, 23] 3 (by simp; rfl) ?_
      refine tops_split 23 (decide (0 < y1.1)) (by simp) (fun c8 => ?_) (fun c8 => ?_)
      · rw [c8] at hvv2
        refine ko [0, 6, 26] 3 (by simp; rfl) ?_
        refine tops_nil ?_
        cases hvv2
        exact ⟨_, rfl, wk (by simp [weak_iff])⟩
      · rw [c8] at hvv2
        refine ko [0, 6, 26] 3 (by simp; rfl) ?_
        refine tops_nil ?_
        cases hvv2
        exact ⟨_, rfl, wk (by simp [weak_iff])⟩
set_option maxHeartbeats 1000000 in
theorem fleet_Start_ok {a0 : api_Fleet} {r : api_Rotation × Int} (h0 : fleet_Start a0 = some r) : FnOK Try.prog 6 [] [.agg (api_Fleet_av a0)] (.tup [.agg (api_Rotation_av r.1), .d (.int .i64 r.2)]) [] := by
  unfold fleet_Start at h0
  refine fn_ok (nt := 20) (rs := [.cell 2 33, .tmp 3]) Try.func6 rfl Try.ntmps6 rfl (by simp) (by decide) rfl fun K => ?_
  refine kr [1, 2] (by simp; rfl) ?_
  refine tr_seq ?_
  refine kc ?_
  refine ko [1, 2, 6] 1 (by simp; rfl) ?_
  replace h0 := bnd h0; obtain ⟨y1, hy1, h0⟩ := h0
  refine kcall [1, 2, 7] [] (fleet_Check_ok hy1) rfl rfl rfl Try.call23 (by simp) (by simp; rfl) ?_
  refine ko [1, 2, 4] 1 (by simp; rfl) ?_
  refine tops_nil ?_
  refine kr [1, 2, 4, 9] (by simp; rfl) ?_
  refine tr_cond (b := (y1 != 0)) (by simp) (fun c1 => ?_) (fun c1 => ?_)
  · rw [if_pos c1] at h0
    refine kr [2, 3] (by simp; rfl) ?_
    cases h0
    exact tr_ret ⟨[], by simp, rfl, by simp⟩
  · rw [if_neg (by rw [c1]; decide)] at h0
    refine tr_skip ?_
    refine kc ?_
    refine ko [2, 13, 16] 5 (by simp; rfl) ?_
    refine tops_wk (wk_frz 13) ?_
    replace h0 := bnd h0; obtain ⟨y2, hy2, h0⟩ := h0
    refine kcall [2, 17] [] (slices_Repeat_api_Unit_ok hy2) rfl rfl rfl Try.call24 (by simp) (by simp; rfl) ?_
    refine ko [2, 5] 1 (by simp; rfl) ?_
    refine tops_nil ?_
    refine kr [2, 3] (by simp; rfl) ?_
    cases h0
    exact tr_ret ⟨[], by simp, rfl, by simp⟩
set_option maxHeartbeats 1000000 in
theorem fleet_Pools_ok {a0 : api_Fleet} {r : (List Int)} (h0 : fleet_Pools a0 = some r) : FnOK Try.prog 15 [] [.agg (api_Fleet_av a0)] (.d (.slice (rowsF (iRow .i64) r))) [] := by
  unfold fleet_Pools at h0
  refine fn_ok (nt := 26) (rs := [.tmp 2]) Try.func15 rfl Try.ntmps15 rfl (by simp) (by decide) rfl fun K => ?_
  refine kr [1] (by simp; rfl) ?_
  refine tr_seq ?_
  refine kc ?_
  refine ko [1, 6] 1 (by simp; rfl) ?_
  replace h0 := bnd h0; obtain ⟨y1, hy1, h0⟩ := h0
  refine kcall [1, 7] [] (fleet_Check_ok hy1) rfl rfl rfl Try.call23 (by simp) (by simp; rfl) ?_
  refine ko [1, 8] 1 (by simp; rfl) ?_
  refine tops_nil ?_
  refine tr_cond (b := (y1 != 0)) (by simp) (fun c1 => ?_) (fun c1 => ?_)
  · rw [if_pos c1] at h0
    refine kr [2] (by simp; rfl) ?_
    cases h0
    exact tr_ret ⟨[], by simp, rfl, by simp⟩
  · rw [if_neg (by rw [c1]; decide)] at h0
    refine tr_skip ?_
    refine kr [1, 3] (by simp; rfl) ?_
    refine tr_seq ?_
    refine kr [3, 10, 11, 12] (by simp; rfl) ?_
    refine tr_wk (wk_own 3 20 3 1 (by simp) (by simp)) ?_
    replace h0 := bnd h0; obtain ⟨e1, hI1, h0⟩ := h0
    refine tjv (fun v2 : (List Int) => ({ nt := 26, env := [(3, .vec 20)], box := [], vec := [(20, ⟨3, 1, rowsF (iRow .i64) v2⟩)] } : St)) (fun v2 => v2 = e1) (fun v2 hI1e _ W1 => ?_) ?_
    · subst hI1e
      refine tr_wk W1 ?_
      refine kc ?_
      refine ko [3, 22] 1 (by simp; rfl) ?_
      replace h0 := bnd h0; obtain ⟨y3, hy3, h0⟩ := h0
      refine kcallH [3] [] [20] [(3, 20), (22, 20)] (slices_Sort_int_vec0_ok hy3) rfl rfl rfl Try.call31 (by simp) (by simp; rfl) ?_
      refine tops_nil ?_
      refine kc ?_
      refine ko [24] 1 (by simp; rfl) ?_
      replace h0 := bnd h0; obtain ⟨y4, hy4, h0⟩ := h0
      refine kcallV [25] [] [20] [600100] (slices_Compact_int_eat0_own0_ok hy4) rfl rfl rfl Try.call32 (by simp) (by simp; rfl) ?_
      refine ko [2] 1 (by simp; rfl) ?_
      refine tops_nil ?_
      cases h0
      exact tr_ret ⟨[600100], by simp, rfl, by simp⟩
    · refine tr_block (tr_iter (fun s5 : Int × (List Int) => ({ nt := 26, env := [(3, .vec 20), (10, .d (.slice (rowsF api_Consumer_row a0.Consumers))), (11, .d (.int .i64 ((a0.Consumers).length : Int))), (12, .d (.int .i64 s5.1))], box := [], vec := [(20, ⟨3, 1, rowsF (iRow .i64) s5.2⟩)] } : St)) hI1 (wk (by simp [weak_iff])) fun G1 s5 o1 h1 hg1 he1 => ?_)
      unfold fleet_Pools_l0 at h1
      refine kr [3, 10, 11, 12, 13] (by simp; rfl) ?_
      refine tr_seq ?_
      refine tr_cond (b := (decide (s5.1 < ((a0.Consumers).length : Int)))) (by simp) (fun c5 => ?_) (fun c5 => ?_)
      · rw [if_pos c5] at h1
        refine tr_skip ?_
        refine tr_seq ?_
        refine tr_block ?_
        replace h1 := bnd h1; obtain ⟨x6, p6, h1⟩ := h1
        replace p6 := idx_some p6
        have p6' := p6; try simp at p6'
        refine kr [3, 5, 10, 11, 12] (by simp [p6, p6']; rfl) ?_
        replace h1 := bnd h1; obtain ⟨_, p7, h1⟩ := h1
        replace p7 := ck_some p7
        have p7' := p7; try simp at p7'
        refine lr (by simp [p7, p7']; rfl) ?_
        refine lr (by simp; rfl) ?_
        exact ⟨_, hg1 _ (Option.some.inj h1), wk (by simp [weak_iff])⟩
      · rw [if_neg (by rw [c5]; decide)] at h1
        refine tr_exit ?_
        exact ⟨_, he1 _ (Option.some.inj h1), wk (by simp [weak_iff])⟩
set_option maxHeartbeats 1000000 in
theorem fleet_Units_ok {a0 : api_Fleet} {a1 : Int} {r : (List Int)} (h0 : fleet_Units a0 a1 = some r) : FnOK Try.prog 26 [] [.agg (api_Fleet_av a0), .d (.int .i64 a1)] (.d (.slice (rowsF (iRow .i64) r))) [] := by
  unfold fleet_Units at h0
  refine fn_ok (nt := 29) (rs := [.tmp 4]) Try.func26 rfl Try.ntmps26 rfl (by simp) (by decide) rfl fun K => ?_
  refine kr [1, 2] (by simp; rfl) ?_
  refine tr_seq ?_
  refine kc ?_
  refine ko [1, 2, 8] 1 (by simp; rfl) ?_
  replace h0 := bnd h0; obtain ⟨y1, hy1, h0⟩ := h0
  refine kcall [1, 2, 9] [] (fleet_Check_ok hy1) rfl rfl rfl Try.call23 (by simp) (by simp; rfl) ?_
  refine ko [1, 2, 10] 1 (by simp; rfl) ?_
  refine tops_nil ?_
  refine tr_cond (b := (y1 != 0)) (by simp) (fun c1 => ?_) (fun c1 => ?_)
  · rw [if_pos c1] at h0
    refine kr [4] (by simp; rfl) ?_
    cases h0
    exact tr_ret ⟨[], by simp, rfl, by simp⟩
  · rw [if_neg (by rw [c1]; decide)] at h0
    refine tr_skip ?_
    refine kr [1, 2, 5] (by simp; rfl) ?_
    refine tr_seq ?_
    refine kr [1, 5, 12, 13, 14] (by simp; rfl) ?_
    refine tr_wk (wk_own 5 26 3 1 (by simp) (by simp)) ?_
    replace h0 := bnd h0; obtain ⟨e1, hI1, h0⟩ := h0
    refine tjv (fun v2 : (List Int) => ({ nt := 29, env := [(5, .vec 26)], box := [], vec := [(26, ⟨3, 1, rowsF (iRow .i64) v2⟩)] } : St)) (fun v2 => v2 = e1) (fun v2 hI1e _ W1 => ?_) ?_
    · subst hI1e
      refine tr_wk W1 ?_
      refine kr [4] (by simp; rfl) ?_
      cases h0
      exact tr_ret ⟨[26], by simp, rfl, by simp⟩
    · refine tr_block (tr_iter (fun s3 : Int × (List Int) => ({ nt := 29, env := [(1, .d (.int .i64 a1)), (5, .vec 26), (12, .d (.slice (rowsF api_Consumer_row a0.Consumers))), (13, .d (.int .i64 ((a0.Consumers).length : Int))), (14, .d (.int .i64 s3.1))], box := [], vec := [(26, ⟨3, 1, rowsF (iRow .i64) s3.2⟩)] } : St)) hI1 (wk (by simp [weak_iff])) fun G1 s3 o1 h1 hg1 he1 => ?_)
      unfold fleet_Units_l0 at h1
      refine kr [1, 5, 12, 13, 14, 15] (by simp; rfl) ?_
      refine tr_seq ?_
      refine tr_cond (b := (decide (s3.1 < ((a0.Consumers).length : Int)))) (by simp) (fun c8 => ?_) (fun c8 => ?_)
      · rw [if_pos c8] at h1
        refine tr_skip ?_
        refine tr_seq ?_
        refine tr_block ?_
        replace h1 := bnd h1; obtain ⟨x4, p6, h1⟩ := h1
        replace p6 := idx_some p6
        have p6' := p6; try simp at p6'
        refine kr [1, 5, 6, 7, 12, 13, 14] (by simp [p6, p6']; rfl) ?_
        refine kr [1, 5, 6, 12, 13, 14, 22] (by simp; rfl) ?_
        refine tr_cond (b := (x4.Pool == a1)) (by simp) (fun c9 => ?_) (fun c9 => ?_)
        · rw [if_pos c9] at h1
          replace h1 := bnd h1; obtain ⟨_, p7, h1⟩ := h1
          replace p7 := ck_some p7
          have p7' := p7; try simp at p7'
          refine lr (by simp [p7, p7']; rfl) ?_
          refine lr (by simp; rfl) ?_
          exact ⟨_, hg1 _ (Option.some.inj h1), wk (by simp [weak_iff])⟩
        · rw [if_neg (by rw [c9]; decide)] at h1
          refine tr_skip ?_
          refine lr (by simp; rfl) ?_
          exact ⟨_, hg1 _ (Option.some.inj h1), wk (by simp [weak_iff])⟩
      · rw [if_neg (by rw [c8]; decide)] at h1
        refine tr_exit ?_
        exact ⟨_, he1 _ (Option.some.inj h1), wk (by simp [weak_iff])⟩
set_option maxHeartbeats 1000000 in
theorem plan_Fit_ok {a0 : api_Fleet} {a1 : Int} {r : Bool} (h0 : plan_Fit a0 a1 = some r) : FnOK Try.prog 9 [] [.agg (api_Fleet_av a0), .d (.int .i64 a1)] (.d (.bool r)) [] := by
  unfold plan_Fit at h0
  refine fn_ok (nt := 34) (rs := [.tmp 4]) Try.func9 rfl Try.ntmps9 rfl (by simp) (by decide) rfl fun K => ?_
  refine kr [1, 2] (by simp; rfl) ?_
  refine kc ?_
  refine ko [2, 7, 8] 2 (by simp; rfl) ?_
  replace h0 := bnd h0; obtain ⟨y1, hy1, h0⟩ := h0
  refine kcall [2, 9] [] (fleet_Units_ok hy1) rfl rfl rfl Try.call26 (by simp) (by simp; rfl) ?_
  refine ko [2, 5] 1 (by simp; rfl) ?_
  refine tops_nil ?_
  refine tr_seq ?_
  refine kr [2, 5, 12] (by simp; rfl) ?_
  refine tr_cond (b := (((y1).length : Int) != 1)) (by simp) (fun c1 => ?_) (fun c1 => ?_)
  · rw [if_pos c1] at h0
    refine kr [4] (by simp; rfl) ?_
    cases h0
    exact tr_ret ⟨[], by simp, rfl, by simp⟩
  · rw [if_neg (by rw [c1]; decide)] at h0
    refine tr_skip ?_
    refine kd [[], [0], [], [2], [3], [1, 4], [5], [], [6, 7]] [7, 8] [(6, [7, 8])] none [] 9 fol (by decide +kernel) (by simp) ?_
    replace h0 := bnd h0; obtain ⟨x2, p5, h0⟩ := h0
    replace p5 := idx_some p5
    have p5' := p5; try simp at p5'
    replace h0 := bnd h0; obtain ⟨x3, p6, h0⟩ := h0
    replace p6 := idx_some p6
    have p6' := p6; try simp at p6'
    refine dr_go 0 2 rfl (by simp (maxSteps := 1000000) [p5, p6, p5', p6']; rfl) ?_
    refine dr_go 2 2 rfl (by simp (maxSteps := 1000000) [p5, p6, p5', p6']; rfl) ?_
    refine dr_go 4 2 rfl (by simp (maxSteps := 1000000) [p5, p6, p5', p6']; rfl) ?_
    refine dr_go 6 2 rfl (by simp (maxSteps := 1000000) [p5, p6, p5', p6']; rfl) ?_
    refine dr_go 8 1 rfl (by simp (maxSteps := 1000000) [p5, p6, p5', p6']; rfl) ?_
    refine dr_end rfl (tops_nil ?_)
    replace h0 := bnd h0; obtain ⟨v4, hvv4, h0⟩ := h0
    refine sjv (fun v4_ : Bool => ({ nt := 34, env := [(4, .d (.bool v4_))], box := [], vec := [] } : St)) (fun v4_ => v4 = v4_) (fun v4_ e => ?_) ?_
    · subst e
      cases h0
      exact tr_ret ⟨[], by simp, rfl, by simp⟩
    · refine kc1 ?_
      refine ko [2, 6, 25] 3 (by simp; rfl) ?_
      refine tops_split 25 x3.Live (by simp) (fun c6 => ?_) (fun c6 => ?_)
      · rw [c6] at hvv4
        refine ko [2, 25, 28] 3 (by simp; rfl) ?_
        refine tops_split 28 x3.Dual (by simp) (fun c7 => ?_) (fun c7 => ?_)
        · rw [c7] at hvv4
          refine kskip 3 [] (by kernel_rfl) ?_
          refine ko [4] 3 (by simp; rfl) ?_
          refine tops_nil ?_
          cases hvv4
          exact ⟨_, rfl, wk (by simp [weak_iff])⟩
        · rw [c7] at hvv4
          refine ko [4] 6 (by simp; rfl) ?_
          refine tops_nil ?_
          cases hvv4
          exact ⟨_, rfl, wk (by simp [weak_iff])⟩
      · rw [c6] at hvv4
        refine kskip 7 [] (by kernel_rfl) ?_
        refine ko [4] 2 (by simp; rfl) ?_
        refine tops_nil ?_
        cases hvv4
        exact ⟨_, rfl, wk (by simp [weak_iff])⟩
set_option maxHeartbeats 1000000 in
theorem plan_Why_ok {a0 : api_Fleet} {r : api_Hindrance × Bool} (h0 : plan_Why a0 = some r) : FnOK Try.prog 8 [] [.agg (api_Fleet_av a0)] (.tup [.agg (api_Hindrance_av r.1), .d (.bool r.2)]) [] := by
  unfold plan_Why at h0
  refine fn_ok (nt := 21) (rs := [.cell 2 41, .tmp 3]) Try.func8 rfl Try.ntmps8 rfl (by simp) (by decide) rfl fun K => ?_
  refine kr [1, 2] (by simp; rfl) ?_
  refine tr_seq ?_
  refine kc ?_
  refine ko [1, 2, 6] 1 (by simp; rfl) ?_
  replace h0 := bnd h0; obtain ⟨y1, hy1, h0⟩ := h0
  refine kcall [1, 2, 7] [] (fleet_Pools_ok hy1) rfl rfl rfl Try.call15 (by simp) (by simp; rfl) ?_
  refine ko [1, 2, 7, 8, 9] 2 (by simp; rfl) ?_
  refine tops_nil ?_
  replace h0 := bnd h0; obtain ⟨e1, hI1, h0⟩ := h0
  refine tjv (fun v2 : Unit => ({ nt := 21, env := [(2, .ptr 2 0)], box := [(2, [.d (.int .i64 0)])], vec := [] } : St)) (fun v2 => .inl v2 = e1) (fun v2 hI1e _ W1 => ?_) ?_
  · subst hI1e
    dsimp only at h0
    refine tr_wk W1 ?_
    refine kr [2, 3] (by simp; rfl) ?_
    cases h0
    exact tr_ret ⟨[], by simp, rfl, by simp⟩
  · refine tr_block (tr_iter (fun s3 : Int => ({ nt := 21, env := [(1, .ptr 1 0), (2, .ptr 2 0), (7, .d (.slice (rowsF (iRow .i64) y1))), (8, .d (.int .i64 ((y1).length : Int))), (9, .d (.int .i64 s3))], box := [(1, [.d (.int .i64 a0.Slots), .d (.slice (rowsF api_Consumer_row a0.Consumers))]), (2, [.d (.int .i64 0)])], vec := [] } : St)) hI1 (wk (by simp [weak_iff])) fun G1 s3 o1 h1 hg1 he1 => ?_)
    unfold plan_Why_l0 at h1
    refine kr [1, 2, 7, 8, 9, 10] (by simp; rfl) ?_
    refine tr_seq ?_
    refine tr_cond (b := (decide (s3 < ((y1).length : Int)))) (by simp) (fun c5 => ?_) (fun c5 => ?_)
    · rw [if_pos c5] at h1
      refine tr_skip ?_
      refine tr_seq ?_
      refine tr_block ?_
      replace h1 := bnd h1; obtain ⟨x4, p3, h1⟩ := h1
      replace p3 := idx_some p3
      have p3' := p3; try simp at p3'
      refine kr [1, 2, 5, 7, 8, 9] (by simp [p3, p3']; rfl) ?_
      refine kc ?_
      refine ko [1, 2, 5, 7, 8, 9, 13, 14] 2 (by simp; rfl) ?_
      replace h1 := bnd h1; obtain ⟨y5, hy5, h1⟩ := h1
      refine kcall [1, 2, 5, 7, 8, 9, 15] [] (plan_Fit_ok hy5) rfl rfl rfl Try.call9 (by simp) (by simp; rfl) ?_
      refine ko [1, 2, 5, 7, 8, 9, 16] 1 (by simp; rfl) ?_
      refine tops_nil ?_
      refine tr_cond (b := (!y5)) (by simp) (fun c6 => ?_) (fun c6 => ?_)
      · rw [if_pos c6] at h1
        refine kr [2, 3] (by simp; rfl) ?_
        have k1 := he1 _ (Option.some.inj h1)
        subst k1
        dsimp only at h0
        cases h0
        exact tr_ret ⟨[], by simp, rfl, by simp⟩
      · rw [if_neg (by rw [c6]; decide)] at h1
        refine tr_skip ?_
        refine lr (by simp; rfl) ?_
        exact ⟨_, hg1 _ (Option.some.inj h1), wk (by simp [weak_iff])⟩
    · rw [if_neg (by rw [c5]; decide)] at h1
      refine tr_exit ?_
      exact ⟨_, he1 _ (Option.some.inj h1), wk (by simp [weak_iff])⟩
set_option maxHeartbeats 1000000 in
theorem fleet_bits_ok {a0 : Int} {a1 : Int} {a2 : Bool} {r : Bool} (h0 : fleet_bits a0 a1 a2 = some r) : FnOK Try.prog 55 [] [.d (.int .i64 a0), .d (.int .i64 a1), .d (.bool a2)] (.d (.bool r)) [] := by
  unfold fleet_bits at h0
  refine fn_ok (nt := 26) (rs := [.tmp 6]) Try.func55 rfl Try.ntmps55 rfl (by simp) (by decide) rfl fun K => ?_
  refine kr [0, 1, 2] (by simp; rfl) ?_
  replace h0 := bnd h0; obtain ⟨v1, hvv1, h0⟩ := h0
  refine sjv (fun v1_ : Bool => ({ nt := 26, env := [(6, .d (.bool v1_))], box := [], vec := [] } : St)) (fun v1_ => v1 = v1_) (fun v1_ e => ?_) ?_
  · subst e
    cases h0
    exact tr_ret ⟨[], by simp, rfl, by simp⟩
  · refine kc1 ?_
    refine ko [0, 1, 2, 9] 3 (by simp; rfl) ?_
    refine tops_split 9 (decide (0 < a0)) (by simp) (fun c9 => ?_) (fun c9 => ?_)
    · rw [c9] at hvv1
      refine ko [0, 1, 2, 13] 4 (by simp; rfl) ?_
      refine tops_split 13 (decide (a0 ≤ 3)) (by simp) (fun c10 => ?_) (fun c10 => ?_)
      · rw [c10] at hvv1
        refine ko [0, 2, 19] 6 (by simp; rfl) ?_
        refine tops_split 19 ((bAndNot .i64 a0 a1) == 0) (by simp) (fun c11 => ?_) (fun c11 => ?_)
        · rw [c11] at hvv1
          refine ko [0, 19, 21] 2 (by simp; rfl) ?_
          refine tops_split 21 a2 (by simp) (fun c12 => ?_) (fun c12 => ?_)
          · rw [c12] at hvv1
            refine ko [6] 5 (by simp; rfl) ?_
            refine tops_nil ?_
            cases hvv1
            exact ⟨_, rfl, wk (by simp [weak_iff])⟩
          · rw [c12] at hvv1
            refine ko [6] 5 (by simp; rfl) ?_
            refine tops_nil ?_
            cases hvv1
            exact ⟨_, rfl, wk (by simp [weak_iff])⟩
        · rw [c11] at hvv1
          refine kskip 5 [] (by kernel_rfl) ?_
          refine ko [6] 2 (by simp; rfl) ?_
          refine tops_nil ?_
          cases hvv1
          exact ⟨_, rfl, wk (by simp [weak_iff])⟩
      · rw [c10] at hvv1
        refine kskip 4 [] (by kernel_rfl) ?_
        refine ko [0, 2, 19] 2 (by simp; rfl) ?_
        refine kskip 5 [] (by kernel_rfl) ?_
        refine ko [6] 2 (by simp; rfl) ?_
        refine tops_nil ?_
        cases hvv1
        exact ⟨_, rfl, wk (by simp [weak_iff])⟩
    · rw [c9] at hvv1
      refine ko [0, 1, 2, 13] 4 (by simp; rfl) ?_
      refine kskip 4 [] (by kernel_rfl) ?_
      refine ko [0, 2, 19] 2 (by simp; rfl) ?_
      refine kskip 5 [] (by kernel_rfl) ?_
      refine ko [6] 2 (by simp; rfl) ?_
      refine tops_nil ?_
      cases hvv1
      exact ⟨_, rfl, wk (by simp [weak_iff])⟩
set_option maxHeartbeats 1000000 in
theorem fleet_unit_ok {a0 : api_Consumer} {a1 : api_Unit} {a2 : Int} {r : Bool} (h0 : fleet_unit a0 a1 a2 = some r) : FnOK Try.prog 56 [] [.agg (api_Consumer_av a0), .agg (api_Unit_av a1), .d (.int .i64 a2)] (.d (.bool r)) [] := by
  unfold fleet_unit at h0
  refine fn_ok (nt := 38) (rs := [.tmp 6]) Try.func56 rfl Try.ntmps56 rfl (by simp) (by decide) rfl fun K => ?_
  refine kr [2, 3, 4] (by simp; rfl) ?_
  refine tr_seq ?_
  refine kc ?_
  refine ko [2, 3, 4, 8, 9, 11] 5 (by simp; rfl) ?_
  replace h0 := bnd h0; obtain ⟨y1, hy1, h0⟩ := h0
  refine kcall [2, 3, 4, 12] [] (fleet_bits_ok hy1) rfl rfl rfl Try.call55 (by simp) (by simp; rfl) ?_
  refine ko [2, 3, 4, 13] 1 (by simp; rfl) ?_
  refine tops_nil ?_
  refine tr_cond (b := (!y1)) (by simp) (fun c1 => ?_) (fun c1 => ?_)
  · rw [if_pos c1] at h0
    refine kr [6] (by simp; rfl) ?_
    cases h0
    exact tr_ret ⟨[], by simp, rfl, by simp⟩
  · rw [if_neg (by rw [c1]; decide)] at h0
    refine tr_skip ?_
    refine tr_seq ?_
    refine kr [2, 3, 4, 16] (by simp; rfl) ?_
    refine tr_cond (b := (!a1.Up)) (by simp) (fun c2 => ?_) (fun c2 => ?_)
    · rw [if_pos c2] at h0
      refine kr [6] (by simp; rfl) ?_
      cases h0
      exact tr_ret ⟨[], by simp, rfl, by simp⟩
    · rw [if_neg (by rw [c2]; decide)] at h0
      refine tr_skip ?_
      replace h0 := bnd h0; obtain ⟨v2, hvv2, h0⟩ := h0
      refine sjv (fun v2_ : Bool => ({ nt := 38, env := [(6, .d (.bool v2_))], box := [], vec := [] } : St)) (fun v2_ => v2 = v2_) (fun v2_ e => ?_) ?_
      · subst e
        cases h0
        exact tr_ret ⟨[], by simp, rfl, by simp⟩
      · refine kc1 ?_
        refine ko [3, 4, 21, 22, 24] 5 (by simp; rfl) ?_
        replace hvv2 := bnd hvv2; obtain ⟨y3, hy3, hvv2⟩ := hvv2
        refine kcall [3, 4, 25] [] (fleet_bits_ok hy3) rfl rfl rfl Try.call55 (by simp) (by simp; rfl) ?_
        refine ko [3, 4, 26] 1 (by simp; rfl) ?_
        refine tops_split 26 y3 (by simp) (fun c7 => ?_) (fun c7 => ?_)
        · rw [if_pos c7] at hvv2
          refine ko [4, 26, 30] 4 (by simp; rfl) ?_
          refine tops_split 30 (!a0.Live) (by simp) (fun c8 => ?_) (fun c8 => ?_)
          · rw [if_pos c8] at hvv2
            refine kskip 5 [] (by kernel_rfl) ?_
            refine ko [6] 3 (by simp; rfl) ?_
            refine tops_nil ?_
            cases hvv2
            exact ⟨_, rfl, wk (by simp [weak_iff])⟩
          · rw [if_neg (by rw [c8]; decide)] at hvv2
            refine ko [6] 8 (by simp; rfl) ?_
            refine tops_nil ?_
            cases hvv2
            exact ⟨_, rfl, wk (by simp [weak_iff])⟩
        · rw [if_neg (by rw [c7]; decide)] at hvv2
          refine kskip 10 [] (by kernel_rfl) ?_
          refine ko [6] 2 (by simp; rfl) ?_
          refine tops_nil ?_
          cases hvv2
          exact ⟨_, rfl, wk (by simp [weak_iff])⟩
set_option maxHeartbeats 1000000 in
theorem fleet_Right_ok {a0 : api_Fleet} {a1 : api_Rotation} {r : Bool} (h0 : fleet_Right a0 a1 = some r) : FnOK Try.prog 30 [] [.agg (api_Fleet_av a0), .agg (api_Rotation_av a1)] (.d (.bool r)) [] := by
  unfold fleet_Right at h0
  refine fn_ok (nt := 59) (rs := [.tmp 4]) Try.func30 rfl Try.ntmps30 rfl (by simp) (by decide) rfl fun K => ?_
  refine kr [2, 3] (by simp; rfl) ?_
  refine tr_seq ?_
  replace h0 := bnd h0; obtain ⟨v1, hvv1, h0⟩ := h0
  refine sjv (fun v1_ : Bool => ({ nt := 59, env := [(2, .ptr 2 0), (3, .ptr 3 0), (39, .d (.bool v1_))], box := [(2, [.d (.int .i64 a0.Slots), .d (.slice (rowsF api_Consumer_row a0.Consumers))]), (3, [.d (.int .i64 a1.Known), .d (.int .i64 a1.Valid), .d (.slice (rowsF api_Unit_row a1.Units))])], vec := [] } : St)) (fun v1_ => v1 = v1_) (fun v1_ e => ?_) ?_
  · subst e
    refine tr_cond (b := v1) (by simp) (fun c11 => ?_) (fun c11 => ?_)
    · rw [if_pos c11] at h0
      refine kr [4] (by simp; rfl) ?_
      cases h0
      exact tr_ret ⟨[], by simp, rfl, by simp⟩
    · rw [if_neg (by rw [c11]; decide)] at h0
      refine tr_skip ?_
      refine tr_seq ?_
      refine kr [2, 3, 41, 42, 43] (by simp; rfl) ?_
      replace h0 := bnd h0; obtain ⟨e1, hI1, h0⟩ := h0
      refine tjv (fun v2 : Unit => ({ nt := 59, env := [], box := [], vec := [] } : St)) (fun v2 => .inl v2 = e1) (fun v2 hI1e _ W1 => ?_) ?_
      · subst hI1e
        dsimp only at h0
        refine tr_wk W1 ?_
        refine kr [4] (by simp; rfl) ?_
        cases h0
        exact tr_ret ⟨[], by simp, rfl, by simp⟩
      · refine tr_block (tr_iter (fun s3 : Int => ({ nt := 59, env := [(2, .ptr 2 0), (3, .ptr 3 0), (41, .d (.slice (rowsF api_Unit_row a1.Units))), (42, .d (.int .i64 ((a1.Units).length : Int))), (43, .d (.int .i64 s3))], box := [(2, [.d (.int .i64 a0.Slots), .d (.slice (rowsF api_Consumer_row a0.Consumers))]), (3, [.d (.int .i64 a1.Known), .d (.int .i64 a1.Valid), .d (.slice (rowsF api_Unit_row a1.Units))])], vec := [] } : St)) hI1 (wk (by simp [weak_iff])) fun G1 s3 o1 h1 hg1 he1 => ?_)
        unfold fleet_Right_l0 at h1
        refine kr [2, 3, 41, 42, 43, 44] (by simp; rfl) ?_
        refine tr_seq ?_
        refine tr_cond (b := (decide (s3 < ((a1.Units).length : Int)))) (by simp) (fun c16 => ?_) (fun c16 => ?_)
        · rw [if_pos c16] at h1
          refine tr_skip ?_
          refine tr_seq ?_
          refine tr_block ?_
          replace h1 := bnd h1; obtain ⟨x4, p9, h1⟩ := h1
          replace p9 := idx_some p9
          have p9' := p9; try simp at p9'
          refine kr [2, 3, 5, 6, 41, 42, 43] (by simp [p9, p9']; rfl) ?_
          refine kd [[], [0], [], [1, 2], [3], [], [], [6], [4, 5, 7], [8]] [] [] none [] 10 fol (by decide +kernel) (by simp) ?_
          replace h1 := bnd h1; obtain ⟨x5, p12, h1⟩ := h1
          replace p12 := idx_some p12
          have p12' := p12; try simp at p12'
          refine dr_go 0 2 rfl (by simp (maxSteps := 1000000) [p12, p12']; rfl) ?_
          refine dr_go 2 2 rfl (by simp (maxSteps := 1000000) [p12, p12']; rfl) ?_
          refine dr_go 4 2 rfl (by simp (maxSteps := 1000000) [p12, p12']; rfl) ?_
          refine dr_go 6 2 rfl (by simp (maxSteps := 1000000) [p12, p12']; rfl) ?_
          replace h1 := bnd h1; obtain ⟨y6, hy6, h1⟩ := h1
          refine dr_call 8 [] (fleet_unit_ok hy6) rfl rfl rfl rfl rfl Try.call56 (by simp) ?_
          refine dr_go 9 1 rfl (by simp (maxSteps := 1000000); rfl) ?_
          refine dr_end rfl (tops_nil ?_)
          refine tr_cond (b := (!y6)) (by simp) (fun c17 => ?_) (fun c17 => ?_)
          · rw [if_pos c17] at h1
            refine kr [4] (by simp; rfl) ?_
            have k1 := he1 _ (Option.some.inj h1)
            subst k1
            dsimp only at h0
            cases h0
            exact tr_ret ⟨[], by simp, rfl, by simp⟩
          · rw [if_neg (by rw [c17]; decide)] at h1
            refine tr_skip ?_
            refine lr (by simp; rfl) ?_
            exact ⟨_, hg1 _ (Option.some.inj h1), wk (by simp [weak_iff])⟩
        · rw [if_neg (by rw [c16]; decide)] at h1
          refine tr_exit ?_
          exact ⟨_, he1 _ (Option.some.inj h1), wk (by simp [weak_iff])⟩
  · refine kc1 ?_
    refine ko [2, 3, 7] 1 (by simp; rfl) ?_
    replace hvv1 := bnd hvv1; obtain ⟨y9, hy9, hvv1⟩ := hvv1
    refine kcall [2, 3, 8] [] (fleet_Check_ok hy9) rfl rfl rfl Try.call23 (by simp) (by simp; rfl) ?_
    refine ko [2, 3, 10] 2 (by simp; rfl) ?_
    refine tops_split 10 (y9 != 0) (by simp) (fun c18 => ?_) (fun c18 => ?_)
    · rw [if_pos c18] at hvv1
      refine kskip 8 [] (by kernel_rfl) ?_
      refine ko [2, 3, 20] 2 (by simp; rfl) ?_
      refine kskip 9 [] (by kernel_rfl) ?_
      refine ko [2, 3, 31] 2 (by simp; rfl) ?_
      refine kskip 7 [] (by kernel_rfl) ?_
      refine ko [2, 3, 39] 1 (by simp; rfl) ?_
      refine tops_nil ?_
      cases hvv1
      exact ⟨_, rfl, wk (by simp [weak_iff])⟩
    · rw [if_neg (by rw [c18]; decide)] at hvv1
      refine ko [2, 3, 10, 14] 4 (by simp; rfl) ?_
      refine tops_split 14 (a1.Known != 1) (by simp) (fun c19 => ?_) (fun c19 => ?_)
      · rw [if_pos c19] at hvv1
        refine ko [2, 3, 20] 6 (by simp; rfl) ?_
        refine tops_split 20 (a1.Known != 3) (by simp) (fun c20 => ?_) (fun c20 => ?_)
        · rw [if_pos c20] at hvv1
          refine kskip 9 [] (by kernel_rfl) ?_
          refine ko [2, 3, 31] 2 (by simp; rfl) ?_
          refine kskip 7 [] (by kernel_rfl) ?_
          refine ko [2, 3, 39] 1 (by simp; rfl) ?_
          refine tops_nil ?_
          cases hvv1
          exact ⟨_, rfl, wk (by simp [weak_iff])⟩
        · rw [if_neg (by rw [c20]; decide)] at hvv1
          refine ko [2, 3, 20, 22, 24, 27] 7 (by simp; rfl) ?_
          replace hvv1 := bnd hvv1; obtain ⟨y10, hy10, hvv1⟩ := hvv1
          refine kcall [2, 3, 20, 28] [] (fleet_bits_ok hy10) rfl rfl rfl Try.call55 (by simp) (by simp; rfl) ?_
          refine ko [2, 3, 31] 3 (by simp; rfl) ?_
          refine tops_split 31 (!y10) (by simp) (fun c21 => ?_) (fun c21 => ?_)
          · rw [if_pos c21] at hvv1
            refine kskip 7 [] (by kernel_rfl) ?_
            refine ko [2, 3, 39] 1 (by simp; rfl) ?_
            refine tops_nil ?_
            cases hvv1
            exact ⟨_, rfl, wk (by simp [weak_iff])⟩
          · rw [if_neg (by rw [c21]; decide)] at hvv1
            refine ko [2, 3, 39] 8 (by simp; rfl) ?_
            refine tops_nil ?_
            cases hvv1
            exact ⟨_, rfl, wk (by simp [weak_iff])⟩
      · rw [if_neg (by rw [c19]; decide)] at hvv1
        refine kskip 3 [] (by kernel_rfl) ?_
        refine ko [2, 3, 20, 22, 24, 27] 10 (by simp; rfl) ?_
        replace hvv1 := bnd hvv1; obtain ⟨y11, hy11, hvv1⟩ := hvv1
        refine kcall [2, 3, 20, 28] [] (fleet_bits_ok hy11) rfl rfl rfl Try.call55 (by simp) (by simp; rfl) ?_
        refine ko [2, 3, 31] 3 (by simp; rfl) ?_
        refine tops_split 31 (!y11) (by simp) (fun c22 => ?_) (fun c22 => ?_)
        · rw [if_pos c22] at hvv1
          refine kskip 7 [] (by kernel_rfl) ?_
          refine ko [2, 3, 39] 1 (by simp; rfl) ?_
          refine tops_nil ?_
          cases hvv1
          exact ⟨_, rfl, wk (by simp [weak_iff])⟩
        · rw [if_neg (by rw [c22]; decide)] at hvv1
          refine ko [2, 3, 39] 8 (by simp; rfl) ?_
          refine tops_nil ?_
          cases hvv1
          exact ⟨_, rfl, wk (by simp [weak_iff])⟩
set_option maxHeartbeats 1000000 in
theorem slices_Clone_api_Unit_own0_ok {a0 : List api_Unit} {r : List api_Unit} (h0 : slices_Clone_api_Unit_own0 a0 = some r) : FnOKv Try.prog 74 [] [] [.d (.slice (rowsF api_Unit_row a0))] (.vec (InV 0)) [] [⟨69, 3, rowsF api_Unit_row r⟩] := by
  unfold slices_Clone_api_Unit_own0 at h0
  replace h0 := bnd h0; obtain ⟨_, p1, h0⟩ := h0; replace p1 := ck_some p1; cases h0
  refine fn_okv (nt := 8) (rs := [.tmp 2]) Try.func74 rfl Try.ntmps74 rfl (by simp) (by decide) rfl fun K => ?_
  refine kr [0, 2] (by simp; rfl) ?_
  cases a0 with
  | nil => simp at p1
  | cons x l =>
    refine tr_seq ?_
    refine kr [0, 4] (by simp; rfl) ?_
    refine tr_cond (b := false) (by simp) (fun h => by cases h) (fun _ => ?_)
    refine tr_skip ?_
    have p2 := p1; simp at p2
    refine kr [2] (by simp [p1, p2]; rfl) ?_
    exact tr_ret ⟨[], [7], by simp, by simp, by simp, by simp, by simp⟩
set_option maxHeartbeats 1000000 in
theorem fleet_Copy_own2_ok {a0 : api_Rotation} {r : api_Rotation} (h0 : fleet_Copy_own2 a0 = some r) : FnOKv Try.prog 52 [] [] [.agg (api_Rotation_av a0)] (.agg [.d (.int .i64 r.Known), .d (.int .i64 r.Valid), .vec (InV 0)]) [] [⟨69, 3, rowsF api_Unit_row r.Units⟩] := by
  unfold fleet_Copy_own2 at h0
  refine fn_okv (nt := 8) (rs := [.cell 2 33]) Try.func52 rfl Try.ntmps52 rfl (by simp) (by decide) rfl fun K => ?_
  refine kr [1, 2] (by simp; rfl) ?_
  refine kc ?_
  refine ko [1, 2, 4] 2 (by simp; rfl) ?_
  replace h0 := bnd h0; obtain ⟨y1, hy1, h0⟩ := h0
  refine kcallV [1, 2, 5] [] [] [600020] (slices_Clone_api_Unit_own0_ok hy1) rfl rfl rfl Try.call74 (by simp) (by simp; rfl) ?_
  refine ko [1, 2] 2 (by simp; rfl) ?_
  refine tops_nil ?_
  refine kr [2] (by simp; rfl) ?_
  cases h0
  exact tr_ret ⟨[], [600020], by simp, by simp, by simp, by simp, by simp⟩
set_option maxHeartbeats 1000000 in
theorem steps_change_el1_2_ok {a0 : api_Consumer} {g1 : api_Rotation} {a1 : Int} {a2 : Int} {a3 : Bool} {r : Bool × api_Rotation} (h0 : steps_change_el1_2 a0 g1 a1 a2 a3 = some r) : FnOKv Try.prog 97 [[.d (.int .i64 g1.Known), .d (.int .i64 g1.Valid), .vec (InV 0)]] [⟨69, 3, rowsF api_Unit_row g1.Units⟩] [.agg (api_Consumer_av a0), .vptr (InV 0) 3 (Int.toNat a1) 0, .d (.int .i64 a2), .d (.bool a3)] (.d (.bool r.1)) [[.d (.int .i64 r.2.Known), .d (.int .i64 r.2.Valid), .vec (InV 0)]] [⟨69, 3, rowsF api_Unit_row r.2.Units⟩] := by
  unfold steps_change_el1_2 at h0
  refine fn_okv (nt := 86) (rs := [.tmp 8]) Try.func97 rfl Try.ntmps97 rfl (by simp) (by decide) rfl fun K => ?_
  refine kr [1, 2, 3, 4] (by simp; rfl) ?_
  refine kr [1, 2, 3, 4, 9] (by simp; rfl) ?_
  refine sjv (fun v1 : Bool × (List api_Unit) => ({ nt := 86, env := [(1, .vptr 2000000 3 (Int.toNat a1) 0), (4, .ptr 4 0), (9, .d (.bool v1.1))], box := [(4, [.d (.int .i64 a0.Pool), .d (.bool a0.Dual), .d (.bool a0.Live)]), (1000000, [.d (.int .i64 g1.Known), .d (.int .i64 g1.Valid), .vec 2000000])], vec := [(2000000, ⟨69, 3, rowsF api_Unit_row v1.2⟩)] } : St)) (fun v1 => steps_change_el1_2_j0 a0 a1 g1 v1 = some r) (fun v1 h0 => ?_) ?_
  · unfold steps_change_el1_2_j0 at h0
    refine tr_seq ?_
    replace h0 := bnd h0; obtain ⟨v2, hvv2, h0⟩ := h0
    refine sjv (fun v2_ : Bool => ({ nt := 86, env := [(1, .vptr 2000000 3 (Int.toNat a1) 0), (9, .d (.bool v1.1)), (77, .d (.bool v2_))], box := [(1000000, [.d (.int .i64 g1.Known), .d (.int .i64 g1.Valid), .vec 2000000])], vec := [(2000000, ⟨69, 3, rowsF api_Unit_row v1.2⟩)] } : St)) (fun v2_ => v2 = v2_) (fun v2_ e => ?_) ?_
    · subst e
      refine tr_cond (b := v2) (by simp) (fun c9 => ?_) (fun c9 => ?_)
      · rw [if_pos c9] at h0
        replace h0 := bnd h0; obtain ⟨x3, p8, h0⟩ := h0
        replace p8 := idx_some p8
        have p8' := p8; try simp at p8'
        refine lr (by simp [-getElem?_pos, List.getElem?_cons_zero, List.getElem?_cons_succ, p8, (List.getElem?_eq_some_iff.1 p8.2).1, p8']; rfl) ?_
        refine kr [8] (by simp; rfl) ?_
        cases h0
        exact tr_ret ⟨[], [2000000], by simp, by simp, by simp, by simp, by simp⟩
      · rw [if_neg (by rw [c9]; decide)] at h0
        refine tr_skip ?_
        refine kr [8] (by simp; rfl) ?_
        cases h0
        exact tr_ret ⟨[], [2000000], by simp, by simp, by simp, by simp, by simp⟩
    · refine kc1 ?_
      refine ko [1, 9, 72] 3 (by simp; rfl) ?_
      refine tops_split 72 a0.Live (by simp) (fun c10 => ?_) (fun c10 => ?_)
      · rw [if_pos c10] at hvv2
        replace hvv2 := bnd hvv2; obtain ⟨x4, p9, hvv2⟩ := hvv2
        replace p9 := idx_some p9
        have p9' := p9; try simp at p9'
        refine ko [1, 9, 77] 5 (by simp [p9, p9']; rfl) ?_
        refine tops_nil ?_
        cases hvv2
        exact ⟨_, rfl, wk (by simp [weak_iff])⟩
      · rw [if_neg (by rw [c10]; decide)] at hvv2
        refine kskip 4 [] (by kernel_rfl) ?_
        refine ko [1, 9, 77] 1 (by simp; rfl) ?_
        refine tops_nil ?_
        cases hvv2
        exact ⟨_, rfl, wk (by simp [weak_iff])⟩
  · refine kr [1, 3, 4, 9, 10] (by simp; rfl) ?_
    refine tr_block ?_
    refine kr [1, 3, 4, 9, 10, 11] (by simp; rfl) ?_
    refine tr_cond (b := (a2 == 4)) (by simp) (fun c11 => ?_) (fun c11 => ?_)
    · rw [if_pos c11] at h0
      replace h0 := bnd h0; obtain ⟨v5, hvv5, h0⟩ := h0
      refine sjv (fun v5_ : Bool => ({ nt := 86, env := [(1, .vptr 2000000 3 (Int.toNat a1) 0), (4, .ptr 4 0), (9, .d (.bool v5_))], box := [(4, [.d (.int .i64 a0.Pool), .d (.bool a0.Dual), .d (.bool a0.Live)]), (1000000, [.d (.int .i64 g1.Known), .d (.int .i64 g1.Valid), .vec 2000000])], vec := [(2000000, ⟨69, 3, rowsF api_Unit_row g1.Units⟩)] } : St)) (fun v5_ => v5 = v5_) (fun v5_ e => ?_) ?_
      · subst e
        replace h0 := bnd h0; obtain ⟨x6, p12, h0⟩ := h0
        replace p12 := idx_some p12
        have p12' := p12; try simp at p12'
        refine kr [1, 4, 9] (by simp [-getElem?_pos, List.getElem?_cons_zero, List.getElem?_cons_succ, p12, (List.getElem?_eq_some_iff.1 p12.2).1, p12']; rfl) ?_
        refine kr [1, 4, 9, 25] (by simp; rfl) ?_
        refine tr_cond (b := a0.Dual) (by simp) (fun c14 => ?_) (fun c14 => ?_)
        · rw [if_pos c14] at h0
          refine lr (by simp [-getElem?_pos, List.getElem?_cons_zero, List.getElem?_cons_succ, p12, (List.getElem?_eq_some_iff.1 p12.2).1, p12']; rfl) ?_
          exact ⟨_, h0, wk (by simp [weak_iff])⟩
        · rw [if_neg (by rw [c14]; decide)] at h0
          refine tr_skip ?_
          exact ⟨_, h0, wk (by simp [weak_iff])⟩
      · refine kc1 ?_
        refine ko [1, 4, 14] 2 (by simp; rfl) ?_
        refine tops_split 14 a3 (by simp) (fun c15 => ?_) (fun c15 => ?_)
        · rw [if_pos c15] at hvv5
          replace hvv5 := bnd hvv5; obtain ⟨x7, p13, hvv5⟩ := hvv5
          replace p13 := idx_some p13
          have p13' := p13; try simp at p13'
          refine ko [1, 4, 9] 7 (by simp [p13, p13']; rfl) ?_
          refine tops_nil ?_
          cases hvv5
          exact ⟨_, rfl, wk (by simp [weak_iff])⟩
        · rw [if_neg (by rw [c15]; decide)] at hvv5
          refine kskip 5 [] (by kernel_rfl) ?_
          refine ko [1, 4, 9] 2 (by simp; rfl) ?_
          refine tops_nil ?_
          cases hvv5
          exact ⟨_, rfl, wk (by simp [weak_iff])⟩
    · rw [if_neg (by rw [c11]; decide)] at h0
      refine kr [1, 4, 9, 10, 29] (by simp; rfl) ?_
      refine tr_cond (b := (a2 == 7)) (by simp) (fun c16 => ?_) (fun c16 => ?_)
      · rw [if_pos c16] at h0
        replace h0 := bnd h0; obtain ⟨x8, p14, h0⟩ := h0
        replace p14 := idx_some p14
        have p14' := p14; try simp at p14'
        refine kr [1, 4, 9] (by simp [p14, p14']; rfl) ?_
        refine lr (by simp [-getElem?_pos, List.getElem?_cons_zero, List.getElem?_cons_succ, p14, (List.getElem?_eq_some_iff.1 p14.2).1, p14']; rfl) ?_
        exact ⟨_, h0, wk (by simp [weak_iff])⟩
      · rw [if_neg (by rw [c16]; decide)] at h0
        refine kr [1, 4, 9, 10, 39] (by simp; rfl) ?_
        refine tr_cond (b := (a2 == 5)) (by simp) (fun c17 => ?_) (fun c17 => ?_)
        · rw [if_pos c17] at h0
          replace h0 := bnd h0; obtain ⟨x9, p15, h0⟩ := h0
          replace p15 := idx_some p15
          have p15' := p15; try simp at p15'
          refine kr [1, 9] (by simp [p15, p15']; rfl) ?_
          refine kr [9] (by simp [-getElem?_pos, List.getElem?_cons_zero, List.getElem?_cons_succ, p15, (List.getElem?_eq_some_iff.1 p15.2).1, p15']; rfl) ?_
          refine kr [8] (by simp; rfl) ?_
          cases h0
          exact tr_ret ⟨[], [2000000], by simp, by simp, by simp, by simp, by simp⟩
        · rw [if_neg (by rw [c17]; decide)] at h0
          refine kr [1, 4, 9, 52] (by simp; rfl) ?_
          refine tr_cond (b := (a2 == 6)) (by simp) (fun c18 => ?_) (fun c18 => ?_)
          · rw [if_pos c18] at h0
            replace h0 := bnd h0; obtain ⟨x10, p16, h0⟩ := h0
            replace p16 := idx_some p16
            have p16' := p16; try simp at p16'
            refine kr [1, 9] (by simp [p16, p16']; rfl) ?_
            refine kr [9] (by simp [-getElem?_pos, List.getElem?_cons_zero, List.getElem?_cons_succ, p16, (List.getElem?_eq_some_iff.1 p16.2).1, p16']; rfl) ?_
            refine kr [8] (by simp; rfl) ?_
            cases h0
            exact tr_ret ⟨[], [2000000], by simp, by simp, by simp, by simp, by simp⟩
          · rw [if_neg (by rw [c18]; decide)] at h0
            refine tr_skip ?_
            exact ⟨_, h0, wk (by simp [weak_iff])⟩
set_option maxHeartbeats 1000000 in
theorem steps_step_o1_2_ok {a0 : api_Fleet} {a1 : api_Rotation} {a2 : api_Step} {r : Bool × api_Rotation} (h0 : steps_step_o1_2 a0 a1 a2 = some r) : FnOKv Try.prog 87 [[.d (.int .i64 a1.Known), .d (.int .i64 a1.Valid), .vec (InV 0)]] [⟨69, 3, rowsF api_Unit_row a1.Units⟩] [.agg (api_Fleet_av a0), .ptr (InO 0) 0, .agg (api_Step_av a2)] (.d (.bool r.1)) [[.d (.int .i64 r.2.Known), .d (.int .i64 r.2.Valid), .vec (InV 0)]] [⟨69, 3, rowsF api_Unit_row r.2.Units⟩] := by
  unfold steps_step_o1_2 at h0
  refine fn_okv (nt := 91) (rs := [.tmp 6]) Try.func87 rfl Try.ntmps87 rfl (by simp) (by decide) rfl fun K => ?_
  refine kr [1, 3, 5] (by simp; rfl) ?_
  refine kr [1, 3, 5, 7] (by simp; rfl) ?_
  refine tr_seq ?_
  refine kr [1, 3, 5, 7, 18] (by simp; rfl) ?_
  refine tr_block ?_
  refine kr [1, 3, 5, 7, 18, 19] (by simp; rfl) ?_
  refine tr_cond (b := (a2.Kind == 1)) (by simp) (fun c1 => ?_) (fun c1 => ?_)
  · rw [if_pos c1] at h0
    refine kr [7] (by simp; rfl) ?_
    refine kr [6] (by simp; rfl) ?_
    cases h0
    exact tr_ret ⟨[], [2000000], by simp, by simp, by simp, by simp, by simp⟩
  · rw [if_neg (by rw [c1]; decide)] at h0
    refine kr [1, 3, 5, 7, 18, 30] (by simp; rfl) ?_
    refine tr_cond (b := (a2.Kind == 2)) (by simp) (fun c2 => ?_) (fun c2 => ?_)
    · rw [if_pos c2] at h0
      replace h0 := bnd h0; obtain ⟨v1, hvv1, h0⟩ := h0
      refine sjv (fun v1_ : Bool => ({ nt := 91, env := [(1, .ptr 1000000 0), (8, .d (.bool v1_))], box := [(1000000, [.d (.int .i64 a1.Known), .d (.int .i64 a1.Valid), .vec 2000000])], vec := [(2000000, ⟨69, 3, rowsF api_Unit_row a1.Units⟩)] } : St)) (fun v1_ => v1 = v1_) (fun v1_ e => ?_) ?_
      · subst e
        refine kr [8] (by simp; rfl) ?_
        refine kr [6] (by simp; rfl) ?_
        cases h0
        exact tr_ret ⟨[], [2000000], by simp, by simp, by simp, by simp, by simp⟩
      · refine kc1 ?_
        refine ko [1, 3, 33] 2 (by simp; rfl) ?_
        refine tops_split 33 ((bAnd .i64 a1.Known 2) != 0) (by simp) (fun c7 => ?_) (fun c7 => ?_)
        · rw [c7] at hvv1
          refine ko [1, 3, 40] 7 (by simp; rfl) ?_
          refine tops_split 40 (a1.Valid == 1) (by simp) (fun c8 => ?_) (fun c8 => ?_)
          · rw [c8] at hvv1
            refine ko [1, 8] 5 (by simp; rfl) ?_
            refine tops_nil ?_
            cases hvv1
            exact ⟨_, rfl, wk (by simp [weak_iff])⟩
          · rw [c8] at hvv1
            refine kskip 3 [] (by kernel_rfl) ?_
            refine ko [1, 8] 2 (by simp; rfl) ?_
            refine tops_nil ?_
            cases hvv1
            exact ⟨_, rfl, wk (by simp [weak_iff])⟩
        · rw [c7] at hvv1
          refine kskip 5 [] (by kernel_rfl) ?_
          refine ko [1, 3, 40] 2 (by simp; rfl) ?_
          refine kskip 3 [] (by kernel_rfl) ?_
          refine ko [1, 8] 2 (by simp; rfl) ?_
          refine tops_nil ?_
          cases hvv1
          exact ⟨_, rfl, wk (by simp [weak_iff])⟩
    · rw [if_neg (by rw [c2]; decide)] at h0
      refine kr [1, 3, 5, 7, 18, 49] (by simp; rfl) ?_
      refine tr_cond (b := (a2.Kind == 3)) (by simp) (fun c9 => ?_) (fun c9 => ?_)
      · rw [if_pos c9] at h0
        replace h0 := bnd h0; obtain ⟨v2, hvv2, h0⟩ := h0
        refine sjv (fun v2_ : Bool => ({ nt := 91, env := [(1, .ptr 1000000 0), (9, .d (.bool v2_))], box := [(1000000, [.d (.int .i64 a1.Known), .d (.int .i64 a1.Valid), .vec 2000000])], vec := [(2000000, ⟨69, 3, rowsF api_Unit_row a1.Units⟩)] } : St)) (fun v2_ => v2 = v2_) (fun v2_ e => ?_) ?_
        · subst e
          refine kr [9] (by simp; rfl) ?_
          refine kr [6] (by simp; rfl) ?_
          cases h0
          exact tr_ret ⟨[], [2000000], by simp, by simp, by simp, by simp, by simp⟩
        · refine kc1 ?_
          refine ko [1, 52] 2 (by simp; rfl) ?_
          refine tops_split 52 ((bAnd .i64 a1.Known 2) != 0) (by simp) (fun c12 => ?_) (fun c12 => ?_)
          · rw [c12] at hvv2
            refine ko [1, 9] 7 (by simp; rfl) ?_
            refine tops_nil ?_
            cases hvv2
            exact ⟨_, rfl, wk (by simp [weak_iff])⟩
          · rw [c12] at hvv2
            refine kskip 5 [] (by kernel_rfl) ?_
            refine ko [1, 9] 2 (by simp; rfl) ?_
            refine tops_nil ?_
            cases hvv2
            exact ⟨_, rfl, wk (by simp [weak_iff])⟩
      · rw [if_neg (by rw [c9]; decide)] at h0
        refine kr [1, 3, 5, 7, 63] (by simp; rfl) ?_
        refine tr_cond (b := (a2.Kind == 8)) (by simp) (fun c13 => ?_) (fun c13 => ?_)
        · rw [if_pos c13] at h0
          refine kr [1, 10] (by simp; rfl) ?_
          refine kr [10] (by simp; rfl) ?_
          refine kr [6] (by simp; rfl) ?_
          cases h0
          exact tr_ret ⟨[], [2000000], by simp, by simp, by simp, by simp, by simp⟩
        · rw [if_neg (by rw [c13]; decide)] at h0
          refine tr_skip ?_
          refine kd [[], [0], [], [2], [0, 1, 2, 3], [0, 1, 2, 3, 4], [], [6], [6, 7], [6, 7, 8], [], [10], [6, 7, 8, 9, 10, 11], [], [13], [], [0, 1, 2, 3, 4, 5, 6, 7, 8, 9, 10, 11, 12, 13, 14, 15], [0, 1, 2, 3, 4, 5, 6, 7, 8, 9, 10, 11, 12, 13, 14, 15]] [] [] none [] 16 fol (by decide +kernel) (by simp) ?_
          replace h0 := bnd h0; obtain ⟨x3, p7, h0⟩ := h0
          replace p7 := idx_some p7
          have p7' := p7; try simp at p7'
          replace h0 := bnd h0; obtain ⟨_, p8, h0⟩ := h0
          replace p8 := ck_some p8
          have p8' := p8; try simp at p8'
          have p8o : a2.Unit < (((a1.Units)).length : Int) := by omega
          refine dr_go 0 2 rfl (by simp (maxSteps := 1000000) [-getElem?_pos, List.getElem?_cons_zero, List.getElem?_cons_succ, p7, p8, p8o, p7', p8']; rfl) ?_
          refine dr_go 2 2 rfl (by simp (maxSteps := 1000000) [-getElem?_pos, List.getElem?_cons_zero, List.getElem?_cons_succ, p7, p8, p8o, p7', p8']; rfl) ?_
          refine dr_go 4 2 rfl (by simp (maxSteps := 1000000) [-getElem?_pos, List.getElem?_cons_zero, List.getElem?_cons_succ, p7, p8, p8o, p7', p8']; rfl) ?_
          refine dr_go 6 2 rfl (by simp (maxSteps := 1000000) [-getElem?_pos, List.getElem?_cons_zero, List.getElem?_cons_succ, p7, p8, p8o, p7', p8']; rfl) ?_
          refine dr_go 8 2 rfl (by simp (maxSteps := 1000000) [-getElem?_pos, List.getElem?_cons_zero, List.getElem?_cons_succ, p7, p8, p8o, p7', p8']; rfl) ?_
          refine dr_go 10 2 rfl (by simp (maxSteps := 1000000) [-getElem?_pos, List.getElem?_cons_zero, List.getElem?_cons_succ, p7, p8, p8o, p7', p8']; rfl) ?_
          refine dr_go 12 2 rfl (by simp (maxSteps := 1000000) [-getElem?_pos, List.getElem?_cons_zero, List.getElem?_cons_succ, p7, p8, p8o, p7', p8']; rfl) ?_
          refine dr_go 14 2 rfl (by simp (maxSteps := 1000000) [-getElem?_pos, List.getElem?_cons_zero, List.getElem?_cons_succ, p7, p8, p8o, p7', p8']; rfl) ?_
          refine dr_end rfl ?_
          replace h0 := bnd h0; obtain ⟨y4, hy4, h0⟩ := h0
          refine kcallV [90] [1000000] [2000000] [2000000] (steps_change_el1_2_ok hy4) rfl rfl rfl Try.call97 (by simp) (by simp; rfl) ?_
          refine ko [6] 1 (by simp; rfl) ?_
          refine tops_nil ?_
          cases h0
          exact tr_ret ⟨[], [2000000], by simp, by simp, by simp, by simp, by simp⟩
set_option maxHeartbeats 1000000 in
theorem steps_Apply_ok {a0 : api_Fleet} {a1 : api_Rotation} {a2 : api_Step} {r : api_Rotation × Int} (h0 : steps_Apply a0 a1 a2 = some r) : FnOK Try.prog 61 [] [.agg (api_Fleet_av a0), .agg (api_Rotation_av a1), .agg (api_Step_av a2)] (.tup [.agg (api_Rotation_av r.1), .d (.int .i64 r.2)]) [] := by
  unfold steps_Apply at h0
  refine fn_ok (nt := 68) (rs := [.cell 6 33, .tmp 7]) Try.func61 rfl Try.ntmps61 rfl (by simp) (by decide) rfl fun K => ?_
  refine kr [3, 4, 5, 6] (by simp; rfl) ?_
  replace h0 := bnd h0; obtain ⟨v1, hvv1, h0⟩ := h0
  refine sjv (fun v1_ : Bool => ({ nt := 68, env := [(3, .ptr 3 0), (4, .ptr 4 0), (5, .ptr 5 0), (6, .ptr 6 0), (8, .d (.bool v1_))], box := [(3, [.d (.int .i64 a0.Slots), .d (.slice (rowsF api_Consumer_row a0.Consumers))]), (4, [.d (.int .i64 a1.Known), .d (.int .i64 a1.Valid), .d (.slice (rowsF api_Unit_row a1.Units))]), (5, [.d (.int .i64 a2.Kind), .d (.int .i64 a2.Unit)]), (6, [.d (.int .i64 0), .d (.int .i64 0), .nilS])], vec := [] } : St)) (fun v1_ => v1 = v1_) (fun v1_ e => ?_) ?_
  · subst e
    refine tr_seq ?_
    refine tr_block ?_
    refine kc ?_
    refine ko [3, 4, 5, 6, 8, 24, 25] 2 (by simp; rfl) ?_
    replace h0 := bnd h0; obtain ⟨y2, hy2, h0⟩ := h0
    refine kcall [3, 4, 5, 6, 8, 26] [] (fleet_Right_ok hy2) rfl rfl rfl Try.call30 (by simp) (by simp; rfl) ?_
    refine ko [3, 4, 5, 6, 8, 23] 2 (by simp; rfl) ?_
    refine tops_nil ?_
    refine tr_cond (b := (!y2)) (by simp) (fun c5 => ?_) (fun c5 => ?_)
    · rw [if_pos c5] at h0
      refine kr [6, 7] (by simp; rfl) ?_
      cases h0
      exact tr_ret ⟨[], by simp, rfl, by simp⟩
    · rw [if_neg (by rw [c5]; decide)] at h0
      replace h0 := bnd h0; obtain ⟨v3, hvv3, h0⟩ := h0
      refine sjv (fun v3_ : Bool => ({ nt := 68, env := [(3, .ptr 3 0), (4, .ptr 4 0), (5, .ptr 5 0), (6, .ptr 6 0), (29, .d (.bool v3_))], box := [(3, [.d (.int .i64 a0.Slots), .d (.slice (rowsF api_Consumer_row a0.Consumers))]), (4, [.d (.int .i64 a1.Known), .d (.int .i64 a1.Valid), .d (.slice (rowsF api_Unit_row a1.Units))]), (5, [.d (.int .i64 a2.Kind), .d (.int .i64 a2.Unit)]), (6, [.d (.int .i64 0), .d (.int .i64 0), .nilS])], vec := [] } : St)) (fun v3_ => v3 = v3_) (fun v3_ e => ?_) ?_
      · subst e
        refine tr_cond (b := v3) (by simp) (fun c16 => ?_) (fun c16 => ?_)
        · rw [if_pos c16] at h0
          refine kr [6, 7] (by simp; rfl) ?_
          cases h0
          exact tr_ret ⟨[], by simp, rfl, by simp⟩
        · rw [if_neg (by rw [c16]; decide)] at h0
          refine tr_skip ?_
          refine kc ?_
          refine ko [3, 5, 6, 60] 1 (by simp; rfl) ?_
          replace h0 := bnd h0; obtain ⟨y4, hy4, h0⟩ := h0
          refine kcallV [3, 5, 6, 61] [] [] [600244] (fleet_Copy_own2_ok hy4) rfl rfl rfl Try.call52 (by simp) (by simp; rfl) ?_
          refine ko [3, 5, 6, 9] 2 (by simp; rfl) ?_
          refine tops_nil ?_
          refine tr_seq ?_
          refine kc ?_
          refine ko [6, 9, 62, 63] 2 (by simp; rfl) ?_
          replace h0 := bnd h0; obtain ⟨y5, hy5, h0⟩ := h0
          refine kcallV [6, 9, 64] [9] [600244] [600244] (steps_step_o1_2_ok hy5) rfl rfl rfl Try.call87 (by simp) (by simp; rfl) ?_
          refine ko [6, 9, 65] 1 (by simp; rfl) ?_
          refine tops_nil ?_
          refine tr_cond (b := (!y5.1)) (by simp) (fun c17 => ?_) (fun c17 => ?_)
          · rw [if_pos c17] at h0
            refine kr [6, 7] (by simp; rfl) ?_
            cases h0
            exact tr_ret ⟨[], by simp, rfl, by simp⟩
          · rw [if_neg (by rw [c17]; decide)] at h0
            refine tr_skip ?_
            refine kr [6, 7] (by simp; rfl) ?_
            cases h0
            exact tr_ret ⟨[600244], by simp, rfl, by simp⟩
      · refine kc1 ?_
        refine ko [3, 4, 5, 6, 8, 33] 4 (by simp; rfl) ?_
        refine tops_split 33 (decide (a2.Kind < 1)) (by simp) (fun c18 => ?_) (fun c18 => ?_)
        · rw [c18] at hvv3
          refine kskip 3 [] (by kernel_rfl) ?_
          refine ko [3, 4, 5, 6, 8, 38] 2 (by simp; rfl) ?_
          refine kskip 3 [] (by kernel_rfl) ?_
          refine ko [3, 4, 5, 6, 8, 43] 2 (by simp; rfl) ?_
          refine kskip 6 [] (by kernel_rfl) ?_
          refine ko [3, 4, 5, 6, 8, 51] 2 (by simp; rfl) ?_
          refine kskip 6 [] (by kernel_rfl) ?_
          refine ko [3, 4, 5, 6, 29] 2 (by simp; rfl) ?_
          refine tops_nil ?_
          cases hvv3
          exact ⟨_, rfl, wk (by simp [weak_iff])⟩
        · rw [c18] at hvv3
          refine ko [3, 4, 5, 6, 8, 38] 5 (by simp; rfl) ?_
          refine tops_split 38 (decide (8 < a2.Kind)) (by simp) (fun c19 => ?_) (fun c19 => ?_)
          · rw [c19] at hvv3
            refine kskip 3 [] (by kernel_rfl) ?_
            refine ko [3, 4, 5, 6, 8, 43] 2 (by simp; rfl) ?_
            refine kskip 6 [] (by kernel_rfl) ?_
            refine ko [3, 4, 5, 6, 8, 51] 2 (by simp; rfl) ?_
            refine kskip 6 [] (by kernel_rfl) ?_
            refine ko [3, 4, 5, 6, 29] 2 (by simp; rfl) ?_
            refine tops_nil ?_
            cases hvv3
            exact ⟨_, rfl, wk (by simp [weak_iff])⟩
          · rw [c19] at hvv3
            refine ko [3, 4, 5, 6, 8, 43] 5 (by simp; rfl) ?_
            refine tops_split 43 (decide (a2.Unit < 0)) (by simp) (fun c20 => ?_) (fun c20 => ?_)
            · rw [c20] at hvv3
              refine kskip 6 [] (by kernel_rfl) ?_
              refine ko [3, 4, 5, 6, 8, 51] 2 (by simp; rfl) ?_
              refine kskip 6 [] (by kernel_rfl) ?_
              refine ko [3, 4, 5, 6, 29] 2 (by simp; rfl) ?_
              refine tops_nil ?_
              cases hvv3
              exact ⟨_, rfl, wk (by simp [weak_iff])⟩
            · rw [c20] at hvv3
              refine ko [3, 4, 5, 6, 8, 51] 8 (by simp; rfl) ?_
              refine tops_split 51 (decide (((a1.Units).length : Int) ≤ a2.Unit)) (by simp) (fun c21 => ?_) (fun c21 => ?_)
              · rw [c21] at hvv3
                refine kskip 6 [] (by kernel_rfl) ?_
                refine ko [3, 4, 5, 6, 29] 2 (by simp; rfl) ?_
                refine tops_nil ?_
                cases hvv3
                exact ⟨_, rfl, wk (by simp [weak_iff])⟩
              · rw [c21] at hvv3
                refine ko [3, 4, 5, 6, 51, 53] 2 (by simp; rfl) ?_
                refine tops_split 53 v1 (by simp) (fun c22 => ?_) (fun c22 => ?_)
                · rw [c22] at hvv3
                  refine ko [3, 4, 5, 6, 29] 6 (by simp; rfl) ?_
                  refine tops_nil ?_
                  cases hvv3
                  exact ⟨_, rfl, wk (by simp [weak_iff])⟩
                · rw [c22] at hvv3
                  refine kskip 3 [] (by kernel_rfl) ?_
                  refine ko [3, 4, 5, 6, 29] 3 (by simp; rfl) ?_
                  refine tops_nil ?_
                  cases hvv3
                  exact ⟨_, rfl, wk (by simp [weak_iff])⟩
  · refine kc1 ?_
    refine ko [3, 4, 5, 6, 13] 4 (by simp; rfl) ?_
    refine tops_split 13 (decide (1 ≤ a2.Kind)) (by simp) (fun c23 => ?_) (fun c23 => ?_)
    · rw [c23] at hvv1
      refine ko [3, 4, 5, 6, 18] 5 (by simp; rfl) ?_
      refine tops_split 18 (decide (a2.Kind ≤ 3)) (by simp) (fun c24 => ?_) (fun c24 => ?_)
      · rw [c24] at hvv1
        refine kskip 3 [] (by kernel_rfl) ?_
        refine ko [3, 4, 5, 6, 8] 2 (by simp; rfl) ?_
        refine tops_nil ?_
        cases hvv1
        exact ⟨_, rfl, wk (by simp [weak_iff])⟩
      · rw [c24] at hvv1
        refine ko [3, 4, 5, 6, 8] 5 (by simp; rfl) ?_
        refine tops_nil ?_
        cases hvv1
        exact ⟨_, rfl, wk (by simp [weak_iff])⟩
    · rw [c23] at hvv1
      refine kskip 3 [] (by kernel_rfl) ?_
      refine ko [3, 4, 5, 6, 8] 7 (by simp; rfl) ?_
      refine tops_nil ?_
      cases hvv1
      exact ⟨_, rfl, wk (by simp [weak_iff])⟩
set_option maxHeartbeats 1000000 in
theorem plan_planner_prepare_1_cb_ok {a0 : Int} {a1 : Int} {r : Bool × Int} (h0 : plan_planner_prepare_1_cb a0 a1 = some r) : FnOK Try.prog 68 [[.d (.int .i64 a1)]] [.d (.int .i64 a0), .ptr (InO 0) 0] (.d (.bool r.1)) [[.d (.int .i64 r.2)]] := by
  unfold plan_planner_prepare_1_cb at h0
  refine fn_ok (nt := 7) (rs := [.tmp 3]) Try.func68 rfl Try.ntmps68 rfl (by simp) (by decide) rfl fun K => ?_
  refine kr [0, 1] (by simp; rfl) ?_
  refine kr [3] (by simp; rfl) ?_
  cases h0
  exact tr_ret ⟨[], by simp, rfl, by simp⟩
set_option maxHeartbeats 1000000 in
theorem slices_IndexFunc_int_at_plan_planner_prepare_1_b_ok {a0 : List Int} {b10 : Int} {r : Int × Int} (h0 : slices_IndexFunc_int_at_plan_planner_prepare_1_b a0 b10 = some r) : FnOK Try.prog 67 [[.d (.int .i64 b10)]] [.d (.slice (rowsF (iRow .i64) a0)), .fn 68 [.ptr (InO 0) 0]] (.d (.int .i64 r.1)) [[.d (.int .i64 r.2)]] := by
  unfold slices_IndexFunc_int_at_plan_planner_prepare_1_b at h0
  refine fn_ok (nt := 19) (rs := [.tmp 4]) Try.func67 rfl Try.ntmps67 rfl (by simp) (by decide) rfl fun K => ?_
  refine kr [0, 1] (by simp; rfl) ?_
  refine tr_seq ?_
  refine kr [0, 1, 7, 8] (by simp; rfl) ?_
  replace h0 := bnd h0; obtain ⟨e1, hI1, h0⟩ := h0
  refine tjv (fun v1 : Int => ({ nt := 19, env := [], box := [(1000000, [.d (.int .i64 v1)])], vec := [] } : St)) (fun v1 => .inl v1 = e1) (fun v1 hI1e _ W1 => ?_) ?_
  · subst hI1e
    dsimp only at h0
    refine tr_wk W1 ?_
    refine kr [4] (by simp; rfl) ?_
    cases h0
    exact tr_ret ⟨[], by simp, rfl, by simp⟩
  · refine tr_block (tr_iter (fun s2 : Int × Int => ({ nt := 19, env := [(0, .d (.slice (rowsF (iRow .i64) a0))), (1, .fn 68 [.ptr 1000000 0]), (7, .d (.int .i64 ((a0).length : Int))), (8, .d (.int .i64 s2.1))], box := [(1000000, [.d (.int .i64 s2.2)])], vec := [] } : St)) hI1 (wk (by simp [weak_iff])) fun G1 s2 o1 h1 hg1 he1 => ?_)
    unfold slices_IndexFunc_int_at_plan_planner_prepare_1_b_l0 at h1
    refine kr [0, 1, 7, 8, 9] (by simp; rfl) ?_
    refine tr_seq ?_
    refine tr_cond (b := (decide (s2.1 < ((a0).length : Int)))) (by simp) (fun c5 => ?_) (fun c5 => ?_)
    · rw [if_pos c5] at h1
      refine tr_skip ?_
      refine tr_seq ?_
      refine tr_block ?_
      refine kr [0, 1, 5, 7, 8] (by simp; rfl) ?_
      refine kc ?_
      replace h1 := bnd h1; obtain ⟨x3, p3, h1⟩ := h1
      replace p3 := idx_some p3
      have p3' := p3; try simp at p3'
      refine ko [0, 1, 5, 7, 8, 11, 15] 5 (by simp [p3, p3']; rfl) ?_
      replace h1 := bnd h1; obtain ⟨y4, hy4, h1⟩ := h1
      refine kcallV [0, 1, 5, 7, 8, 16] [1000000] [] [] (plan_planner_prepare_1_cb_ok hy4) rfl rfl rfl Try.call68 (by simp) (by simp; rfl) ?_
      refine tops_nil ?_
      refine tr_cond (b := y4.1) (by simp) (fun c6 => ?_) (fun c6 => ?_)
      · rw [if_pos c6] at h1
        refine kr [4] (by simp; rfl) ?_
        have k1 := he1 _ (Option.some.inj h1)
        subst k1
        dsimp only at h0
        cases h0
        exact tr_ret ⟨[], by simp, rfl, by simp⟩
      · rw [if_neg (by rw [c6]; decide)] at h1
        refine tr_skip ?_
        refine lr (by simp; rfl) ?_
        exact ⟨_, hg1 _ (Option.some.inj h1), wk (by simp [weak_iff])⟩
    · rw [if_neg (by rw [c5]; decide)] at h1
      refine tr_exit ?_
      exact ⟨_, he1 _ (Option.some.inj h1), wk (by simp [weak_iff])⟩
set_option maxHeartbeats 1000000 in
theorem plan_planner_do_o0_5_ok {a0 : plan_planner} {a1 : Int} {a2 : Int} {r : plan_planner} (h0 : plan_planner_do_o0_5 a0 a1 a2 = some r) : FnOKv Try.prog 44 [[.d (.int .i64 a0.fleet.Slots), .d (.slice (rowsF api_Consumer_row a0.fleet.Consumers)), .d (.int .i64 a0.state.Known), .d (.int .i64 a0.state.Valid), .d (.slice (rowsF api_Unit_row a0.state.Units)), .vec (InV 0)]] [⟨76, 2, rowsF api_Step_row a0.out⟩] [.ptr (InO 0) 0, .d (.int .i64 a1), .d (.int .i64 a2)] (.tup []) [[.d (.int .i64 r.fleet.Slots), .d (.slice (rowsF api_Consumer_row r.fleet.Consumers)), .d (.int .i64 r.state.Known), .d (.int .i64 r.state.Valid), .d (.slice (rowsF api_Unit_row r.state.Units)), .vec (InV 0)]] [⟨76, 2, rowsF api_Step_row r.out⟩] := by
  unfold plan_planner_do_o0_5 at h0
  refine fn_okv (nt := 41) (rs := []) Try.func44 rfl Try.ntmps44 rfl (by simp) (by decide) rfl fun K => ?_
  refine kr [0, 6] (by simp; rfl) ?_
  refine kd [[], [0], [1], [2], [], [4], [5], [6], [], [3, 7, 8], [9], [10], [10], [], [11, 13], [12, 13]] [13, 14] [(7, [13, 14])] none [] 16 fol (by decide +kernel) (by simp) ?_
  refine dr_go 0 2 rfl (by simp (maxSteps := 1000000); rfl) ?_
  refine dr_go 2 2 rfl (by simp (maxSteps := 1000000); rfl) ?_
  refine dr_go 4 2 rfl (by simp (maxSteps := 1000000); rfl) ?_
  refine dr_go 6 2 rfl (by simp (maxSteps := 1000000); rfl) ?_
  refine dr_go 8 1 rfl (by simp (maxSteps := 1000000); rfl) ?_
  replace h0 := bnd h0; obtain ⟨y1, hy1, h0⟩ := h0
  refine dr_call 9 [] (steps_Apply_ok hy1) rfl rfl rfl rfl rfl Try.call61 (by simp) ?_
  refine dr_go 10 2 rfl (by simp (maxSteps := 1000000); rfl) ?_
  refine dr_go 12 2 rfl (by simp (maxSteps := 1000000); rfl) ?_
  refine dr_go 14 2 rfl (by simp (maxSteps := 1000000); rfl) ?_
  refine dr_end rfl (tops_nil ?_)
  refine kr [0, 6, 7, 26] (by simp; rfl) ?_
  refine tr_cond (b := (y1.2 == 0)) (by simp) (fun c1 => ?_) (fun c1 => ?_)
  · rw [if_pos c1] at h0
    refine kd1 [[], [], [], [], [3], [4], [5], [], [7], [6, 8], [0, 9], [9, 10], [2, 6, 9, 11], [1, 9], [9, 13], [6, 9, 12, 14]] [9, 12, 15] [(1000000, [9, 12, 15])] (some (9, 2000000)) [33] 16 fol (by decide +kernel) (by simp) ?_
    replace h0 := bnd h0; obtain ⟨_, p3, h0⟩ := h0
    replace p3 := ck_some p3
    have p3' := p3; try simp at p3'
    refine dr_go 0 2 rfl (by simp (maxSteps := 1000000) [p3, p3']; rfl) ?_
    refine dr_go 2 2 rfl (by simp (maxSteps := 1000000) [p3, p3']; rfl) ?_
    refine dr_go 4 2 rfl (by simp (maxSteps := 1000000) [p3, p3']; rfl) ?_
    refine dr_go 6 2 rfl (by simp (maxSteps := 1000000) [p3, p3']; rfl) ?_
    refine dr_go 8 2 rfl (by simp (maxSteps := 1000000) [p3, p3']; rfl) ?_
    refine dr_go 10 2 rfl (by simp (maxSteps := 1000000) [p3, p3']; rfl) ?_
    refine dr_go 12 2 rfl (by simp (maxSteps := 1000000) [p3, p3']; rfl) ?_
    refine dr_go 14 2 rfl (by simp (maxSteps := 1000000) [p3, p3']; rfl) ?_
    refine dr_end rfl (tops_nil ?_)
    cases h0
    exact ⟨[], [36], by simp, by simp, by simp, by simp, by simp⟩
  · rw [if_neg (by rw [c1]; decide)] at h0
    refine tr_skip ?_
    cases h0
    exact ⟨[], [2000000], by simp, by simp, by simp, by simp, by simp⟩
set_option maxHeartbeats 1000000 in
theorem plan_planner_serving_o0_5_ok {a0 : plan_planner} {a1 : Int} {a2 : Int} {r : Int × Bool × plan_planner} (h0 : plan_planner_serving_o0_5 a0 a1 a2 = some r) : FnOKv Try.prog 66 [[.d (.int .i64 a0.fleet.Slots), .d (.slice (rowsF api_Consumer_row a0.fleet.Consumers)), .d (.int .i64 a0.state.Known), .d (.int .i64 a0.state.Valid), .d (.slice (rowsF api_Unit_row a0.state.Units)), .vec (InV 0)]] [⟨76, 2, rowsF api_Step_row a0.out⟩] [.ptr (InO 0) 0, .d (.int .i64 a1), .d (.int .i64 a2)] (.tup [.d (.int .i64 r.1), .d (.bool r.2.1)]) [[.d (.int .i64 r.2.2.fleet.Slots), .d (.slice (rowsF api_Consumer_row r.2.2.fleet.Consumers)), .d (.int .i64 r.2.2.state.Known), .d (.int .i64 r.2.2.state.Valid), .d (.slice (rowsF api_Unit_row r.2.2.state.Units)), .vec (InV 0)]] [⟨76, 2, rowsF api_Step_row r.2.2.out⟩] := by
  unfold plan_planner_serving_o0_5 at h0
  refine fn_okv (nt := 35) (rs := [.tmp 6, .tmp 7]) Try.func66 rfl Try.ntmps66 rfl (by simp) (by decide) rfl fun K => ?_
  refine kr [0, 1, 2] (by simp; rfl) ?_
  refine tr_seq ?_
  refine kc ?_
  refine ko [0, 2, 13, 14] 5 (by simp; rfl) ?_
  replace h0 := bnd h0; obtain ⟨y1, hy1, h0⟩ := h0
  refine kcall [0, 2, 15] [] (fleet_Units_ok hy1) rfl rfl rfl Try.call26 (by simp) (by simp; rfl) ?_
  refine ko [0, 2, 15, 16, 17] 2 (by simp; rfl) ?_
  refine tops_nil ?_
  replace h0 := bnd h0; obtain ⟨e1, hI1, h0⟩ := h0
  refine tjv (fun v2 : Unit => ({ nt := 35, env := [], box := [(1000000, [.d (.int .i64 a0.fleet.Slots), .d (.slice (rowsF api_Consumer_row a0.fleet.Consumers)), .d (.int .i64 a0.state.Known), .d (.int .i64 a0.state.Valid), .d (.slice (rowsF api_Unit_row a0.state.Units)), .vec 2000000])], vec := [(2000000, ⟨76, 2, rowsF api_Step_row a0.out⟩)] } : St)) (fun v2 => .inl v2 = e1) (fun v2 hI1e _ W1 => ?_) ?_
  · subst hI1e
    dsimp only at h0
    refine tr_wk W1 ?_
    refine kr [6, 7] (by simp; rfl) ?_
    cases h0
    exact tr_ret ⟨[], [2000000], by simp, by simp, by simp, by simp, by simp⟩
  · refine tr_block (tr_iter (fun s3 : Int => ({ nt := 35, env := [(0, .ptr 1000000 0), (2, .d (.int .i64 a2)), (15, .d (.slice (rowsF (iRow .i64) y1))), (16, .d (.int .i64 ((y1).length : Int))), (17, .d (.int .i64 s3))], box := [(1000000, [.d (.int .i64 a0.fleet.Slots), .d (.slice (rowsF api_Consumer_row a0.fleet.Consumers)), .d (.int .i64 a0.state.Known), .d (.int .i64 a0.state.Valid), .d (.slice (rowsF api_Unit_row a0.state.Units)), .vec 2000000])], vec := [(2000000, ⟨76, 2, rowsF api_Step_row a0.out⟩)] } : St)) hI1 (wk (by simp [weak_iff])) fun G1 s3 o1 h1 hg1 he1 => ?_)
    unfold plan_planner_serving_o0_5_l0 at h1
    refine kr [0, 2, 15, 16, 17, 18] (by simp; rfl) ?_
    refine tr_seq ?_
    refine tr_cond (b := (decide (s3 < ((y1).length : Int)))) (by simp) (fun c5 => ?_) (fun c5 => ?_)
    · rw [if_pos c5] at h1
      refine tr_skip ?_
      refine tr_seq ?_
      refine tr_block ?_
      replace h1 := bnd h1; obtain ⟨x4, p5, h1⟩ := h1
      replace p5 := idx_some p5
      have p5' := p5; try simp at p5'
      refine kr [0, 2, 9, 15, 16, 17] (by simp [p5, p5']; rfl) ?_
      replace h1 := bnd h1; obtain ⟨x5, p6, h1⟩ := h1
      replace p6 := idx_some p6
      have p6' := p6; try simp at p6'
      refine kr [0, 2, 9, 15, 16, 17, 32] (by simp [p6, p6']; rfl) ?_
      refine tr_cond (b := ((bAnd .i64 x5.Used a2) != 0)) (by simp) (fun c6 => ?_) (fun c6 => ?_)
      · rw [if_pos c6] at h1
        refine kr [6, 7] (by simp; rfl) ?_
        have k1 := he1 _ (Option.some.inj h1)
        subst k1
        dsimp only at h0
        cases h0
        exact tr_ret ⟨[], [2000000], by simp, by simp, by simp, by simp, by simp⟩
      · rw [if_neg (by rw [c6]; decide)] at h1
        refine tr_skip ?_
        refine lr (by simp; rfl) ?_
        exact ⟨_, hg1 _ (Option.some.inj h1), wk (by simp [weak_iff])⟩
    · rw [if_neg (by rw [c5]; decide)] at h1
      refine tr_exit ?_
      exact ⟨_, he1 _ (Option.some.inj h1), wk (by simp [weak_iff])⟩
set_option maxHeartbeats 1000000 in
theorem plan_planner_mend_o0_5_ok {a0 : plan_planner} {a1 : Int} {r : plan_planner} (h0 : plan_planner_mend_o0_5 a0 a1 = some r) : FnOKv Try.prog 69 [[.d (.int .i64 a0.fleet.Slots), .d (.slice (rowsF api_Consumer_row a0.fleet.Consumers)), .d (.int .i64 a0.state.Known), .d (.int .i64 a0.state.Valid), .d (.slice (rowsF api_Unit_row a0.state.Units)), .vec (InV 0)]] [⟨76, 2, rowsF api_Step_row a0.out⟩] [.ptr (InO 0) 0, .d (.int .i64 a1)] (.tup []) [[.d (.int .i64 r.fleet.Slots), .d (.slice (rowsF api_Consumer_row r.fleet.Consumers)), .d (.int .i64 r.state.Known), .d (.int .i64 r.state.Valid), .d (.slice (rowsF api_Unit_row r.state.Units)), .vec (InV 0)]] [⟨76, 2, rowsF api_Step_row r.out⟩] := by
  unfold plan_planner_mend_o0_5 at h0
  refine fn_okv (nt := 26) (rs := []) Try.func69 rfl Try.ntmps69 rfl (by simp) (by decide) rfl fun K => ?_
  refine kc ?_
  refine ko [0, 1, 4, 5] 2 (by simp; rfl) ?_
  replace h0 := bnd h0; obtain ⟨y1, hy1, h0⟩ := h0
  refine kcallV [0, 1] [1000000] [2000000] [2000000] (plan_planner_do_o0_5_ok hy1) rfl rfl rfl Try.call44 (by simp) (by simp; rfl) ?_
  refine tops_nil ?_
  refine kc ?_
  refine ko [0, 1, 7, 8] 2 (by simp; rfl) ?_
  replace h0 := bnd h0; obtain ⟨y2, hy2, h0⟩ := h0
  refine kcallV [0, 1] [1000000] [2000000] [2000000] (plan_planner_do_o0_5_ok hy2) rfl rfl rfl Try.call44 (by simp) (by simp; rfl) ?_
  refine tops_nil ?_
  refine sjv (fun v3 : Int × (List api_Consumer) × Int × Int × (List api_Unit) × (List api_Step) => ({ nt := 26, env := [(0, .ptr 1000000 0), (1, .d (.int .i64 a1))], box := [(1000000, [.d (.int .i64 v3.1), .d (.slice (rowsF api_Consumer_row v3.2.1)), .d (.int .i64 v3.2.2.1), .d (.int .i64 v3.2.2.2.1), .d (.slice (rowsF api_Unit_row v3.2.2.2.2.1)), .vec 2000000])], vec := [(2000000, ⟨76, 2, rowsF api_Step_row v3.2.2.2.2.2⟩)] } : St)) (fun v3 => plan_planner_mend_o0_5_j0 a1 v3 = some r) (fun v3 h0 => ?_) ?_
  · unfold plan_planner_mend_o0_5_j0 at h0
    refine kc1 ?_
    refine ko [23, 24] 2 (by simp; rfl) ?_
    replace h0 := bnd h0; obtain ⟨y4, hy4, h0⟩ := h0
    refine kcallV [] [1000000] [2000000] [2000000] (plan_planner_do_o0_5_ok hy4) rfl rfl rfl Try.call44 (by simp) (by simp; rfl) ?_
    refine tops_nil ?_
    cases h0
    exact ⟨[], [2000000], by simp, by simp, by simp, by simp, by simp⟩
  · replace h0 := bnd h0; obtain ⟨x5, p2, h0⟩ := h0
    replace p2 := idx_some p2
    have p2' := p2; try simp at p2'
    refine kr [0, 1, 19] (by simp [p2, p2']; rfl) ?_
    refine tr_cond (b := (x5.Used != 2)) (by simp) (fun c2 => ?_) (fun c2 => ?_)
    · rw [if_pos c2] at h0
      refine kc1 ?_
      refine ko [0, 1, 20, 21] 2 (by simp; rfl) ?_
      replace h0 := bnd h0; obtain ⟨y6, hy6, h0⟩ := h0
      refine kcallV [0, 1] [1000000] [2000000] [2000000] (plan_planner_do_o0_5_ok hy6) rfl rfl rfl Try.call44 (by simp) (by simp; rfl) ?_
      refine tops_nil ?_
      exact ⟨_, h0, wk (by simp [weak_iff])⟩
    · rw [if_neg (by rw [c2]; decide)] at h0
      refine tr_skip ?_
      exact ⟨_, h0, wk (by simp [weak_iff])⟩
set_option maxHeartbeats 1000000 in
theorem plan_planner_prepare_o0_5_ok {a0 : plan_planner} {a1 : Int} {r : plan_planner} (h0 : plan_planner_prepare_o0_5 a0 a1 = some r) : FnOKv Try.prog 45 [[.d (.int .i64 a0.fleet.Slots), .d (.slice (rowsF api_Consumer_row a0.fleet.Consumers)), .d (.int .i64 a0.state.Known), .d (.int .i64 a0.state.Valid), .d (.slice (rowsF api_Unit_row a0.state.Units)), .vec (InV 0)]] [⟨76, 2, rowsF api_Step_row a0.out⟩] [.ptr (InO 0) 0, .d (.int .i64 a1)] (.tup []) [[.d (.int .i64 r.fleet.Slots), .d (.slice (rowsF api_Consumer_row r.fleet.Consumers)), .d (.int .i64 r.state.Known), .d (.int .i64 r.state.Valid), .d (.slice (rowsF api_Unit_row r.state.Units)), .vec (InV 0)]] [⟨76, 2, rowsF api_Step_row r.out⟩] := by
  unfold plan_planner_prepare_o0_5 at h0
  refine fn_okv (nt := 43) (rs := []) Try.func45 rfl Try.ntmps45 rfl (by simp) (by decide) rfl fun K => ?_
  refine tr_seq ?_
  refine kc ?_
  refine ko [0, 1, 11, 12] 2 (by simp; rfl) ?_
  replace h0 := bnd h0; obtain ⟨y1, hy1, h0⟩ := h0
  refine kcallV [0, 1, 13] [1000000] [2000000] [2000000] (plan_planner_serving_o0_5_ok hy1) rfl rfl rfl Try.call66 (by simp) (by simp; rfl) ?_
  refine ko [0, 1, 5] 5 (by simp; rfl) ?_
  refine tops_nil ?_
  refine kr [0, 1, 16] (by simp; rfl) ?_
  refine tr_cond (b := y1.2.1) (by simp) (fun c1 => ?_) (fun c1 => ?_)
  · rw [if_pos c1] at h0
    cases h0
    exact tr_ret ⟨[], [2000000], by simp, by simp, by simp, by simp, by simp⟩
  · rw [if_neg (by rw [c1]; decide)] at h0
    refine tr_skip ?_
    refine kc ?_
    refine ko [0, 1, 18, 19] 2 (by simp; rfl) ?_
    replace h0 := bnd h0; obtain ⟨y2, hy2, h0⟩ := h0
    refine kcallV [0, 1, 20] [1000000] [2000000] [2000000] (plan_planner_serving_o0_5_ok hy2) rfl rfl rfl Try.call66 (by simp) (by simp; rfl) ?_
    refine ko [0, 1, 6] 6 (by simp; rfl) ?_
    refine tops_nil ?_
    refine kc ?_
    refine ko [0, 6, 26, 27] 5 (by simp; rfl) ?_
    replace h0 := bnd h0; obtain ⟨y3, hy3, h0⟩ := h0
    refine kcall [0, 6, 28] [] (fleet_Units_ok hy3) rfl rfl rfl Try.call26 (by simp) (by simp; rfl) ?_
    refine ko [0, 6, 8] 1 (by simp; rfl) ?_
    refine tops_nil ?_
    refine tr_seq ?_
    refine kc ?_
    refine ko [0, 6, 8, 29, 30] 2 (by simp; rfl) ?_
    replace h0 := bnd h0; obtain ⟨y4, hy4, h0⟩ := h0
    refine kcall [0, 6, 8, 31] [6] (slices_IndexFunc_int_at_plan_planner_prepare_1_b_ok hy4) rfl rfl rfl Try.call67 (by simp) (by simp; rfl) ?_
    refine ko [0, 6, 8, 9] 1 (by simp; rfl) ?_
    refine tops_nil ?_
    refine kr [0, 6, 8, 9, 33] (by simp; rfl) ?_
    refine tr_cond (b := (decide (0 ≤ y4.1))) (by simp) (fun c2 => ?_) (fun c2 => ?_)
    · rw [if_pos c2] at h0
      refine kc ?_
      replace h0 := bnd h0; obtain ⟨x5, p1, h0⟩ := h0
      replace p1 := idx_some p1
      have p1' := p1; try simp at p1'
      refine ko [34, 38] 5 (by simp [p1, p1']; rfl) ?_
      replace h0 := bnd h0; obtain ⟨y6, hy6, h0⟩ := h0
      refine kcallV [] [1000000] [2000000] [2000000] (plan_planner_mend_o0_5_ok hy6) rfl rfl rfl Try.call69 (by simp) (by simp; rfl) ?_
      refine tops_nil ?_
      cases h0
      exact tr_ret ⟨[], [2000000], by simp, by simp, by simp, by simp, by simp⟩
    · rw [if_neg (by rw [c2]; decide)] at h0
      refine tr_skip ?_
      refine kc1 ?_
      refine ko [40, 41] 2 (by simp; rfl) ?_
      replace h0 := bnd h0; obtain ⟨y7, hy7, h0⟩ := h0
      refine kcallV [] [1000000] [2000000] [2000000] (plan_planner_do_o0_5_ok hy7) rfl rfl rfl Try.call44 (by simp) (by simp; rfl) ?_
      refine tops_nil ?_
      cases h0
      exact ⟨[], [2000000], by simp, by simp, by simp, by simp, by simp⟩
set_option maxHeartbeats 1000000 in
theorem plan_planner_settle_o0_5_ok {a0 : plan_planner} {a1 : Int} {r : plan_planner} (h0 : plan_planner_settle_o0_5 a0 a1 = some r) : FnOKv Try.prog 46 [[.d (.int .i64 a0.fleet.Slots), .d (.slice (rowsF api_Consumer_row a0.fleet.Consumers)), .d (.int .i64 a0.state.Known), .d (.int .i64 a0.state.Valid), .d (.slice (rowsF api_Unit_row a0.state.Units)), .vec (InV 0)]] [⟨76, 2, rowsF api_Step_row a0.out⟩] [.ptr (InO 0) 0, .d (.int .i64 a1)] (.tup []) [[.d (.int .i64 r.fleet.Slots), .d (.slice (rowsF api_Consumer_row r.fleet.Consumers)), .d (.int .i64 r.state.Known), .d (.int .i64 r.state.Valid), .d (.slice (rowsF api_Unit_row r.state.Units)), .vec (InV 0)]] [⟨76, 2, rowsF api_Step_row r.out⟩] := by
  unfold plan_planner_settle_o0_5 at h0
  refine fn_okv (nt := 40) (rs := []) Try.func46 rfl Try.ntmps46 rfl (by simp) (by decide) rfl fun K => ?_
  refine kc ?_
  refine ko [0, 1, 9, 10, 15] 7 (by simp; rfl) ?_
  replace h0 := bnd h0; obtain ⟨y1, hy1, h0⟩ := h0
  refine kcallV [0, 1, 16] [1000000] [2000000] [2000000] (plan_planner_serving_o0_5_ok hy1) rfl rfl rfl Try.call66 (by simp) (by simp; rfl) ?_
  refine ko [0, 1, 4] 5 (by simp; rfl) ?_
  refine tops_nil ?_
  refine tr_seq ?_
  refine kc ?_
  refine ko [0, 4, 22, 23] 5 (by simp; rfl) ?_
  replace h0 := bnd h0; obtain ⟨y2, hy2, h0⟩ := h0
  refine kcall [0, 4, 24] [] (fleet_Units_ok hy2) rfl rfl rfl Try.call26 (by simp) (by simp; rfl) ?_
  refine ko [0, 4, 24, 25, 26] 2 (by simp; rfl) ?_
  refine tops_nil ?_
  replace h0 := bnd h0; obtain ⟨e1, hI1, h0⟩ := h0
  refine tjv (fun v3 : Int × (List api_Consumer) × Int × Int × (List api_Unit) × (List api_Step) => ({ nt := 40, env := [(0, .ptr 1000000 0), (4, .d (.int .i64 y1.1))], box := [(1000000, [.d (.int .i64 v3.1), .d (.slice (rowsF api_Consumer_row v3.2.1)), .d (.int .i64 v3.2.2.1), .d (.int .i64 v3.2.2.2.1), .d (.slice (rowsF api_Unit_row v3.2.2.2.2.1)), .vec 2000000])], vec := [(2000000, ⟨76, 2, rowsF api_Step_row v3.2.2.2.2.2⟩)] } : St)) (fun v3 => v3 = e1) (fun v3 hI1e _ W1 => ?_) ?_
  · subst hI1e
    refine tr_wk W1 ?_
    refine kc1 ?_
    refine ko [37, 38] 2 (by simp; rfl) ?_
    replace h0 := bnd h0; obtain ⟨y4, hy4, h0⟩ := h0
    refine kcallV [] [1000000] [2000000] [2000000] (plan_planner_mend_o0_5_ok hy4) rfl rfl rfl Try.call69 (by simp) (by simp; rfl) ?_
    refine tops_nil ?_
    cases h0
    exact ⟨[], [2000000], by simp, by simp, by simp, by simp, by simp⟩
  · refine tr_block (tr_iter (fun s5 : Int × Int × (List api_Consumer) × Int × Int × (List api_Unit) × (List api_Step) => ({ nt := 40, env := [(0, .ptr 1000000 0), (4, .d (.int .i64 y1.1)), (24, .d (.slice (rowsF (iRow .i64) y2))), (25, .d (.int .i64 ((y2).length : Int))), (26, .d (.int .i64 s5.1))], box := [(1000000, [.d (.int .i64 s5.2.1), .d (.slice (rowsF api_Consumer_row s5.2.2.1)), .d (.int .i64 s5.2.2.2.1), .d (.int .i64 s5.2.2.2.2.1), .d (.slice (rowsF api_Unit_row s5.2.2.2.2.2.1)), .vec 2000000])], vec := [(2000000, ⟨76, 2, rowsF api_Step_row s5.2.2.2.2.2.2⟩)] } : St)) hI1 (wk (by simp [weak_iff])) fun G1 s5 o1 h1 hg1 he1 => ?_)
    unfold plan_planner_settle_o0_5_l0 at h1
    refine kr [0, 4, 24, 25, 26, 27] (by simp; rfl) ?_
    refine tr_seq ?_
    refine tr_cond (b := (decide (s5.1 < ((y2).length : Int)))) (by simp) (fun c5 => ?_) (fun c5 => ?_)
    · rw [if_pos c5] at h1
      refine tr_skip ?_
      refine tr_seq ?_
      refine tr_block ?_
      replace h1 := bnd h1; obtain ⟨x6, p3, h1⟩ := h1
      replace p3 := idx_some p3
      have p3' := p3; try simp at p3'
      refine kr [0, 4, 7, 24, 25, 26] (by simp [p3, p3']; rfl) ?_
      refine kr [0, 4, 7, 24, 25, 26, 32] (by simp; rfl) ?_
      refine tr_cond (b := (x6 != y1.1)) (by simp) (fun c6 => ?_) (fun c6 => ?_)
      · rw [if_pos c6] at h1
        refine kc1 ?_
        refine ko [0, 4, 24, 25, 26, 33, 34] 2 (by simp; rfl) ?_
        replace h1 := bnd h1; obtain ⟨y7, hy7, h1⟩ := h1
        refine kcallV [0, 4, 24, 25, 26] [1000000] [2000000] [2000000] (plan_planner_mend_o0_5_ok hy7) rfl rfl rfl Try.call69 (by simp) (by simp; rfl) ?_
        refine tops_nil ?_
        refine lr (by simp; rfl) ?_
        exact ⟨_, hg1 _ (Option.some.inj h1), wk (by simp [weak_iff])⟩
      · rw [if_neg (by rw [c6]; decide)] at h1
        refine tr_skip ?_
        refine lr (by simp; rfl) ?_
        exact ⟨_, hg1 _ (Option.some.inj h1), wk (by simp [weak_iff])⟩
    · rw [if_neg (by rw [c5]; decide)] at h1
      refine tr_exit ?_
      exact ⟨_, he1 _ (Option.some.inj h1), wk (by simp [weak_iff])⟩
set_option maxHeartbeats 1000000 in
theorem plan_From_ok {a0 : api_Fleet} {a1 : api_Rotation} {r : (List api_Step)} (h0 : plan_From a0 a1 = some r) : FnOK Try.prog 25 [] [.agg (api_Fleet_av a0), .agg (api_Rotation_av a1)] (.d (.slice (rowsF api_Step_row r))) [] := by
  unfold plan_From at h0
  refine fn_ok (nt := 55) (rs := [.tmp 4]) Try.func25 rfl Try.ntmps25 rfl (by simp) (by decide) rfl fun K => ?_
  refine kr [2, 3] (by simp; rfl) ?_
  refine kr [2, 5] (by simp; rfl) ?_
  refine kc ?_
  refine ko [5, 15] 1 (by simp; rfl) ?_
  replace h0 := bnd h0; obtain ⟨y1, hy1, h0⟩ := h0
  refine kcall [5, 16] [] (fleet_Pools_ok hy1) rfl rfl rfl Try.call15 (by simp) (by simp; rfl) ?_
  refine ko [5, 6] 1 (by simp; rfl) ?_
  refine tops_nil ?_
  refine kc ?_
  refine ko [5, 6, 17] 1 (by simp; rfl) ?_
  refine tops_wk (wk_ownbox 14 5 400565 76 2 (by simp; rfl) (by simp) (by simp)) ?_
  replace h0 := bnd h0; obtain ⟨y2, hy2, h0⟩ := h0
  refine kcallV [5, 6] [14] [400565] [400565] (plan_planner_do_o0_5_ok hy2) rfl rfl rfl Try.call44 (by simp) (by simp; rfl) ?_
  refine tops_nil ?_
  refine kc ?_
  refine ko [5, 6, 19] 1 (by simp; rfl) ?_
  replace h0 := bnd h0; obtain ⟨y3, hy3, h0⟩ := h0
  refine kcallV [5, 6] [14] [400565] [400565] (plan_planner_do_o0_5_ok hy3) rfl rfl rfl Try.call44 (by simp) (by simp; rfl) ?_
  refine tops_nil ?_
  refine sjv (fun v4 : Int × (List api_Consumer) × Int × Int × (List api_Unit) × (List api_Step) => ({ nt := 55, env := [(5, .ptr 14 0), (6, .d (.slice (rowsF (iRow .i64) y1)))], box := [(14, [.d (.int .i64 v4.1), .d (.slice (rowsF api_Consumer_row v4.2.1)), .d (.int .i64 v4.2.2.1), .d (.int .i64 v4.2.2.2.1), .d (.slice (rowsF api_Unit_row v4.2.2.2.2.1)), .vec 400565])], vec := [(400565, ⟨76, 2, rowsF api_Step_row v4.2.2.2.2.2⟩)] } : St)) (fun v4 => plan_From_j0 y1 v4 = some r) (fun v4 h0 => ?_) ?_
  · unfold plan_From_j0 at h0
    refine tr_seq ?_
    refine kr [5, 39, 40, 41] (by simp; rfl) ?_
    replace h0 := bnd h0; obtain ⟨e1, hI1, h0⟩ := h0
    refine tjv (fun v5 : Int × (List api_Consumer) × Int × Int × (List api_Unit) × (List api_Step) => ({ nt := 55, env := [(5, .ptr 14 0)], box := [(14, [.d (.int .i64 v5.1), .d (.slice (rowsF api_Consumer_row v5.2.1)), .d (.int .i64 v5.2.2.1), .d (.int .i64 v5.2.2.2.1), .d (.slice (rowsF api_Unit_row v5.2.2.2.2.1)), .vec 400565])], vec := [(400565, ⟨76, 2, rowsF api_Step_row v5.2.2.2.2.2⟩)] } : St)) (fun v5 => v5 = e1) (fun v5 hI1e _ W1 => ?_) ?_
    · subst hI1e
      refine tr_wk W1 ?_
      refine kc ?_
      refine ko [5, 49] 1 (by simp; rfl) ?_
      replace h0 := bnd h0; obtain ⟨y6, hy6, h0⟩ := h0
      refine kcallV [5] [14] [400565] [400565] (plan_planner_do_o0_5_ok hy6) rfl rfl rfl Try.call44 (by simp) (by simp; rfl) ?_
      refine tops_nil ?_
      refine kr [4] (by simp; rfl) ?_
      cases h0
      exact tr_ret ⟨[400565], by simp, rfl, by simp⟩
    · refine tr_block (tr_iter (fun s7 : Int × Int × (List api_Consumer) × Int × Int × (List api_Unit) × (List api_Step) => ({ nt := 55, env := [(5, .ptr 14 0), (39, .d (.slice (rowsF (iRow .i64) y1))), (40, .d (.int .i64 ((y1).length : Int))), (41, .d (.int .i64 s7.1))], box := [(14, [.d (.int .i64 s7.2.1), .d (.slice (rowsF api_Consumer_row s7.2.2.1)), .d (.int .i64 s7.2.2.2.1), .d (.int .i64 s7.2.2.2.2.1), .d (.slice (rowsF api_Unit_row s7.2.2.2.2.2.1)), .vec 400565])], vec := [(400565, ⟨76, 2, rowsF api_Step_row s7.2.2.2.2.2.2⟩)] } : St)) hI1 (wk (by simp [weak_iff])) fun G1 s7 o1 h1 hg1 he1 => ?_)
      unfold plan_From_l1 at h1
      refine kr [5, 39, 40, 41, 42] (by simp; rfl) ?_
      refine tr_seq ?_
      refine tr_cond (b := (decide (s7.1 < ((y1).length : Int)))) (by simp) (fun c6 => ?_) (fun c6 => ?_)
      · rw [if_pos c6] at h1
        refine tr_skip ?_
        refine tr_seq ?_
        refine tr_block ?_
        replace h1 := bnd h1; obtain ⟨x8, p5, h1⟩ := h1
        replace p5 := idx_some p5
        have p5' := p5; try simp at p5'
        refine kr [5, 10, 39, 40, 41] (by simp [p5, p5']; rfl) ?_
        refine kc1 ?_
        refine ko [5, 39, 40, 41, 45, 46] 2 (by simp; rfl) ?_
        replace h1 := bnd h1; obtain ⟨y9, hy9, h1⟩ := h1
        refine kcallV [5, 39, 40, 41] [14] [400565] [400565] (plan_planner_settle_o0_5_ok hy9) rfl rfl rfl Try.call46 (by simp) (by simp; rfl) ?_
        refine tops_nil ?_
        refine lr (by simp; rfl) ?_
        exact ⟨_, hg1 _ (Option.some.inj h1), wk (by simp [weak_iff])⟩
      · rw [if_neg (by rw [c6]; decide)] at h1
        refine tr_exit ?_
        exact ⟨_, he1 _ (Option.some.inj h1), wk (by simp [weak_iff])⟩
  · refine kr [5, 6, 26] (by simp; rfl) ?_
    refine tr_cond (b := (y3.state.Valid == 1)) (by simp) (fun c7 => ?_) (fun c7 => ?_)
    · rw [if_pos c7] at h0
      refine tr_seq ?_
      refine kr [5, 6, 27, 28, 29] (by simp; rfl) ?_
      replace h0 := bnd h0; obtain ⟨e2, hI2, h0⟩ := h0
      refine tjv (fun v10 : Int × (List api_Consumer) × Int × Int × (List api_Unit) × (List api_Step) => ({ nt := 55, env := [(5, .ptr 14 0), (6, .d (.slice (rowsF (iRow .i64) y1)))], box := [(14, [.d (.int .i64 v10.1), .d (.slice (rowsF api_Consumer_row v10.2.1)), .d (.int .i64 v10.2.2.1), .d (.int .i64 v10.2.2.2.1), .d (.slice (rowsF api_Unit_row v10.2.2.2.2.1)), .vec 400565])], vec := [(400565, ⟨76, 2, rowsF api_Step_row v10.2.2.2.2.2⟩)] } : St)) (fun v10 => v10 = e2) (fun v10 hI2e _ W2 => ?_) ?_
      · subst hI2e
        refine tr_wk W2 ?_
        refine kc1 ?_
        refine ko [5, 6, 37] 1 (by simp; rfl) ?_
        replace h0 := bnd h0; obtain ⟨y11, hy11, h0⟩ := h0
        refine kcallV [5, 6] [14] [400565] [400565] (plan_planner_do_o0_5_ok hy11) rfl rfl rfl Try.call44 (by simp) (by simp; rfl) ?_
        refine tops_nil ?_
        exact ⟨_, h0, wk (by simp [weak_iff])⟩
      · refine tr_block (tr_iter (fun s12 : Int × Int × (List api_Consumer) × Int × Int × (List api_Unit) × (List api_Step) => ({ nt := 55, env := [(5, .ptr 14 0), (6, .d (.slice (rowsF (iRow .i64) y1))), (27, .d (.slice (rowsF (iRow .i64) y1))), (28, .d (.int .i64 ((y1).length : Int))), (29, .d (.int .i64 s12.1))], box := [(14, [.d (.int .i64 s12.2.1), .d (.slice (rowsF api_Consumer_row s12.2.2.1)), .d (.int .i64 s12.2.2.2.1), .d (.int .i64 s12.2.2.2.2.1), .d (.slice (rowsF api_Unit_row s12.2.2.2.2.2.1)), .vec 400565])], vec := [(400565, ⟨76, 2, rowsF api_Step_row s12.2.2.2.2.2.2⟩)] } : St)) hI2 (wk (by simp [weak_iff])) fun G2 s12 o2 h2 hg2 he2 => ?_)
        unfold plan_From_l2 at h2
        refine kr [5, 6, 27, 28, 29, 30] (by simp; rfl) ?_
        refine tr_seq ?_
        refine tr_cond (b := (decide (s12.1 < ((y1).length : Int)))) (by simp) (fun c10 => ?_) (fun c10 => ?_)
        · rw [if_pos c10] at h2
          refine tr_skip ?_
          refine tr_seq ?_
          refine tr_block ?_
          replace h2 := bnd h2; obtain ⟨x13, p8, h2⟩ := h2
          replace p8 := idx_some p8
          have p8' := p8; try simp at p8'
          refine kr [5, 6, 8, 27, 28, 29] (by simp [p8, p8']; rfl) ?_
          refine kc1 ?_
          refine ko [5, 6, 27, 28, 29, 33, 34] 2 (by simp; rfl) ?_
          replace h2 := bnd h2; obtain ⟨y14, hy14, h2⟩ := h2
          refine kcallV [5, 6, 27, 28, 29] [14] [400565] [400565] (plan_planner_prepare_o0_5_ok hy14) rfl rfl rfl Try.call45 (by simp) (by simp; rfl) ?_
          refine tops_nil ?_
          refine lr (by simp; rfl) ?_
          exact ⟨_, hg2 _ (Option.some.inj h2), wk (by simp [weak_iff])⟩
        · rw [if_neg (by rw [c10]; decide)] at h2
          refine tr_exit ?_
          exact ⟨_, he2 _ (Option.some.inj h2), wk (by simp [weak_iff])⟩
    · rw [if_neg (by rw [c7]; decide)] at h0
      refine tr_skip ?_
      exact ⟨_, h0, wk (by simp [weak_iff])⟩
set_option maxHeartbeats 1000000 in
theorem plan_Make_ok {a0 : api_Fleet} {r : (List api_Step) × Int} (h0 : plan_Make a0 = some r) : FnOK Try.prog 7 [] [.agg (api_Fleet_av a0)] (.tup [.d (.slice (rowsF api_Step_row r.1)), .d (.int .i64 r.2)]) [] := by
  unfold plan_Make at h0
  refine fn_ok (nt := 25) (rs := [.tmp 2, .tmp 3]) Try.func7 rfl Try.ntmps7 rfl (by simp) (by decide) rfl fun K => ?_
  refine kr [1] (by simp; rfl) ?_
  refine kc ?_
  refine ko [1, 9] 1 (by simp; rfl) ?_
  replace h0 := bnd h0; obtain ⟨y1, hy1, h0⟩ := h0
  refine kcall [1, 10] [] (fleet_Start_ok hy1) rfl rfl rfl Try.call6 (by simp) (by simp; rfl) ?_
  refine ko [1, 4, 5] 6 (by simp; rfl) ?_
  refine tops_nil ?_
  refine tr_seq ?_
  refine kr [1, 4, 5, 14] (by simp; rfl) ?_
  refine tr_cond (b := (y1.2 != 0)) (by simp) (fun c1 => ?_) (fun c1 => ?_)
  · rw [if_pos c1] at h0
    refine kr [2, 3] (by simp; rfl) ?_
    cases h0
    exact tr_ret ⟨[], by simp, rfl, by simp⟩
  · rw [if_neg (by rw [c1]; decide)] at h0
    refine tr_skip ?_
    refine tr_seq ?_
    refine kc ?_
    refine ko [1, 4, 17] 1 (by simp; rfl) ?_
    replace h0 := bnd h0; obtain ⟨y2, hy2, h0⟩ := h0
    refine kcall [1, 4, 18] [] (plan_Why_ok hy2) rfl rfl rfl Try.call8 (by simp) (by simp; rfl) ?_
    refine ko [1, 4, 7] 6 (by simp; rfl) ?_
    refine tops_nil ?_
    refine kr [1, 4, 21] (by simp; rfl) ?_
    refine tr_cond (b := y2.2) (by simp) (fun c2 => ?_) (fun c2 => ?_)
    · rw [if_pos c2] at h0
      refine kr [2, 3] (by simp; rfl) ?_
      cases h0
      exact tr_ret ⟨[], by simp, rfl, by simp⟩
    · rw [if_neg (by rw [c2]; decide)] at h0
      refine tr_skip ?_
      refine kc ?_
      refine ko [22, 23] 2 (by simp; rfl) ?_
      replace h0 := bnd h0; obtain ⟨y3, hy3, h0⟩ := h0
      refine kcall [24] [] (plan_From_ok hy3) rfl rfl rfl Try.call25 (by simp) (by simp; rfl) ?_
      refine ko [2, 3] 2 (by simp; rfl) ?_
      refine tops_nil ?_
      cases h0
      exact tr_ret ⟨[], by simp, rfl, by simp⟩
set_option maxHeartbeats 1000000 in
theorem steps_check_ok {a0 : api_Fleet} {a1 : api_Rotation} {a2 : List api_Step} {r : Int} (h0 : steps_check a0 a1 a2 = some r) : FnOK Try.prog 60 [] [.agg (api_Fleet_av a0), .agg (api_Rotation_av a1), .d (.slice (rowsF api_Step_row a2))] (.d (.int .i64 r)) [] := by
  unfold steps_check at h0
  refine fn_ok (nt := 16) (rs := [.tmp 6]) Try.func60 rfl Try.ntmps60 rfl (by simp) (by decide) rfl fun K => ?_
  refine kr [2, 3, 4] (by simp; rfl) ?_
  refine tr_seq ?_
  refine tr_block ?_
  refine kc ?_
  refine ko [2, 8, 9] 2 (by simp; rfl) ?_
  replace h0 := bnd h0; obtain ⟨y1, hy1, h0⟩ := h0
  refine kcall [2, 10] [] (fleet_Right_ok hy1) rfl rfl rfl Try.call30 (by simp) (by simp; rfl) ?_
  refine ko [2, 7] 2 (by simp; rfl) ?_
  refine tops_nil ?_
  refine tr_cond (b := (!y1)) (by simp) (fun c1 => ?_) (fun c1 => ?_)
  · rw [if_pos c1] at h0
    refine kr [6] (by simp; rfl) ?_
    cases h0
    exact tr_ret ⟨[], by simp, rfl, by simp⟩
  · rw [if_neg (by rw [c1]; decide)] at h0
    refine kr [12] (by simp; rfl) ?_
    refine tr_cond (b := (decide (120 < ((a2).length : Int)))) (by simp) (fun c2 => ?_) (fun c2 => ?_)
    · rw [if_pos c2] at h0
      refine kr [6] (by simp; rfl) ?_
      cases h0
      exact tr_ret ⟨[], by simp, rfl, by simp⟩
    · rw [if_neg (by rw [c2]; decide)] at h0
      refine tr_skip ?_
      refine kr [6] (by simp; rfl) ?_
      cases h0
      exact tr_ret ⟨[], by simp, rfl, by simp⟩
set_option maxHeartbeats 1000000 in
theorem fleet_Served_ok {a0 : api_Fleet} {a1 : api_Rotation} {r : (List Int)} (h0 : fleet_Served a0 a1 = some r) : FnOK Try.prog 14 [] [.agg (api_Fleet_av a0), .agg (api_Rotation_av a1)] (.d (.slice (rowsF (iRow .i64) r))) [] := by
  unfold fleet_Served at h0
  refine fn_ok (nt := 40) (rs := [.tmp 4]) Try.func14 rfl Try.ntmps14 rfl (by simp) (by decide) rfl fun K => ?_
  refine kr [2, 3] (by simp; rfl) ?_
  refine tr_seq ?_
  refine kc ?_
  refine ko [2, 3, 8, 9] 2 (by simp; rfl) ?_
  replace h0 := bnd h0; obtain ⟨y1, hy1, h0⟩ := h0
  refine kcall [2, 3, 10] [] (fleet_Right_ok hy1) rfl rfl rfl Try.call30 (by simp) (by simp; rfl) ?_
  refine ko [2, 3, 11] 1 (by simp; rfl) ?_
  refine tops_nil ?_
  refine tr_cond (b := (!y1)) (by simp) (fun c1 => ?_) (fun c1 => ?_)
  · rw [if_pos c1] at h0
    refine kr [4] (by simp; rfl) ?_
    cases h0
    exact tr_ret ⟨[], by simp, rfl, by simp⟩
  · rw [if_neg (by rw [c1]; decide)] at h0
    refine tr_skip ?_
    refine kr [2, 3, 5] (by simp; rfl) ?_
    refine tr_seq ?_
    refine kr [3, 5, 13, 14, 15] (by simp; rfl) ?_
    refine tr_wk (wk_own 5 34 3 1 (by simp) (by simp)) ?_
    replace h0 := bnd h0; obtain ⟨e1, hI1, h0⟩ := h0
    refine tjv (fun v2 : (List Int) => ({ nt := 40, env := [(5, .vec 34)], box := [], vec := [(34, ⟨3, 1, rowsF (iRow .i64) v2⟩)] } : St)) (fun v2 => v2 = e1) (fun v2 hI1e _ W1 => ?_) ?_
    · subst hI1e
      refine tr_wk W1 ?_
      refine kc ?_
      refine ko [5, 36] 1 (by simp; rfl) ?_
      replace h0 := bnd h0; obtain ⟨y3, hy3, h0⟩ := h0
      refine kcallH [5] [] [34] [(5, 34), (36, 34)] (slices_Sort_int_vec0_ok hy3) rfl rfl rfl Try.call31 (by simp) (by simp; rfl) ?_
      refine tops_nil ?_
      refine kc ?_
      refine ko [38] 1 (by simp; rfl) ?_
      replace h0 := bnd h0; obtain ⟨y4, hy4, h0⟩ := h0
      refine kcallV [39] [] [34] [600156] (slices_Compact_int_eat0_own0_ok hy4) rfl rfl rfl Try.call32 (by simp) (by simp; rfl) ?_
      refine ko [4] 1 (by simp; rfl) ?_
      refine tops_nil ?_
      cases h0
      exact tr_ret ⟨[600156], by simp, rfl, by simp⟩
    · refine tr_block (tr_iter (fun s5 : Int × (List Int) => ({ nt := 40, env := [(3, .ptr 3 0), (5, .vec 34), (13, .d (.slice (rowsF api_Consumer_row a0.Consumers))), (14, .d (.int .i64 ((a0.Consumers).length : Int))), (15, .d (.int .i64 s5.1))], box := [(3, [.d (.int .i64 a1.Known), .d (.int .i64 a1.Valid), .d (.slice (rowsF api_Unit_row a1.Units))])], vec := [(34, ⟨3, 1, rowsF (iRow .i64) s5.2⟩)] } : St)) hI1 (wk (by simp [weak_iff])) fun G1 s5 o1 h1 hg1 he1 => ?_)
      unfold fleet_Served_l0 at h1
      refine kr [3, 5, 13, 14, 15, 16] (by simp; rfl) ?_
      refine tr_seq ?_
      refine tr_cond (b := (decide (s5.1 < ((a0.Consumers).length : Int)))) (by simp) (fun c8 => ?_) (fun c8 => ?_)
      · rw [if_pos c8] at h1
        refine tr_skip ?_
        refine tr_seq ?_
        refine tr_block ?_
        replace h1 := bnd h1; obtain ⟨x6, p15, h1⟩ := h1
        replace p15 := idx_some p15
        have p15' := p15; try simp at p15'
        refine kr [3, 5, 6, 7, 13, 14, 15] (by simp [p15, p15']; rfl) ?_
        refine kd [[], [0], [], [1, 2], [3], [4], [], [6], [5, 7], [8]] [] [] none [] 10 fol (by decide +kernel) (by simp) ?_
        replace h1 := bnd h1; obtain ⟨x7, p18, h1⟩ := h1
        replace p18 := idx_some p18
        have p18' := p18; try simp at p18'
        refine dr_go 0 2 rfl (by simp (maxSteps := 1000000) [p18, p18']; rfl) ?_
        refine dr_go 2 2 rfl (by simp (maxSteps := 1000000) [p18, p18']; rfl) ?_
        refine dr_go 4 2 rfl (by simp (maxSteps := 1000000) [p18, p18']; rfl) ?_
        refine dr_go 6 2 rfl (by simp (maxSteps := 1000000) [p18, p18']; rfl) ?_
        refine dr_go 8 2 rfl (by simp (maxSteps := 1000000) [p18, p18']; rfl) ?_
        refine dr_end rfl (tops_nil ?_)
        refine tr_cond (b := ((bAnd .i64 x7.Used a1.Valid) != 0)) (by simp) (fun c9 => ?_) (fun c9 => ?_)
        · rw [if_pos c9] at h1
          replace h1 := bnd h1; obtain ⟨_, p19, h1⟩ := h1
          replace p19 := ck_some p19
          have p19' := p19; try simp at p19'
          refine lr (by simp [p19, p19']; rfl) ?_
          refine lr (by simp; rfl) ?_
          exact ⟨_, hg1 _ (Option.some.inj h1), wk (by simp [weak_iff])⟩
        · rw [if_neg (by rw [c9]; decide)] at h1
          refine tr_skip ?_
          refine lr (by simp; rfl) ?_
          exact ⟨_, hg1 _ (Option.some.inj h1), wk (by simp [weak_iff])⟩
      · rw [if_neg (by rw [c8]; decide)] at h1
        refine tr_exit ?_
        exact ⟨_, he1 _ (Option.some.inj h1), wk (by simp [weak_iff])⟩
set_option maxHeartbeats 1000000 in
theorem slices_Index_int_ok {a0 : List Int} {a1 : Int} {r : Int} (h0 : slices_Index_int a0 a1 = some r) : FnOK Try.prog 98 [] [.d (.slice (rowsF (iRow .i64) a0)), .d (.int .i64 a1)] (.d (.int .i64 r)) [] := by
  unfold slices_Index_int at h0
  refine fn_ok (nt := 19) (rs := [.tmp 4]) Try.func98 rfl Try.ntmps98 rfl (by simp) (by decide) rfl fun K => ?_
  refine kr [0, 1] (by simp; rfl) ?_
  refine tr_seq ?_
  refine kr [0, 1, 7, 8] (by simp; rfl) ?_
  replace h0 := bnd h0; obtain ⟨e1, hI1, h0⟩ := h0
  refine tjv (fun v1 : Unit => ({ nt := 19, env := [], box := [], vec := [] } : St)) (fun v1 => .inl v1 = e1) (fun v1 hI1e _ W1 => ?_) ?_
  · subst hI1e
    dsimp only at h0
    refine tr_wk W1 ?_
    refine kr [4] (by simp; rfl) ?_
    cases h0
    exact tr_ret ⟨[], by simp, rfl, by simp⟩
  · refine tr_block (tr_iter (fun s2 : Int => ({ nt := 19, env := [(0, .d (.slice (rowsF (iRow .i64) a0))), (1, .d (.int .i64 a1)), (7, .d (.int .i64 ((a0).length : Int))), (8, .d (.int .i64 s2))], box := [], vec := [] } : St)) hI1 (wk (by simp [weak_iff])) fun G1 s2 o1 h1 hg1 he1 => ?_)
    unfold slices_Index_int_l0 at h1
    refine kr [0, 1, 7, 8, 9] (by simp; rfl) ?_
    refine tr_seq ?_
    refine tr_cond (b := (decide (s2 < ((a0).length : Int)))) (by simp) (fun c5 => ?_) (fun c5 => ?_)
    · rw [if_pos c5] at h1
      refine tr_skip ?_
      refine tr_seq ?_
      refine tr_block ?_
      refine kr [0, 1, 5, 7, 8] (by simp; rfl) ?_
      replace h1 := bnd h1; obtain ⟨x3, p3, h1⟩ := h1
      replace p3 := idx_some p3
      have p3' := p3; try simp at p3'
      refine kr [0, 1, 5, 7, 8, 16] (by simp [p3, p3']; rfl) ?_
      refine tr_cond (b := (a1 == x3)) (by simp) (fun c6 => ?_) (fun c6 => ?_)
      · rw [if_pos c6] at h1
        refine kr [4] (by simp; rfl) ?_
        have k1 := he1 _ (Option.some.inj h1)
        subst k1
        dsimp only at h0
        cases h0
        exact tr_ret ⟨[], by simp, rfl, by simp⟩
      · rw [if_neg (by rw [c6]; decide)] at h1
        refine tr_skip ?_
        refine lr (by simp; rfl) ?_
        exact ⟨_, hg1 _ (Option.some.inj h1), wk (by simp [weak_iff])⟩
    · rw [if_neg (by rw [c5]; decide)] at h1
      refine tr_exit ?_
      exact ⟨_, he1 _ (Option.some.inj h1), wk (by simp [weak_iff])⟩
set_option maxHeartbeats 1000000 in
theorem slices_Contains_int_ok {a0 : List Int} {a1 : Int} {r : Bool} (h0 : slices_Contains_int a0 a1 = some r) : FnOK Try.prog 89 [] [.d (.slice (rowsF (iRow .i64) a0)), .d (.int .i64 a1)] (.d (.bool r)) [] := by
  unfold slices_Contains_int at h0
  refine fn_ok (nt := 9) (rs := [.tmp 4]) Try.func89 rfl Try.ntmps89 rfl (by simp) (by decide) rfl fun K => ?_
  refine kr [0, 1] (by simp; rfl) ?_
  refine kc ?_
  refine ko [5, 6] 2 (by simp; rfl) ?_
  replace h0 := bnd h0; obtain ⟨y1, hy1, h0⟩ := h0
  refine kcall [7] [] (slices_Index_int_ok hy1) rfl rfl rfl Try.call98 (by simp) (by simp; rfl) ?_
  refine ko [4] 2 (by simp; rfl) ?_
  refine tops_nil ?_
  cases h0
  exact tr_ret ⟨[], by simp, rfl, by simp⟩
set_option maxHeartbeats 1000000 in
theorem steps_holds_1_cb_ok {a0 : Int} {a1 : List Int} {r : Bool × (List Int)} (h0 : steps_holds_1_cb a0 a1 = some r) : FnOK Try.prog 88 [[.d (.slice (rowsF (iRow .i64) a1))]] [.d (.int .i64 a0), .ptr (InO 0) 0] (.d (.bool r.1)) [[.d (.slice (rowsF (iRow .i64) r.2))]] := by
  unfold steps_holds_1_cb at h0
  refine fn_ok (nt := 8) (rs := [.tmp 3]) Try.func88 rfl Try.ntmps88 rfl (by simp) (by decide) rfl fun K => ?_
  refine kr [0, 1] (by simp; rfl) ?_
  refine kc ?_
  refine ko [4, 5] 2 (by simp; rfl) ?_
  replace h0 := bnd h0; obtain ⟨y1, hy1, h0⟩ := h0
  refine kcall [6] [] (slices_Contains_int_ok hy1) rfl rfl rfl Try.call89 (by simp) (by simp; rfl) ?_
  refine ko [3] 2 (by simp; rfl) ?_
  refine tops_nil ?_
  cases h0
  exact tr_ret ⟨[], by simp, rfl, by simp⟩
set_option maxHeartbeats 1000000 in
theorem slices_IndexFunc_int_at_steps_holds_1_b_ok {a0 : List Int} {b10 : List Int} {r : Int × (List Int)} (h0 : slices_IndexFunc_int_at_steps_holds_1_b a0 b10 = some r) : FnOK Try.prog 67 [[.d (.slice (rowsF (iRow .i64) b10))]] [.d (.slice (rowsF (iRow .i64) a0)), .fn 88 [.ptr (InO 0) 0]] (.d (.int .i64 r.1)) [[.d (.slice (rowsF (iRow .i64) r.2))]] := by
  unfold slices_IndexFunc_int_at_steps_holds_1_b at h0
  refine fn_ok (nt := 19) (rs := [.tmp 4]) Try.func67 rfl Try.ntmps67 rfl (by simp) (by decide) rfl fun K => ?_
  refine kr [0, 1] (by simp; rfl) ?_
  refine tr_seq ?_
  refine kr [0, 1, 7, 8] (by simp; rfl) ?_
  replace h0 := bnd h0; obtain ⟨e1, hI1, h0⟩ := h0
  refine tjv (fun v1 : (List Int) => ({ nt := 19, env := [], box := [(1000000, [.d (.slice (rowsF (iRow .i64) v1))])], vec := [] } : St)) (fun v1 => .inl v1 = e1) (fun v1 hI1e _ W1 => ?_) ?_
  · subst hI1e
    dsimp only at h0
    refine tr_wk W1 ?_
    refine kr [4] (by simp; rfl) ?_
    cases h0
    exact tr_ret ⟨[], by simp, rfl, by simp⟩
  · refine tr_block (tr_iter (fun s2 : Int × (List Int) => ({ nt := 19, env := [(0, .d (.slice (rowsF (iRow .i64) a0))), (1, .fn 88 [.ptr 1000000 0]), (7, .d (.int .i64 ((a0).length : Int))), (8, .d (.int .i64 s2.1))], box := [(1000000, [.d (.slice (rowsF (iRow .i64) s2.2))])], vec := [] } : St)) hI1 (wk (by simp [weak_iff])) fun G1 s2 o1 h1 hg1 he1 => ?_)
    unfold slices_IndexFunc_int_at_steps_holds_1_b_l0 at h1
    refine kr [0, 1, 7, 8, 9] (by simp; rfl) ?_
    refine tr_seq ?_
    refine tr_cond (b := (decide (s2.1 < ((a0).length : Int)))) (by simp) (fun c5 => ?_) (fun c5 => ?_)
    · rw [if_pos c5] at h1
      refine tr_skip ?_
      refine tr_seq ?_
      refine tr_block ?_
      refine kr [0, 1, 5, 7, 8] (by simp; rfl) ?_
      refine kc ?_
      replace h1 := bnd h1; obtain ⟨x3, p3, h1⟩ := h1
      replace p3 := idx_some p3
      have p3' := p3; try simp at p3'
      refine ko [0, 1, 5, 7, 8, 11, 15] 5 (by simp [p3, p3']; rfl) ?_
      replace h1 := bnd h1; obtain ⟨y4, hy4, h1⟩ := h1
      refine kcallV [0, 1, 5, 7, 8, 16] [1000000] [] [] (steps_holds_1_cb_ok hy4) rfl rfl rfl Try.call88 (by simp) (by simp; rfl) ?_
      refine tops_nil ?_
      refine tr_cond (b := y4.1) (by simp) (fun c6 => ?_) (fun c6 => ?_)
      · rw [if_pos c6] at h1
        refine kr [4] (by simp; rfl) ?_
        have k1 := he1 _ (Option.some.inj h1)
        subst k1
        dsimp only at h0
        cases h0
        exact tr_ret ⟨[], by simp, rfl, by simp⟩
      · rw [if_neg (by rw [c6]; decide)] at h1
        refine tr_skip ?_
        refine lr (by simp; rfl) ?_
        exact ⟨_, hg1 _ (Option.some.inj h1), wk (by simp [weak_iff])⟩
    · rw [if_neg (by rw [c5]; decide)] at h1
      refine tr_exit ?_
      exact ⟨_, he1 _ (Option.some.inj h1), wk (by simp [weak_iff])⟩
set_option maxHeartbeats 1000000 in
theorem slices_ContainsFunc_int_at_steps_holds_1_b_ok {a0 : List Int} {b10 : List Int} {r : Bool × (List Int)} (h0 : slices_ContainsFunc_int_at_steps_holds_1_b a0 b10 = some r) : FnOK Try.prog 72 [[.d (.slice (rowsF (iRow .i64) b10))]] [.d (.slice (rowsF (iRow .i64) a0)), .fn 88 [.ptr (InO 0) 0]] (.d (.bool r.1)) [[.d (.slice (rowsF (iRow .i64) r.2))]] := by
  unfold slices_ContainsFunc_int_at_steps_holds_1_b at h0
  refine fn_ok (nt := 9) (rs := [.tmp 4]) Try.func72 rfl Try.ntmps72 rfl (by simp) (by decide) rfl fun K => ?_
  refine kr [0, 1] (by simp; rfl) ?_
  refine kc ?_
  refine ko [5, 6] 2 (by simp; rfl) ?_
  replace h0 := bnd h0; obtain ⟨y1, hy1, h0⟩ := h0
  refine kcall [7] [1000000] (slices_IndexFunc_int_at_steps_holds_1_b_ok hy1) rfl rfl rfl Try.call67 (by simp) (by simp; rfl) ?_
  refine ko [4] 2 (by simp; rfl) ?_
  refine tops_nil ?_
  cases h0
  exact tr_ret ⟨[], by simp, rfl, by simp⟩
set_option maxHeartbeats 1000000 in
theorem steps_holds_ok {a0 : api_Fleet} {a1 : api_Rotation} {a2 : api_Rotation} {r : Bool} (h0 : steps_holds a0 a1 a2 = some r) : FnOK Try.prog 62 [] [.agg (api_Fleet_av a0), .agg (api_Rotation_av a1), .agg (api_Rotation_av a2)] (.d (.bool r)) [] := by
  unfold steps_holds at h0
  refine fn_ok (nt := 17) (rs := [.tmp 6]) Try.func62 rfl Try.ntmps62 rfl (by simp) (by decide) rfl fun K => ?_
  refine kr [3, 4, 5] (by simp; rfl) ?_
  refine kc ?_
  refine ko [3, 4, 8, 9] 2 (by simp; rfl) ?_
  replace h0 := bnd h0; obtain ⟨y1, hy1, h0⟩ := h0
  refine kcall [3, 4, 10] [] (fleet_Served_ok hy1) rfl rfl rfl Try.call14 (by simp) (by simp; rfl) ?_
  refine ko [3, 4, 7] 2 (by simp; rfl) ?_
  refine tops_nil ?_
  refine kc ?_
  refine ko [7, 11, 12] 2 (by simp; rfl) ?_
  replace h0 := bnd h0; obtain ⟨y2, hy2, h0⟩ := h0
  refine kcall [7, 13] [] (fleet_Served_ok hy2) rfl rfl rfl Try.call14 (by simp) (by simp; rfl) ?_
  refine ko [13, 14] 1 (by simp; rfl) ?_
  replace h0 := bnd h0; obtain ⟨y3, hy3, h0⟩ := h0
  refine kcall [15] [7] (slices_ContainsFunc_int_at_steps_holds_1_b_ok hy3) rfl rfl rfl Try.call72 (by simp) (by simp; rfl) ?_
  refine ko [6] 2 (by simp; rfl) ?_
  refine tops_nil ?_
  cases h0
  exact tr_ret ⟨[], by simp, rfl, by simp⟩
set_option maxHeartbeats 1000000 in
theorem steps_Fault_ok {a0 : api_Fleet} {a1 : api_Rotation} {a2 : List api_Step} {r : Int × Int} (h0 : steps_Fault a0 a1 a2 = some r) : FnOK Try.prog 35 [] [.agg (api_Fleet_av a0), .agg (api_Rotation_av a1), .d (.slice (rowsF api_Step_row a2))] (.tup [.d (.int .i64 r.1), .d (.int .i64 r.2)]) [] := by
  unfold steps_Fault at h0
  refine fn_ok (nt := 50) (rs := [.tmp 6, .tmp 7]) Try.func35 rfl Try.ntmps35 rfl (by simp) (by decide) rfl fun K => ?_
  refine kr [2, 3, 4] (by simp; rfl) ?_
  refine tr_seq ?_
  refine kc ?_
  refine ko [2, 3, 4, 13, 14, 15] 3 (by simp; rfl) ?_
  replace h0 := bnd h0; obtain ⟨y1, hy1, h0⟩ := h0
  refine kcall [2, 3, 4, 16] [] (steps_check_ok hy1) rfl rfl rfl Try.call60 (by simp) (by simp; rfl) ?_
  refine ko [2, 3, 4, 8] 1 (by simp; rfl) ?_
  refine tops_nil ?_
  refine kr [2, 3, 4, 8, 18] (by simp; rfl) ?_
  refine tr_cond (b := (y1 != 0)) (by simp) (fun c1 => ?_) (fun c1 => ?_)
  · rw [if_pos c1] at h0
    refine kr [6, 7] (by simp; rfl) ?_
    cases h0
    exact tr_ret ⟨[], by simp, rfl, by simp⟩
  · rw [if_neg (by rw [c1]; decide)] at h0
    refine tr_skip ?_
    refine tr_seq ?_
    refine kr [2, 3, 4, 20, 21, 22] (by simp; rfl) ?_
    replace h0 := bnd h0; obtain ⟨e1, hI1, h0⟩ := h0
    refine tjv (fun v2 : Unit => ({ nt := 50, env := [(2, .d (.slice (rowsF api_Step_row a2)))], box := [], vec := [] } : St)) (fun v2 => .inl v2 = e1) (fun v2 hI1e _ W1 => ?_) ?_
    · subst hI1e
      dsimp only at h0
      refine tr_wk W1 ?_
      refine kr [6, 7] (by simp; rfl) ?_
      cases h0
      exact tr_ret ⟨[], by simp, rfl, by simp⟩
    · refine tr_block (tr_iter (fun s3 : Int × Int × Int × (List api_Unit) => ({ nt := 50, env := [(2, .d (.slice (rowsF api_Step_row a2))), (3, .ptr 3 0), (4, .ptr 4 0), (20, .d (.slice (rowsF api_Step_row a2))), (21, .d (.int .i64 ((a2).length : Int))), (22, .d (.int .i64 s3.1))], box := [(3, [.d (.int .i64 a0.Slots), .d (.slice (rowsF api_Consumer_row a0.Consumers))]), (4, [.d (.int .i64 s3.2.1), .d (.int .i64 s3.2.2.1), .d (.slice (rowsF api_Unit_row s3.2.2.2))])], vec := [] } : St)) hI1 (wk (by simp [weak_iff])) fun G1 s3 o1 h1 hg1 he1 => ?_)
      unfold steps_Fault_l0 at h1
      refine kr [2, 3, 4, 20, 21, 22, 23] (by simp; rfl) ?_
      refine tr_seq ?_
      refine tr_cond (b := (decide (s3.1 < ((a2).length : Int)))) (by simp) (fun c8 => ?_) (fun c8 => ?_)
      · rw [if_pos c8] at h1
        refine tr_skip ?_
        refine tr_seq ?_
        refine tr_block ?_
        replace h1 := bnd h1; obtain ⟨x4, p3, h1⟩ := h1
        replace p3 := idx_some p3
        have p3' := p3; try simp at p3'
        refine kr [2, 3, 4, 9, 10, 20, 21, 22] (by simp [p3, p3']; rfl) ?_
        refine kc ?_
        refine ko [2, 3, 4, 9, 20, 21, 22, 28, 29, 30] 3 (by simp; rfl) ?_
        replace h1 := bnd h1; obtain ⟨y5, hy5, h1⟩ := h1
        refine kcall [2, 3, 4, 9, 20, 21, 22, 31] [] (steps_Apply_ok hy5) rfl rfl rfl Try.call61 (by simp) (by simp; rfl) ?_
        refine ko [2, 3, 4, 9, 11, 12, 20, 21, 22] 6 (by simp; rfl) ?_
        refine tops_nil ?_
        refine tr_seq ?_
        refine tr_block ?_
        refine kr [2, 3, 4, 9, 11, 12, 20, 21, 22, 34] (by simp; rfl) ?_
        refine tr_cond (b := (y5.2 != 0)) (by simp) (fun c9 => ?_) (fun c9 => ?_)
        · rw [if_pos c9] at h1
          refine kr [6, 7] (by simp; rfl) ?_
          have k1 := he1 _ (Option.some.inj h1)
          subst k1
          dsimp only at h0
          cases h0
          exact tr_ret ⟨[], by simp, rfl, by simp⟩
        · rw [if_neg (by rw [c9]; decide)] at h1
          refine kc ?_
          refine ko [2, 3, 4, 9, 11, 20, 21, 22, 40, 41, 42] 3 (by simp; rfl) ?_
          replace h1 := bnd h1; obtain ⟨y6, hy6, h1⟩ := h1
          refine kcall [2, 3, 4, 9, 11, 20, 21, 22, 43] [] (steps_holds_ok hy6) rfl rfl rfl Try.call62 (by simp) (by simp; rfl) ?_
          refine ko [2, 3, 4, 9, 11, 20, 21, 22, 39] 2 (by simp; rfl) ?_
          refine tops_nil ?_
          refine tr_cond (b := (!y6)) (by simp) (fun c10 => ?_) (fun c10 => ?_)
          · rw [if_pos c10] at h1
            refine kr [6, 7] (by simp; rfl) ?_
            have k1 := he1 _ (Option.some.inj h1)
            subst k1
            dsimp only at h0
            cases h0
            exact tr_ret ⟨[], by simp, rfl, by simp⟩
          · rw [if_neg (by rw [c10]; decide)] at h1
            refine tr_skip ?_
            refine lr (by simp; rfl) ?_
            refine lr (by simp; rfl) ?_
            exact ⟨_, hg1 _ (Option.some.inj h1), wk (by simp [weak_iff])⟩
      · rw [if_neg (by rw [c8]; decide)] at h1
        refine tr_exit ?_
        exact ⟨_, he1 _ (Option.some.inj h1), wk (by simp [weak_iff])⟩
set_option maxHeartbeats 1000000 in
theorem steps_Run_ok {a0 : api_Fleet} {a1 : api_Rotation} {a2 : List api_Step} {r : (List api_Rotation) × Int} (h0 : steps_Run a0 a1 a2 = some r) : FnOK Try.prog 36 [] [.agg (api_Fleet_av a0), .agg (api_Rotation_av a1), .d (.slice (rowsF api_Step_row a2))] (.tup [.d (.slice (rowsF api_Rotation_row r.1)), .d (.int .i64 r.2)]) [] := by
  unfold steps_Run at h0
  refine fn_ok (nt := 44) (rs := [.tmp 6, .tmp 7]) Try.func36 rfl Try.ntmps36 rfl (by simp) (by decide) rfl fun K => ?_
  refine kr [2, 3, 4] (by simp; rfl) ?_
  refine tr_seq ?_
  refine kc ?_
  refine ko [2, 3, 4, 14, 15, 16] 3 (by simp; rfl) ?_
  replace h0 := bnd h0; obtain ⟨y1, hy1, h0⟩ := h0
  refine kcall [2, 3, 4, 17] [] (steps_check_ok hy1) rfl rfl rfl Try.call60 (by simp) (by simp; rfl) ?_
  refine ko [2, 3, 4, 8] 1 (by simp; rfl) ?_
  refine tops_nil ?_
  refine kr [2, 3, 4, 8, 19] (by simp; rfl) ?_
  refine tr_cond (b := (y1 != 0)) (by simp) (fun c1 => ?_) (fun c1 => ?_)
  · rw [if_pos c1] at h0
    refine kr [6, 7] (by simp; rfl) ?_
    cases h0
    exact tr_ret ⟨[], by simp, rfl, by simp⟩
  · rw [if_neg (by rw [c1]; decide)] at h0
    refine tr_skip ?_
    refine kr [2, 3, 4, 9] (by simp; rfl) ?_
    refine tr_seq ?_
    refine kr [3, 4, 9, 21, 22, 23] (by simp; rfl) ?_
    refine tr_wk (wk_own 9 40 33 3 (by simp) (by simp)) ?_
    replace h0 := bnd h0; obtain ⟨e1, hI1, h0⟩ := h0
    refine tjv (fun v2 : (List api_Rotation) => ({ nt := 44, env := [(9, .vec 40)], box := [], vec := [(40, ⟨33, 3, rowsF api_Rotation_row v2⟩)] } : St)) (fun v2 => .inl v2 = e1) (fun v2 hI1e _ W1 => ?_) ?_
    · subst hI1e
      dsimp only at h0
      refine tr_wk W1 ?_
      refine kr [6, 7] (by simp; rfl) ?_
      cases h0
      exact tr_ret ⟨[40], by simp, rfl, by simp⟩
    · refine tr_block (tr_iter (fun s3 : Int × Int × Int × (List api_Unit) × (List api_Rotation) => ({ nt := 44, env := [(3, .ptr 3 0), (4, .ptr 4 0), (9, .vec 40), (21, .d (.slice (rowsF api_Step_row a2))), (22, .d (.int .i64 ((a2).length : Int))), (23, .d (.int .i64 s3.1))], box := [(3, [.d (.int .i64 a0.Slots), .d (.slice (rowsF api_Consumer_row a0.Consumers))]), (4, [.d (.int .i64 s3.2.1), .d (.int .i64 s3.2.2.1), .d (.slice (rowsF api_Unit_row s3.2.2.2.1))])], vec := [(40, ⟨33, 3, rowsF api_Rotation_row s3.2.2.2.2⟩)] } : St)) hI1 (wk (by simp [weak_iff])) fun G1 s3 o1 h1 hg1 he1 => ?_)
      unfold steps_Run_l0 at h1
      refine kr [3, 4, 9, 21, 22, 23, 24] (by simp; rfl) ?_
      refine tr_seq ?_
      refine tr_cond (b := (decide (s3.1 < ((a2).length : Int)))) (by simp) (fun c8 => ?_) (fun c8 => ?_)
      · rw [if_pos c8] at h1
        refine tr_skip ?_
        refine tr_seq ?_
        refine tr_block ?_
        replace h1 := bnd h1; obtain ⟨x4, p12, h1⟩ := h1
        replace p12 := idx_some p12
        have p12' := p12; try simp at p12'
        refine kr [3, 4, 9, 11, 21, 22, 23] (by simp [p12, p12']; rfl) ?_
        refine kc ?_
        refine ko [3, 4, 9, 21, 22, 23, 28, 29, 30] 3 (by simp; rfl) ?_
        replace h1 := bnd h1; obtain ⟨y5, hy5, h1⟩ := h1
        refine kcall [3, 4, 9, 21, 22, 23, 31] [] (steps_Apply_ok hy5) rfl rfl rfl Try.call61 (by simp) (by simp; rfl) ?_
        refine ko [3, 4, 9, 12, 13, 21, 22, 23] 6 (by simp; rfl) ?_
        refine tops_nil ?_
        refine tr_seq ?_
        refine kr [3, 4, 9, 12, 13, 21, 22, 23, 35] (by simp; rfl) ?_
        refine tr_cond (b := (y5.2 != 0)) (by simp) (fun c9 => ?_) (fun c9 => ?_)
        · rw [if_pos c9] at h1
          refine kr [6, 7] (by simp; rfl) ?_
          have k1 := he1 _ (Option.some.inj h1)
          subst k1
          dsimp only at h0
          cases h0
          exact tr_ret ⟨[], by simp, rfl, by simp⟩
        · rw [if_neg (by rw [c9]; decide)] at h1
          refine tr_skip ?_
          refine tr_wk (wk_ren 40 700040) ?_
          refine kd1 [[], [], [1], [0, 2], [], [0, 3], [3, 4]] [3, 6] [(4, [3, 6])] (some (3, 700040)) [9, 37] 7 fol (by decide +kernel) (by simp) ?_
          replace h1 := bnd h1; obtain ⟨_, p16, h1⟩ := h1
          replace p16 := ck_some p16
          have p16' := p16; try simp at p16'
          refine dr_go 0 2 rfl (by simp (maxSteps := 1000000) [p16, p16']; rfl) ?_
          refine dr_go 2 2 rfl (by simp (maxSteps := 1000000) [p16, p16']; rfl) ?_
          refine dr_go 4 2 rfl (by simp (maxSteps := 1000000) [p16, p16']; rfl) ?_
          refine dr_go 6 1 rfl (by simp (maxSteps := 1000000) [p16, p16']; rfl) ?_
          refine dr_end rfl (tops_nil ?_)
          refine lr (by simp; rfl) ?_
          exact ⟨_, hg1 _ (Option.some.inj h1), wk (by simp [weak_iff])⟩
      · rw [if_neg (by rw [c8]; decide)] at h1
        refine tr_exit ?_
        exact ⟨_, he1 _ (Option.some.inj h1), wk (by simp [weak_iff])⟩
set_option maxHeartbeats 1000000 in
theorem fleet_Ended_1_cb_ok {a0 : api_Unit} {a1 : api_Unit} {r : Bool × api_Unit} (h0 : fleet_Ended_1_cb a0 a1 = some r) : FnOK Try.prog 34 [api_Unit_av a1] [.agg (api_Unit_av a0), .ptr (InO 0) 0] (.d (.bool r.1)) [api_Unit_av r.2] := by
  unfold fleet_Ended_1_cb at h0
  refine fn_ok (nt := 7) (rs := [.tmp 3]) Try.func34 rfl Try.ntmps34 rfl (by simp) (by decide) rfl fun K => ?_
  refine kr [1, 2] (by simp; rfl) ?_
  refine kr [3] (by simp; rfl) ?_
  cases h0
  exact tr_ret ⟨[], by simp, rfl, by simp⟩
set_option maxHeartbeats 1000000 in
theorem slices_IndexFunc_api_Unit_at_fleet_Ended_1_b_ok {a0 : List api_Unit} {b10 : api_Unit} {r : Int × api_Unit} (h0 : slices_IndexFunc_api_Unit_at_fleet_Ended_1_b a0 b10 = some r) : FnOK Try.prog 59 [api_Unit_av b10] [.d (.slice (rowsF api_Unit_row a0)), .fn 34 [.ptr (InO 0) 0]] (.d (.int .i64 r.1)) [api_Unit_av r.2] := by
  unfold slices_IndexFunc_api_Unit_at_fleet_Ended_1_b at h0
  refine fn_ok (nt := 19) (rs := [.tmp 4]) Try.func59 rfl Try.ntmps59 rfl (by simp) (by decide) rfl fun K => ?_
  refine kr [0, 1] (by simp; rfl) ?_
  refine tr_seq ?_
  refine kr [0, 1, 7, 8] (by simp; rfl) ?_
  replace h0 := bnd h0; obtain ⟨e1, hI1, h0⟩ := h0
  refine tjv (fun v1 : Bool × Int × Int => ({ nt := 19, env := [], box := [(1000000, [.d (.bool v1.1), .d (.int .i64 v1.2.1), .d (.int .i64 v1.2.2)])], vec := [] } : St)) (fun v1 => .inl v1 = e1) (fun v1 hI1e _ W1 => ?_) ?_
  · subst hI1e
    dsimp only at h0
    refine tr_wk W1 ?_
    refine kr [4] (by simp; rfl) ?_
    cases h0
    exact tr_ret ⟨[], by simp, rfl, by simp⟩
  · refine tr_block (tr_iter (fun s2 : Int × Bool × Int × Int => ({ nt := 19, env := [(0, .d (.slice (rowsF api_Unit_row a0))), (1, .fn 34 [.ptr 1000000 0]), (7, .d (.int .i64 ((a0).length : Int))), (8, .d (.int .i64 s2.1))], box := [(1000000, [.d (.bool s2.2.1), .d (.int .i64 s2.2.2.1), .d (.int .i64 s2.2.2.2)])], vec := [] } : St)) hI1 (wk (by simp [weak_iff])) fun G1 s2 o1 h1 hg1 he1 => ?_)
    unfold slices_IndexFunc_api_Unit_at_fleet_Ended_1_b_l0 at h1
    refine kr [0, 1, 7, 8, 9] (by simp; rfl) ?_
    refine tr_seq ?_
    refine tr_cond (b := (decide (s2.1 < ((a0).length : Int)))) (by simp) (fun c5 => ?_) (fun c5 => ?_)
    · rw [if_pos c5] at h1
      refine tr_skip ?_
      refine tr_seq ?_
      refine tr_block ?_
      refine kr [0, 1, 5, 7, 8] (by simp; rfl) ?_
      refine kc ?_
      replace h1 := bnd h1; obtain ⟨x3, p3, h1⟩ := h1
      replace p3 := idx_some p3
      have p3' := p3; try simp at p3'
      refine ko [0, 1, 5, 7, 8, 11, 15] 5 (by simp [p3, p3']; rfl) ?_
      replace h1 := bnd h1; obtain ⟨y4, hy4, h1⟩ := h1
      refine kcallV [0, 1, 5, 7, 8, 16] [1000000] [] [] (fleet_Ended_1_cb_ok hy4) rfl rfl rfl Try.call34 (by simp) (by simp; rfl) ?_
      refine tops_nil ?_
      refine tr_cond (b := y4.1) (by simp) (fun c6 => ?_) (fun c6 => ?_)
      · rw [if_pos c6] at h1
        refine kr [4] (by simp; rfl) ?_
        have k1 := he1 _ (Option.some.inj h1)
        subst k1
        dsimp only at h0
        cases h0
        exact tr_ret ⟨[], by simp, rfl, by simp⟩
      · rw [if_neg (by rw [c6]; decide)] at h1
        refine tr_skip ?_
        refine lr (by simp; rfl) ?_
        exact ⟨_, hg1 _ (Option.some.inj h1), wk (by simp [weak_iff])⟩
    · rw [if_neg (by rw [c5]; decide)] at h1
      refine tr_exit ?_
      exact ⟨_, he1 _ (Option.some.inj h1), wk (by simp [weak_iff])⟩
set_option maxHeartbeats 1000000 in
theorem slices_ContainsFunc_api_Unit_at_fleet_Ended_1_b_ok {a0 : List api_Unit} {b10 : api_Unit} {r : Bool × api_Unit} (h0 : slices_ContainsFunc_api_Unit_at_fleet_Ended_1_b a0 b10 = some r) : FnOK Try.prog 33 [api_Unit_av b10] [.d (.slice (rowsF api_Unit_row a0)), .fn 34 [.ptr (InO 0) 0]] (.d (.bool r.1)) [api_Unit_av r.2] := by
  unfold slices_ContainsFunc_api_Unit_at_fleet_Ended_1_b at h0
  refine fn_ok (nt := 9) (rs := [.tmp 4]) Try.func33 rfl Try.ntmps33 rfl (by simp) (by decide) rfl fun K => ?_
  refine kr [0, 1] (by simp; rfl) ?_
  refine kc ?_
  refine ko [5, 6] 2 (by simp; rfl) ?_
  replace h0 := bnd h0; obtain ⟨y1, hy1, h0⟩ := h0
  refine kcall [7] [1000000] (slices_IndexFunc_api_Unit_at_fleet_Ended_1_b_ok hy1) rfl rfl rfl Try.call59 (by simp) (by simp; rfl) ?_
  refine ko [4] 2 (by simp; rfl) ?_
  refine tops_nil ?_
  cases h0
  exact tr_ret ⟨[], by simp, rfl, by simp⟩
end Go.Vl
