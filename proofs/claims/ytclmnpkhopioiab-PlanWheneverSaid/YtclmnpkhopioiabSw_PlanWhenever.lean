/- Walks: each function of the given program computes what its mirror says. Conditions: none. -/
import Derived.Test.YtclmnpkhopioiabSw2
set_option linter.unusedSimpArgs false
set_option linter.unusedVariables false
namespace Go.Vl
open Go Go.Proofs
set_option maxHeartbeats 1000000 in
theorem make_Fleet_ok {a0 : make_Tape} {a1 : Int} {r : api_Fleet × make_Tape} (h0 : make_Fleet a0 a1 = some r) : FnOK Try.prog 17 [make_Tape_av a0] [.ptr (InO 0) 0, .d (.int .i64 a1)] (.agg (api_Fleet_av r.1)) [make_Tape_av r.2] := by
  unfold make_Fleet at h0
  refine fn_ok (nt := 32) (rs := [.cell 4 29]) Try.func17 rfl Try.ntmps17 rfl (by simp) (by decide) rfl fun K => ?_
  refine kr [0, 1, 4] (by simp; rfl) ?_
  refine kc ?_
  refine ko [0, 1, 4, 7] 1 (by simp; rfl) ?_
  replace h0 := bnd h0; obtain ⟨y1, hy1, h0⟩ := h0
  refine kcall [0, 1, 4, 8] [1000000] (make_Tape_Between_ok hy1) rfl rfl rfl Try.call58 (by simp) (by simp; rfl) ?_
  refine ko [0, 1, 4, 5] 3 (by simp; rfl) ?_
  refine tops_nil ?_
  refine tr_seq ?_
  refine kc ?_
  refine ko [0, 4, 5, 10, 11] 2 (by simp; rfl) ?_
  replace h0 := bnd h0; obtain ⟨y2, hy2, h0⟩ := h0
  refine kcall [0, 4, 5, 12] [1000000] (make_Tape_Between_ok hy2) rfl rfl rfl Try.call58 (by simp) (by simp; rfl) ?_
  refine ko [0, 4, 5, 6] 1 (by simp; rfl) ?_
  refine tops_nil ?_
  refine tr_wk (wk_ownbox 5 1 29 78 3 (by simp; rfl) (by simp) (by simp)) ?_
  replace h0 := bnd h0; obtain ⟨e1, hI1, h0⟩ := h0
  refine tjv (fun v3 : (List Int) × Int × (List api_Consumer) => ({ nt := 32, env := [(4, .ptr 4 0), (5, .ptr 5 0)], box := [(4, [.d (.int .i64 0), .nilS]), (5, [.d (.int .i64 y1.1), .vec 29]), (1000000, [.d (.slice (rowsF (iRow .i64) v3.1)), .d (.int .i64 v3.2.1)])], vec := [(29, ⟨78, 3, rowsF api_Consumer_row v3.2.2⟩)] } : St)) (fun v3 => v3 = e1) (fun v3 hI1e _ W1 => ?_) ?_
  · subst hI1e
    refine tr_wk W1 ?_
    refine kr [4] (by simp; rfl) ?_
    cases h0
    exact tr_ret ⟨[29], by simp, rfl, by simp⟩
  · refine tr_block (tr_iter (fun s4 : Int × (List Int) × Int × (List api_Consumer) => ({ nt := 32, env := [(0, .ptr 1000000 0), (4, .ptr 4 0), (5, .ptr 5 0), (6, .d (.int .i64 s4.1))], box := [(4, [.d (.int .i64 0), .nilS]), (5, [.d (.int .i64 y1.1), .vec 29]), (1000000, [.d (.slice (rowsF (iRow .i64) s4.2.1)), .d (.int .i64 s4.2.2.1)])], vec := [(29, ⟨78, 3, rowsF api_Consumer_row s4.2.2.2⟩)] } : St)) hI1 (wk (by simp [weak_iff])) fun G1 s4 o1 h1 hg1 he1 => ?_)
    unfold make_Fleet_l0 at h1
    refine tr_seq ?_
    refine kr [0, 4, 5, 6, 14] (by simp; rfl) ?_
    refine tr_cond (b := (decide (0 < s4.1))) (by simp) (fun c4 => ?_) (fun c4 => ?_)
    · rw [if_pos c4] at h1
      refine tr_skip ?_
      refine tr_seq ?_
      refine tr_block ?_
      refine tr_wk (wk_ren 29 700029) ?_
      refine kd1 [[], [0], [], [2], [], [3, 4], [5], [], [3, 5, 7], [8], [3, 5, 6, 9], [3, 5, 10], [1, 3, 5, 8, 11], [12], [1, 12, 13]] [3, 5, 8, 12, 14] [(5, [12, 14]), (1000000, [3, 5, 8, 12])] (some (12, 700029)) [18] 15 fol (by decide +kernel) (by simp) ?_
      refine dr_go 0 2 rfl (by simp (maxSteps := 1000000); rfl) ?_
      refine dr_go 2 1 rfl (by simp (maxSteps := 1000000); rfl) ?_
      replace h1 := bnd h1; obtain ⟨y5, hy5, h1⟩ := h1
      refine dr_call 3 [1000000] (make_Tape_Next_ok hy5) rfl rfl rfl rfl rfl Try.call22 (by simp) ?_
      refine dr_go 4 1 rfl (by simp (maxSteps := 1000000); rfl) ?_
      replace h1 := bnd h1; obtain ⟨y6, hy6, h1⟩ := h1
      refine dr_call 5 [1000000] (make_Tape_Next_ok hy6) rfl rfl rfl rfl rfl Try.call22 (by simp) ?_
      refine dr_go 6 2 rfl (by simp (maxSteps := 1000000); rfl) ?_
      replace h1 := bnd h1; obtain ⟨y7, hy7, h1⟩ := h1
      refine dr_call 8 [1000000] (make_Tape_Next_ok hy7) rfl rfl rfl rfl rfl Try.call22 (by simp) ?_
      replace h1 := bnd h1; obtain ⟨_, p12, h1⟩ := h1
      replace p12 := ck_some p12
      have p12' := p12; try simp at p12'
      refine dr_go 9 2 rfl (by simp (maxSteps := 1000000) [p12, p12']; rfl) ?_
      refine dr_go 11 2 rfl (by simp (maxSteps := 1000000) [p12, p12']; rfl) ?_
      refine dr_go 13 2 rfl (by simp (maxSteps := 1000000) [p12, p12']; rfl) ?_
      refine dr_end rfl (tops_nil ?_)
      refine lr (by simp; rfl) ?_
      exact ⟨_, hg1 _ (Option.some.inj h1), wk (by simp [weak_iff])⟩
    · rw [if_neg (by rw [c4]; decide)] at h1
      refine tr_exit ?_
      exact ⟨_, he1 _ (Option.some.inj h1), wk (by simp [weak_iff])⟩
set_option maxHeartbeats 1000000 in
theorem ref33_Safe_ok {a0 : api_Fleet} {a1 : api_Rotation} {a2 : api_Step} {r : Bool} (h0 : ref33_Safe a0 a1 a2 = some r) : FnOK Try.prog 28 [] [.agg (api_Fleet_av a0), .agg (api_Rotation_av a1), .agg (api_Step_av a2)] (.d (.bool r)) [] := by
  unfold ref33_Safe at h0
  refine fn_ok (nt := 24) (rs := [.tmp 6]) Try.func28 rfl Try.ntmps28 rfl (by simp) (by decide) rfl fun K => ?_
  refine kr [3, 4, 5] (by simp; rfl) ?_
  refine kc ?_
  refine ko [3, 4, 10, 11, 12] 3 (by simp; rfl) ?_
  replace h0 := bnd h0; obtain ⟨y1, hy1, h0⟩ := h0
  refine kcall [3, 4, 13] [] (ref33_Apply_ok hy1) rfl rfl rfl Try.call21 (by simp) (by simp; rfl) ?_
  refine ko [3, 4, 7, 8] 6 (by simp; rfl) ?_
  refine tops_nil ?_
  replace h0 := bnd h0; obtain ⟨v2, hvv2, h0⟩ := h0
  refine sjv (fun v2_ : Bool => ({ nt := 24, env := [(6, .d (.bool v2_))], box := [], vec := [] } : St)) (fun v2_ => v2 = v2_) (fun v2_ e => ?_) ?_
  · subst e
    cases h0
    exact tr_ret ⟨[], by simp, rfl, by simp⟩
  · refine kc1 ?_
    refine ko [3, 4, 7, 18] 3 (by simp; rfl) ?_
    refine tops_split 18 (y1.2 == 0) (by simp) (fun c3 => ?_) (fun c3 => ?_)
    · rw [if_pos c3] at hvv2
      refine ko [18, 19, 20, 21] 3 (by simp; rfl) ?_
      replace hvv2 := bnd hvv2; obtain ⟨y3, hy3, hvv2⟩ := hvv2
      refine kcall [18, 22] [] (ref33_safe_ok hy3) rfl rfl rfl Try.call67 (by simp) (by simp; rfl) ?_
      refine ko [6] 2 (by simp; rfl) ?_
      refine tops_nil ?_
      cases hvv2
      exact ⟨_, rfl, wk (by simp [weak_iff])⟩
    · rw [if_neg (by rw [c3]; decide)] at hvv2
      refine kskip 4 [] (by kernel_rfl) ?_
      refine ko [6] 2 (by simp; rfl) ?_
      refine tops_nil ?_
      cases hvv2
      exact ⟨_, rfl, wk (by simp [weak_iff])⟩
set_option maxHeartbeats 1000000 in
theorem ref33_Choices_ok {a0 : api_Fleet} {a1 : api_Rotation} {r : (List api_Step)} (h0 : ref33_Choices a0 a1 = some r) : FnOK Try.prog 20 [] [.agg (api_Fleet_av a0), .agg (api_Rotation_av a1)] (.d (.slice (rowsF api_Step_row r))) [] := by
  unfold ref33_Choices at h0
  refine fn_ok (nt := 32) (rs := [.tmp 4]) Try.func20 rfl Try.ntmps20 rfl (by simp) (by decide) rfl fun K => ?_
  refine kr [2, 3] (by simp; rfl) ?_
  refine kr [2, 3, 5] (by simp; rfl) ?_
  refine tr_seq ?_
  refine kr [2, 3, 5, 6] (by simp; rfl) ?_
  refine tr_wk (wk_own 5 29 43 2 (by simp) (by simp)) ?_
  replace h0 := bnd h0; obtain ⟨e1, hI1, h0⟩ := h0
  refine tjv (fun v1 : (List api_Step) => ({ nt := 32, env := [(5, .vec 29)], box := [], vec := [(29, ⟨43, 2, rowsF api_Step_row v1⟩)] } : St)) (fun v1 => v1 = e1) (fun v1 hI1e _ W1 => ?_) ?_
  · subst hI1e
    refine tr_wk W1 ?_
    refine kr [4] (by simp; rfl) ?_
    cases h0
    exact tr_ret ⟨[29], by simp, rfl, by simp⟩
  · refine tr_block (tr_iter (fun s2 : Int × (List api_Step) => ({ nt := 32, env := [(2, .ptr 2 0), (3, .ptr 3 0), (5, .vec 29), (6, .d (.int .i64 s2.1))], box := [(2, [.d (.int .i64 a0.Slots), .d (.slice (rowsF api_Consumer_row a0.Consumers))]), (3, [.d (.int .i64 a1.Known), .d (.int .i64 a1.Valid), .d (.slice (rowsF api_Unit_row a1.Units))])], vec := [(29, ⟨43, 2, rowsF api_Step_row s2.2⟩)] } : St)) hI1 (wk (by simp [weak_iff])) fun G1 s2 o1 h1 hg1 he1 => ?_)
    unfold ref33_Choices_l0 at h1
    refine tr_seq ?_
    refine kr [2, 3, 5, 6, 10] (by simp; rfl) ?_
    refine tr_cond (b := (decide (s2.1 ≤ 8))) (by simp) (fun c18 => ?_) (fun c18 => ?_)
    · rw [if_pos c18] at h1
      refine tr_skip ?_
      refine tr_seq ?_
      refine tr_block ?_
      refine kr [2, 3, 5, 6, 15, 16] (by simp; rfl) ?_
      replace h1 := bnd h1; obtain ⟨e2, hI2, h1⟩ := h1
      refine tjv (fun v3 : (List api_Step) => ({ nt := 32, env := [(2, .ptr 2 0), (3, .ptr 3 0), (5, .vec 29), (6, .d (.int .i64 s2.1))], box := [(2, [.d (.int .i64 a0.Slots), .d (.slice (rowsF api_Consumer_row a0.Consumers))]), (3, [.d (.int .i64 a1.Known), .d (.int .i64 a1.Valid), .d (.slice (rowsF api_Unit_row a1.Units))])], vec := [(29, ⟨43, 2, rowsF api_Step_row v3⟩)] } : St)) (fun v3 => v3 = e2) (fun v3 hI2e _ W2 => ?_) ?_
      · subst hI2e
        refine tr_wk W2 ?_
        refine lr (by simp; rfl) ?_
        exact ⟨_, hg1 _ (Option.some.inj h1), wk (by simp [weak_iff])⟩
      · refine tr_block (tr_iter (fun s4 : Int × (List api_Step) => ({ nt := 32, env := [(2, .ptr 2 0), (3, .ptr 3 0), (5, .vec 29), (6, .d (.int .i64 s2.1)), (15, .d (.int .i64 ((a0.Consumers).length : Int))), (16, .d (.int .i64 s4.1))], box := [(2, [.d (.int .i64 a0.Slots), .d (.slice (rowsF api_Consumer_row a0.Consumers))]), (3, [.d (.int .i64 a1.Known), .d (.int .i64 a1.Valid), .d (.slice (rowsF api_Unit_row a1.Units))])], vec := [(29, ⟨43, 2, rowsF api_Step_row s4.2⟩)] } : St)) hI2 (wk (by simp [weak_iff])) fun G2 s4 o2 h2 hg2 he2 => ?_)
        unfold ref33_Choices_l1 at h2
        refine kr [2, 3, 5, 6, 15, 16, 17] (by simp; rfl) ?_
        refine tr_seq ?_
        refine tr_cond (b := (decide (s4.1 < ((a0.Consumers).length : Int)))) (by simp) (fun c23 => ?_) (fun c23 => ?_)
        · rw [if_pos c23] at h2
          refine tr_skip ?_
          refine tr_seq ?_
          refine tr_block ?_
          refine kr [2, 3, 5, 6, 7, 15, 16] (by simp; rfl) ?_
          refine kr [2, 3, 5, 6, 8, 15, 16] (by simp; rfl) ?_
          refine kc ?_
          refine ko [2, 3, 5, 6, 8, 15, 16, 22, 23, 24] 3 (by simp; rfl) ?_
          replace h2 := bnd h2; obtain ⟨y5, hy5, h2⟩ := h2
          refine kcall [2, 3, 5, 6, 8, 15, 16, 25] [] (ref33_Safe_ok hy5) rfl rfl rfl Try.call28 (by simp) (by simp; rfl) ?_
          refine tops_nil ?_
          refine tr_cond (b := y5) (by simp) (fun c24 => ?_) (fun c24 => ?_)
          · rw [if_pos c24] at h2
            replace h2 := bnd h2; obtain ⟨_, p9, h2⟩ := h2
            replace p9 := ck_some p9
            have p9' := p9; try simp at p9'
            refine lr (by simp [p9, p9']; rfl) ?_
            refine lr (by simp; rfl) ?_
            exact ⟨_, hg2 _ (Option.some.inj h2), wk (by simp [weak_iff])⟩
          · rw [if_neg (by rw [c24]; decide)] at h2
            refine tr_skip ?_
            refine lr (by simp; rfl) ?_
            exact ⟨_, hg2 _ (Option.some.inj h2), wk (by simp [weak_iff])⟩
        · rw [if_neg (by rw [c23]; decide)] at h2
          refine tr_exit ?_
          exact ⟨_, he2 _ (Option.some.inj h2), wk (by simp [weak_iff])⟩
    · rw [if_neg (by rw [c18]; decide)] at h1
      refine tr_exit ?_
      exact ⟨_, he1 _ (Option.some.inj h1), wk (by simp [weak_iff])⟩
set_option maxHeartbeats 1000000 in
theorem ref34_check_ok {a0 : api_Fleet} {a1 : api_Rotation} {r : Int} (h0 : ref34_check a0 a1 = some r) : FnOK Try.prog 69 [] [.agg (api_Fleet_av a0), .agg (api_Rotation_av a1)] (.d (.int .i64 r)) [] := by
  unfold ref34_check at h0
  refine fn_ok (nt := 13) (rs := [.tmp 4]) Try.func69 rfl Try.ntmps69 rfl (by simp) (by decide) rfl fun K => ?_
  refine kr [2, 3] (by simp; rfl) ?_
  refine tr_seq ?_
  refine kc ?_
  refine ko [2, 5, 6] 2 (by simp; rfl) ?_
  replace h0 := bnd h0; obtain ⟨y1, hy1, h0⟩ := h0
  refine kcall [2, 7] [] (ref32_Right_ok hy1) rfl rfl rfl Try.call61 (by simp) (by simp; rfl) ?_
  refine ko [2, 8] 1 (by simp; rfl) ?_
  refine tops_nil ?_
  refine tr_cond (b := (!y1)) (by simp) (fun c1 => ?_) (fun c1 => ?_)
  · rw [if_pos c1] at h0
    refine kr [4] (by simp; rfl) ?_
    cases h0
    exact tr_ret ⟨[], by simp, rfl, by simp⟩
  · rw [if_neg (by rw [c1]; decide)] at h0
    refine tr_skip ?_
    refine tr_seq ?_
    refine kr [12] (by simp; rfl) ?_
    refine tr_cond (b := (decide (3 < ((a0.Consumers).length : Int)))) (by simp) (fun c2 => ?_) (fun c2 => ?_)
    · rw [if_pos c2] at h0
      refine kr [4] (by simp; rfl) ?_
      cases h0
      exact tr_ret ⟨[], by simp, rfl, by simp⟩
    · rw [if_neg (by rw [c2]; decide)] at h0
      refine tr_skip ?_
      refine kr [4] (by simp; rfl) ?_
      cases h0
      exact tr_ret ⟨[], by simp, rfl, by simp⟩
set_option maxHeartbeats 1000000 in
theorem ref34_number_ok {a0 : api_Rotation} {r : Int} (h0 : ref34_number a0 = some r) : FnOK Try.prog 89 [] [.agg (api_Rotation_av a0)] (.d (.int .i64 r)) [] := by
  unfold ref34_number at h0
  refine fn_ok (nt := 30) (rs := [.tmp 2]) Try.func89 rfl Try.ntmps89 rfl (by simp) (by decide) rfl fun K => ?_
  refine kr [1] (by simp; rfl) ?_
  refine kr [1, 3] (by simp; rfl) ?_
  refine tr_seq ?_
  refine kr [3, 13, 14, 15] (by simp; rfl) ?_
  replace h0 := bnd h0; obtain ⟨e1, hI1, h0⟩ := h0
  refine tjv (fun v1 : Int => ({ nt := 30, env := [(3, .d (.int .i64 v1))], box := [], vec := [] } : St)) (fun v1 => v1 = e1) (fun v1 hI1e _ W1 => ?_) ?_
  · subst hI1e
    refine tr_wk W1 ?_
    refine kr [2] (by simp; rfl) ?_
    cases h0
    exact tr_ret ⟨[], by simp, rfl, by simp⟩
  · refine tr_block (tr_iter (fun s2 : Int × Int => ({ nt := 30, env := [(3, .d (.int .i64 s2.1)), (13, .d (.slice (rowsF api_Unit_row a0.Units))), (14, .d (.int .i64 ((a0.Units).length : Int))), (15, .d (.int .i64 s2.2))], box := [], vec := [] } : St)) hI1 (wk (by simp [weak_iff])) fun G1 s2 o1 h1 hg1 he1 => ?_)
    unfold ref34_number_l0 at h1
    refine kr [3, 13, 14, 15, 16] (by simp; rfl) ?_
    refine tr_seq ?_
    refine tr_cond (b := (decide (s2.2 < ((a0.Units).length : Int)))) (by simp) (fun c3 => ?_) (fun c3 => ?_)
    · rw [if_pos c3] at h1
      refine tr_skip ?_
      refine tr_seq ?_
      refine tr_block ?_
      replace h1 := bnd h1; obtain ⟨x3, p3, h1⟩ := h1
      replace p3 := idx_some p3
      have p3' := p3; try simp at p3'
      refine kr [3, 5, 13, 14, 15] (by simp [p3, p3']; rfl) ?_
      refine lr (by simp; rfl) ?_
      refine lr (by simp; rfl) ?_
      exact ⟨_, hg1 _ (Option.some.inj h1), wk (by simp [weak_iff])⟩
    · rw [if_neg (by rw [c3]; decide)] at h1
      refine tr_exit ?_
      exact ⟨_, he1 _ (Option.some.inj h1), wk (by simp [weak_iff])⟩
set_option maxHeartbeats 1000000 in
theorem ref34_search_ok {a0 : api_Fleet} {a1 : api_Rotation} {r : Int × Int} (h0 : ref34_search a0 a1 = some r) : FnOK Try.prog 70 [] [.agg (api_Fleet_av a0), .agg (api_Rotation_av a1)] (.tup [.d (.int .i64 r.1), .d (.int .i64 r.2)]) [] := by
  unfold ref34_search at h0
  refine fn_ok (nt := 77) (rs := [.tmp 4, .tmp 5]) Try.func70 rfl Try.ntmps70 rfl (by simp) (by decide) rfl fun K => ?_
  refine kr [2, 3] (by simp; rfl) ?_
  refine kc ?_
  refine ko [2, 3, 18, 19] 2 (by simp; rfl) ?_
  replace h0 := bnd h0; obtain ⟨y1, hy1, h0⟩ := h0
  refine kcall [2, 3, 18, 20] [] (ref34_number_ok hy1) rfl rfl rfl Try.call89 (by simp) (by simp; rfl) ?_
  refine ko [2, 3, 6] 3 (by simp; rfl) ?_
  refine tops_nil ?_
  refine kr [2, 6, 7] (by simp; rfl) ?_
  refine kr [2, 6, 7, 8, 9] (by simp; rfl) ?_
  refine tr_seq ?_
  refine kr [2, 6, 7, 8, 9, 10] (by simp; rfl) ?_
  replace h0 := bnd h0; obtain ⟨l2, hl2, h0⟩ := h0
  replace hl2 := Option.some.inj hl2
  replace h0 := bnd h0; obtain ⟨e1, hI1, h0⟩ := h0
  refine tjv (fun v3 : Int × Int => ({ nt := 77, env := [(8, .d (.int .i64 v3.1)), (9, .d (.int .i64 v3.2))], box := [], vec := [] } : St)) (fun v3 => v3 = e1) (fun v3 hI1e _ W1 => ?_) ?_
  · subst hI1e
    refine tr_wk W1 ?_
    refine kr [4, 5] (by simp; rfl) ?_
    cases h0
    exact tr_ret ⟨[], by simp, rfl, by simp⟩
  · refine tr_block (tr_iter (fun s4 : Int × Int × Int × (List (Int × Bool)) × (List api_Rotation) => ({ nt := 77, env := [(2, .ptr 2 0), (6, .vec 18), (7, .vec 23), (8, .d (.int .i64 s4.1)), (9, .d (.int .i64 s4.2.1)), (10, .d (.int .i64 s4.2.2.1))], box := [(2, [.d (.int .i64 a0.Slots), .d (.slice (rowsF api_Consumer_row a0.Consumers))])], vec := [(18, ⟨mTag 114 1 false false, 2, rowsF (mRow (iRow .i64) bRow) s4.2.2.2.1⟩), (23, ⟨33, 3, rowsF api_Rotation_row s4.2.2.2.2⟩)] } : St)) hI1 (wk (by subst hl2; simp [weak_iff])) fun G1 s4 o1 h1 hg1 he1 => ?_)
    unfold ref34_search_l0 at h1
    refine tr_seq ?_
    refine kr [2, 6, 7, 8, 9, 10, 26] (by simp; rfl) ?_
    refine tr_cond (b := (decide (0 < ((s4.2.2.2.2).length : Int)))) (by simp) (fun c49 => ?_) (fun c49 => ?_)
    · rw [if_pos c49] at h1
      refine tr_skip ?_
      refine tr_seq ?_
      refine tr_block ?_
      refine kr [2, 6, 7, 8, 9, 10, 11] (by simp; rfl) ?_
      refine tr_seq ?_
      refine kr [2, 6, 8, 9, 10, 11, 29, 30, 31] (by simp; rfl) ?_
      refine tr_wk (wk_own 11 71 33 3 (by simp) (by simp)) ?_
      replace h1 := bnd h1; obtain ⟨e2, hI2, h1⟩ := h1
      refine tjv (fun v5 : Int × Int × (List (Int × Bool)) × (List api_Rotation) => ({ nt := 77, env := [(2, .ptr 2 0), (6, .vec 18), (8, .d (.int .i64 v5.1)), (9, .d (.int .i64 v5.2.1)), (10, .d (.int .i64 s4.2.2.1)), (11, .vec 71)], box := [(2, [.d (.int .i64 a0.Slots), .d (.slice (rowsF api_Consumer_row a0.Consumers))])], vec := [(18, ⟨mTag 114 1 false false, 2, rowsF (mRow (iRow .i64) bRow) v5.2.2.1⟩), (71, ⟨33, 3, rowsF api_Rotation_row v5.2.2.2⟩)] } : St)) (fun v5 => v5 = e2) (fun v5 hI2e _ W2 => ?_) ?_
      · subst hI2e
        refine tr_wk W2 ?_
        refine lr (by simp; rfl) ?_
        refine lr (by simp; rfl) ?_
        exact ⟨_, hg1 _ (Option.some.inj h1), (wk_ren 71 23).trans (wk (by simp [weak_iff]))⟩
      · refine tr_block (tr_iter (fun s6 : Int × Int × Int × (List (Int × Bool)) × (List api_Rotation) => ({ nt := 77, env := [(2, .ptr 2 0), (6, .vec 18), (8, .d (.int .i64 s6.1)), (9, .d (.int .i64 s6.2.1)), (10, .d (.int .i64 s4.2.2.1)), (11, .vec 71), (29, .vec 23), (30, .d (.int .i64 ((s4.2.2.2.2).length : Int))), (31, .d (.int .i64 s6.2.2.1))], box := [(2, [.d (.int .i64 a0.Slots), .d (.slice (rowsF api_Consumer_row a0.Consumers))])], vec := [(18, ⟨mTag 114 1 false false, 2, rowsF (mRow (iRow .i64) bRow) s6.2.2.2.1⟩), (23, ⟨33, 3, rowsF api_Rotation_row s4.2.2.2.2⟩), (71, ⟨33, 3, rowsF api_Rotation_row s6.2.2.2.2⟩)] } : St)) hI2 (wk (by simp [weak_iff])) fun G2 s6 o2 h2 hg2 he2 => ?_)
        unfold ref34_search_l1 at h2
        refine kr [2, 6, 8, 9, 10, 11, 29, 30, 31, 32] (by simp; rfl) ?_
        refine tr_seq ?_
        refine tr_cond (b := (decide (s6.2.2.1 < ((s4.2.2.2.2).length : Int)))) (by simp) (fun c73 => ?_) (fun c73 => ?_)
        · rw [if_pos c73] at h2
          refine tr_skip ?_
          refine tr_seq ?_
          refine tr_block ?_
          replace h2 := bnd h2; obtain ⟨_, p58, h2⟩ := h2
          replace p58 := ck_some p58
          have p58' := p58; try simp at p58'
          have p58o : s6.2.2.1 < (((s4.2.2.2.2)).length : Int) := by omega
          replace h2 := bnd h2; obtain ⟨x7, p59, h2⟩ := h2
          replace p59 := idx_some p59
          have p59' := p59; try simp at p59'
          refine kr [2, 6, 8, 9, 10, 11, 13, 29, 30, 31] (by simp [-getElem?_pos, List.getElem?_cons_zero, List.getElem?_cons_succ, p58, p58o, p59, p58', p59']; rfl) ?_
          refine kr [2, 6, 8, 9, 10, 11, 13, 29, 30, 31] (by simp; rfl) ?_
          refine sjv (fun v8 : Int => ({ nt := 77, env := [(2, .ptr 2 0), (6, .vec 18), (8, .d (.int .i64 (IntKind.i64.wrap (s6.1 + 1)))), (9, .d (.int .i64 v8)), (10, .d (.int .i64 s4.2.2.1)), (11, .vec 71), (13, .ptr 13 0), (29, .vec 23), (30, .d (.int .i64 ((s4.2.2.2.2).length : Int))), (31, .d (.int .i64 s6.2.2.1))], box := [(2, [.d (.int .i64 a0.Slots), .d (.slice (rowsF api_Consumer_row a0.Consumers))]), (13, [.d (.int .i64 x7.Known), .d (.int .i64 x7.Valid), .d (.slice (rowsF api_Unit_row x7.Units))])], vec := [(18, ⟨mTag 114 1 false false, 2, rowsF (mRow (iRow .i64) bRow) s6.2.2.2.1⟩), (23, ⟨33, 3, rowsF api_Rotation_row s4.2.2.2.2⟩), (71, ⟨33, 3, rowsF api_Rotation_row s6.2.2.2.2⟩)] } : St)) (fun v8 => ref34_search_j2 a0 x7 s6 v8 = some o2) (fun v8 h2 => ?_) ?_
          · unfold ref34_search_j2 at h2
            refine kc ?_
            refine ko [2, 6, 8, 9, 10, 11, 13, 29, 30, 31, 45, 46] 2 (by simp; rfl) ?_
            replace h2 := bnd h2; obtain ⟨y9, hy9, h2⟩ := h2
            refine kcall [2, 6, 8, 9, 10, 11, 13, 29, 30, 31, 47] [] (ref33_Choices_ok hy9) rfl rfl rfl Try.call20 (by simp) (by simp; rfl) ?_
            refine ko [2, 6, 8, 9, 10, 11, 13, 29, 30, 31, 47, 48, 49] 2 (by simp; rfl) ?_
            refine tops_nil ?_
            replace h2 := bnd h2; obtain ⟨e3, hI3, h2⟩ := h2
            refine tjv (fun v10 : (List (Int × Bool)) × (List api_Rotation) => ({ nt := 77, env := [(2, .ptr 2 0), (6, .vec 18), (8, .d (.int .i64 (IntKind.i64.wrap (s6.1 + 1)))), (9, .d (.int .i64 v8)), (10, .d (.int .i64 s4.2.2.1)), (11, .vec 71), (29, .vec 23), (30, .d (.int .i64 ((s4.2.2.2.2).length : Int))), (31, .d (.int .i64 s6.2.2.1))], box := [(2, [.d (.int .i64 a0.Slots), .d (.slice (rowsF api_Consumer_row a0.Consumers))])], vec := [(18, ⟨mTag 114 1 false false, 2, rowsF (mRow (iRow .i64) bRow) v10.1⟩), (23, ⟨33, 3, rowsF api_Rotation_row s4.2.2.2.2⟩), (71, ⟨33, 3, rowsF api_Rotation_row v10.2⟩)] } : St)) (fun v10 => v10 = e3) (fun v10 hI3e _ W3 => ?_) ?_
            · subst hI3e
              refine tr_wk W3 ?_
              refine lr (by simp; rfl) ?_
              exact ⟨_, hg2 _ (Option.some.inj h2), wk (by simp [weak_iff])⟩
            · refine tr_block (tr_iter (fun s11 : Int × (List (Int × Bool)) × (List api_Rotation) => ({ nt := 77, env := [(2, .ptr 2 0), (6, .vec 18), (8, .d (.int .i64 (IntKind.i64.wrap (s6.1 + 1)))), (9, .d (.int .i64 v8)), (10, .d (.int .i64 s4.2.2.1)), (11, .vec 71), (13, .ptr 13 0), (29, .vec 23), (30, .d (.int .i64 ((s4.2.2.2.2).length : Int))), (31, .d (.int .i64 s6.2.2.1)), (47, .d (.slice (rowsF api_Step_row y9))), (48, .d (.int .i64 ((y9).length : Int))), (49, .d (.int .i64 s11.1))], box := [(2, [.d (.int .i64 a0.Slots), .d (.slice (rowsF api_Consumer_row a0.Consumers))]), (13, [.d (.int .i64 x7.Known), .d (.int .i64 x7.Valid), .d (.slice (rowsF api_Unit_row x7.Units))])], vec := [(18, ⟨mTag 114 1 false false, 2, rowsF (mRow (iRow .i64) bRow) s11.2.1⟩), (23, ⟨33, 3, rowsF api_Rotation_row s4.2.2.2.2⟩), (71, ⟨33, 3, rowsF api_Rotation_row s11.2.2⟩)] } : St)) hI3 (wk (by simp [weak_iff])) fun G3 s11 o3 h3 hg3 he3 => ?_)
              unfold ref34_search_l3 at h3
              refine kr [2, 6, 8, 9, 10, 11, 13, 29, 30, 31, 47, 48, 49, 50] (by simp; rfl) ?_
              refine tr_seq ?_
              refine tr_cond (b := (decide (s11.1 < ((y9).length : Int)))) (by simp) (fun c80 => ?_) (fun c80 => ?_)
              · rw [if_pos c80] at h3
                refine tr_skip ?_
                refine tr_seq ?_
                refine tr_block ?_
                replace h3 := bnd h3; obtain ⟨x12, p64, h3⟩ := h3
                replace p64 := idx_some p64
                have p64' := p64; try simp at p64'
                refine kr [2, 6, 8, 9, 10, 11, 13, 15, 29, 30, 31, 47, 48, 49] (by simp [p64, p64']; rfl) ?_
                refine kc ?_
                refine ko [2, 6, 8, 9, 10, 11, 13, 29, 30, 31, 47, 48, 49, 54, 55, 56] 3 (by simp; rfl) ?_
                replace h3 := bnd h3; obtain ⟨y13, hy13, h3⟩ := h3
                refine kcall [2, 6, 8, 9, 10, 11, 13, 29, 30, 31, 47, 48, 49, 57] [] (ref33_Apply_ok hy13) rfl rfl rfl Try.call21 (by simp) (by simp; rfl) ?_
                refine ko [2, 6, 8, 9, 10, 11, 13, 16, 29, 30, 31, 47, 48, 49] 6 (by simp; rfl) ?_
                refine tops_nil ?_
                refine kc ?_
                refine ko [2, 6, 8, 9, 10, 11, 13, 16, 29, 30, 31, 47, 48, 49, 60, 61] 2 (by simp; rfl) ?_
                replace h3 := bnd h3; obtain ⟨y14, hy14, h3⟩ := h3
                refine kcall [2, 6, 8, 9, 10, 11, 13, 16, 29, 30, 31, 47, 48, 49, 60, 62] [] (ref34_number_ok hy14) rfl rfl rfl Try.call89 (by simp) (by simp; rfl) ?_
                refine ko [2, 6, 8, 9, 10, 11, 13, 16, 29, 30, 31, 47, 48, 49, 64] 2 (by simp; rfl) ?_
                refine tops_nil ?_
                refine tr_cond (b := (!((mget inE s11.2.1 y14).getD false))) (by simp) (fun c81 => ?_) (fun c81 => ?_)
                · rw [if_pos c81] at h3
                  refine kc ?_
                  refine ko [2, 6, 8, 9, 10, 11, 13, 16, 29, 30, 31, 47, 48, 49, 65, 66] 2 (by simp; rfl) ?_
                  replace h3 := bnd h3; obtain ⟨y15, hy15, h3⟩ := h3
                  refine kcall [2, 6, 8, 9, 10, 11, 13, 16, 29, 30, 31, 47, 48, 49, 65, 67] [] (ref34_number_ok hy15) rfl rfl rfl Try.call89 (by simp) (by simp; rfl) ?_
                  refine ko [2, 6, 8, 9, 10, 11, 13, 16, 29, 30, 31, 47, 48, 49] 1 (by simp; rfl) ?_
                  refine tops_nil ?_
                  replace h3 := bnd h3; obtain ⟨_, p65, h3⟩ := h3
                  replace p65 := ck_some p65
                  have p65' := p65; try simp at p65'
                  refine lr (by simp [p65, p65']; rfl) ?_
                  refine lr (by simp; rfl) ?_
                  exact ⟨_, hg3 _ (Option.some.inj h3), wk (by simp [weak_iff])⟩
                · rw [if_neg (by rw [c81]; decide)] at h3
                  refine tr_skip ?_
                  refine lr (by simp; rfl) ?_
                  exact ⟨_, hg3 _ (Option.some.inj h3), wk (by simp [weak_iff])⟩
              · rw [if_neg (by rw [c80]; decide)] at h3
                refine tr_exit ?_
                exact ⟨_, he3 _ (Option.some.inj h3), wk (by simp [weak_iff])⟩
          · replace h2 := bnd h2; obtain ⟨v16, hvv16, h2⟩ := h2
            refine sjv (fun v16_ : Bool => ({ nt := 77, env := [(2, .ptr 2 0), (6, .vec 18), (8, .d (.int .i64 (IntKind.i64.wrap (s6.1 + 1)))), (9, .d (.int .i64 s6.2.1)), (10, .d (.int .i64 s4.2.2.1)), (11, .vec 71), (13, .ptr 13 0), (29, .vec 23), (30, .d (.int .i64 ((s4.2.2.2.2).length : Int))), (31, .d (.int .i64 s6.2.2.1)), (43, .d (.bool v16_))], box := [(2, [.d (.int .i64 a0.Slots), .d (.slice (rowsF api_Consumer_row a0.Consumers))]), (13, [.d (.int .i64 x7.Known), .d (.int .i64 x7.Valid), .d (.slice (rowsF api_Unit_row x7.Units))])], vec := [(18, ⟨mTag 114 1 false false, 2, rowsF (mRow (iRow .i64) bRow) s6.2.2.2.1⟩), (23, ⟨33, 3, rowsF api_Rotation_row s4.2.2.2.2⟩), (71, ⟨33, 3, rowsF api_Rotation_row s6.2.2.2.2⟩)] } : St)) (fun v16_ => v16 = v16_) (fun v16_ e => ?_) ?_
            · subst e
              refine tr_cond (b := v16) (by simp) (fun c84 => ?_) (fun c84 => ?_)
              · rw [if_pos c84] at h2
                refine lr (by simp; rfl) ?_
                exact ⟨_, h2, wk (by simp [weak_iff])⟩
              · rw [if_neg (by rw [c84]; decide)] at h2
                refine tr_skip ?_
                exact ⟨_, h2, wk (by simp [weak_iff])⟩
            · refine kc1 ?_
              refine ko [2, 6, 8, 9, 10, 11, 13, 29, 30, 31, 39] 3 (by simp; rfl) ?_
              refine tops_split 39 (decide (s6.2.1 < 0)) (by simp) (fun c85 => ?_) (fun c85 => ?_)
              · rw [if_pos c85] at hvv16
                refine ko [2, 6, 8, 9, 10, 11, 13, 29, 30, 31, 39, 40, 41] 2 (by simp; rfl) ?_
                replace hvv16 := bnd hvv16; obtain ⟨y17, hy17, hvv16⟩ := hvv16
                refine kcall [2, 6, 8, 9, 10, 11, 13, 29, 30, 31, 39, 40, 41, 42] [] (ref32_Ended_ok hy17) rfl rfl rfl Try.call27 (by simp) (by simp; rfl) ?_
                refine ko [2, 6, 8, 9, 10, 11, 13, 29, 30, 31, 40, 41, 42, 43] 1 (by simp; rfl) ?_
                refine tops_nil ?_
                cases hvv16
                exact ⟨_, rfl, wk (by simp [weak_iff])⟩
              · rw [if_neg (by rw [c85]; decide)] at hvv16
                refine kskip 3 [] (by kernel_rfl) ?_
                refine ko [2, 6, 8, 9, 10, 11, 13, 29, 30, 31, 43] 1 (by simp; rfl) ?_
                refine tops_nil ?_
                cases hvv16
                exact ⟨_, rfl, wk (by simp [weak_iff])⟩
        · rw [if_neg (by rw [c73]; decide)] at h2
          refine tr_exit ?_
          exact ⟨_, he2 _ (Option.some.inj h2), wk (by simp [weak_iff])⟩
    · rw [if_neg (by rw [c49]; decide)] at h1
      refine tr_exit ?_
      exact ⟨_, he1 _ (Option.some.inj h1), wk (by simp [weak_iff])⟩
set_option maxHeartbeats 1000000 in
theorem ref34_Distance_ok {a0 : api_Fleet} {a1 : api_Rotation} {r : Int × Bool × Int} (h0 : ref34_Distance a0 a1 = some r) : FnOK Try.prog 32 [] [.agg (api_Fleet_av a0), .agg (api_Rotation_av a1)] (.tup [.d (.int .i64 r.1), .d (.bool r.2.1), .d (.int .i64 r.2.2)]) [] := by
  unfold ref34_Distance at h0
  refine fn_ok (nt := 26) (rs := [.tmp 4, .tmp 5, .tmp 6]) Try.func32 rfl Try.ntmps32 rfl (by simp) (by decide) rfl fun K => ?_
  refine kr [2, 3] (by simp; rfl) ?_
  refine tr_seq ?_
  refine kc ?_
  refine ko [2, 3, 10, 11] 2 (by simp; rfl) ?_
  replace h0 := bnd h0; obtain ⟨y1, hy1, h0⟩ := h0
  refine kcall [2, 3, 12] [] (ref34_check_ok hy1) rfl rfl rfl Try.call69 (by simp) (by simp; rfl) ?_
  refine ko [2, 3, 7] 1 (by simp; rfl) ?_
  refine tops_nil ?_
  refine kr [2, 3, 7, 14] (by simp; rfl) ?_
  refine tr_cond (b := (y1 != 0)) (by simp) (fun c1 => ?_) (fun c1 => ?_)
  · rw [if_pos c1] at h0
    refine kr [4, 5, 6] (by simp; rfl) ?_
    cases h0
    exact tr_ret ⟨[], by simp, rfl, by simp⟩
  · rw [if_neg (by rw [c1]; decide)] at h0
    refine tr_skip ?_
    refine kc ?_
    refine ko [17, 18] 2 (by simp; rfl) ?_
    replace h0 := bnd h0; obtain ⟨y2, hy2, h0⟩ := h0
    refine kcall [19] [] (ref34_search_ok hy2) rfl rfl rfl Try.call70 (by simp) (by simp; rfl) ?_
    refine ko [9] 5 (by simp; rfl) ?_
    refine tops_nil ?_
    refine kr [4, 5, 6] (by simp; rfl) ?_
    cases h0
    exact tr_ret ⟨[], by simp, rfl, by simp⟩
set_option maxHeartbeats 1000000 in
theorem law35_PlanWhenever_ok {a0 : List Int} {r : Bool} (h0 : law35_PlanWhenever a0 = some r) : FnOK Try.prog 11 [] [.d (.slice (rowsF (iRow .i64) a0))] (.d (.bool r)) [] := by
  unfold law35_PlanWhenever at h0
  refine fn_ok (nt := 79) (rs := [.tmp 2]) Try.func11 rfl Try.ntmps11 rfl (by simp) (by decide) rfl fun K => ?_
  refine kr [0] (by simp; rfl) ?_
  refine tr_seq ?_
  refine kr [0, 19] (by simp; rfl) ?_
  refine tr_cond (b := (decide (200 < ((a0).length : Int)))) (by simp) (fun c1 => ?_) (fun c1 => ?_)
  · rw [if_pos c1] at h0
    refine kc ?_
    replace h0 := bnd h0; obtain ⟨y1, hy1, h0⟩ := h0
    refine kcall [20] [] (law35_awake_ok hy1) rfl rfl rfl Try.call45 (by simp) (by simp; rfl) ?_
    refine ko [2] 1 (by simp; rfl) ?_
    refine tops_nil ?_
    cases h0
    exact tr_ret ⟨[], by simp, rfl, by simp⟩
  · rw [if_neg (by rw [c1]; decide)] at h0
    refine tr_skip ?_
    refine kr [3] (by simp; rfl) ?_
    refine kc ?_
    refine ko [24] 1 (by simp; rfl) ?_
    replace h0 := bnd h0; obtain ⟨y2, hy2, h0⟩ := h0
    refine kcall [25] [23] (make_Fleet_ok hy2) rfl rfl rfl Try.call17 (by simp) (by simp; rfl) ?_
    refine ko [4] 2 (by simp; rfl) ?_
    refine tops_nil ?_
    refine kc ?_
    refine ko [4, 27] 1 (by simp; rfl) ?_
    replace h0 := bnd h0; obtain ⟨y3, hy3, h0⟩ := h0
    refine kcall [4, 28] [] (ref32_Start_ok hy3) rfl rfl rfl Try.call30 (by simp) (by simp; rfl) ?_
    refine ko [4, 5] 6 (by simp; rfl) ?_
    refine tops_nil ?_
    refine kc ?_
    refine ko [4, 5, 32, 33] 2 (by simp; rfl) ?_
    replace h0 := bnd h0; obtain ⟨y4, hy4, h0⟩ := h0
    refine kcall [4, 5, 34] [] (ref34_Distance_ok hy4) rfl rfl rfl Try.call32 (by simp) (by simp; rfl) ?_
    refine ko [4, 5, 8, 9] 7 (by simp; rfl) ?_
    refine tops_nil ?_
    refine kc ?_
    refine ko [4, 5, 8, 9, 39] 1 (by simp; rfl) ?_
    replace h0 := bnd h0; obtain ⟨y5, hy5, h0⟩ := h0
    refine kcall [4, 5, 8, 9, 40] [] (plan_Make_ok hy5) rfl rfl rfl Try.call46 (by simp) (by simp; rfl) ?_
    refine ko [4, 5, 8, 9, 10, 11] 5 (by simp; rfl) ?_
    refine tops_nil ?_
    refine kc ?_
    refine ko [4, 5, 8, 9, 10, 11, 44] 1 (by simp; rfl) ?_
    replace h0 := bnd h0; obtain ⟨y6, hy6, h0⟩ := h0
    refine kcall [4, 5, 8, 9, 10, 11, 45] [] (plan_Why_ok hy6) rfl rfl rfl Try.call47 (by simp) (by simp; rfl) ?_
    refine ko [4, 5, 8, 9, 10, 11, 13] 6 (by simp; rfl) ?_
    refine tops_nil ?_
    refine tr_seq ?_
    replace h0 := bnd h0; obtain ⟨v7, hvv7, h0⟩ := h0
    refine sjv (fun v7_ : Bool => ({ nt := 79, env := [(4, .ptr 4 0), (5, .ptr 5 0), (8, .d (.bool y4.2.1)), (10, .d (.slice (rowsF api_Step_row y5.1))), (60, .d (.bool v7_))], box := [(4, [.d (.int .i64 y2.1.Slots), .d (.slice (rowsF api_Consumer_row y2.1.Consumers))]), (5, [.d (.int .i64 y3.1.Known), .d (.int .i64 y3.1.Valid), .d (.slice (rowsF api_Unit_row y3.1.Units))])], vec := [] } : St)) (fun v7_ => v7 = v7_) (fun v7_ e => ?_) ?_
    · subst e
      refine tr_cond (b := v7) (by simp) (fun c6 => ?_) (fun c6 => ?_)
      · rw [if_pos c6] at h0
        refine kr [2] (by simp; rfl) ?_
        cases h0
        exact tr_ret ⟨[], by simp, rfl, by simp⟩
      · rw [if_neg (by rw [c6]; decide)] at h0
        refine tr_skip ?_
        refine kc ?_
        refine ko [8, 10, 62, 63] 2 (by simp; rfl) ?_
        replace h0 := bnd h0; obtain ⟨y8, hy8, h0⟩ := h0
        refine kcall [8, 10, 64] [] (ref34_Distance_ok hy8) rfl rfl rfl Try.call32 (by simp) (by simp; rfl) ?_
        refine ko [8, 10, 14] 7 (by simp; rfl) ?_
        refine tops_nil ?_
        replace h0 := bnd h0; obtain ⟨v9, hvv9, h0⟩ := h0
        refine sjv (fun v9_ : Bool => ({ nt := 79, env := [(2, .d (.bool v9_))], box := [], vec := [] } : St)) (fun v9_ => v9 = v9_) (fun v9_ e => ?_) ?_
        · subst e
          cases h0
          exact tr_ret ⟨[], by simp, rfl, by simp⟩
        · refine kc1 ?_
          refine ko [10, 14, 70] 3 (by simp; rfl) ?_
          refine tops_split 70 (!y4.2.1) (by simp) (fun c11 => ?_) (fun c11 => ?_)
          · rw [if_pos c11] at hvv9
            refine kskip 4 [] (by kernel_rfl) ?_
            refine ko [76] 2 (by simp; rfl) ?_
            replace hvv9 := bnd hvv9; obtain ⟨y10, hy10, hvv9⟩ := hvv9
            refine kcall [76, 77] [] (law35_awake_ok hy10) rfl rfl rfl Try.call45 (by simp) (by simp; rfl) ?_
            refine ko [2] 2 (by simp; rfl) ?_
            refine tops_nil ?_
            cases hvv9
            exact ⟨_, rfl, wk (by simp [weak_iff])⟩
          · rw [if_neg (by rw [c11]; decide)] at hvv9
            refine ko [76] 6 (by simp; rfl) ?_
            refine tops_split 76 (decide (y8.1 ≤ ((y5.1).length : Int))) (by simp) (fun c12 => ?_) (fun c12 => ?_)
            · rw [if_pos c12] at hvv9
              replace hvv9 := bnd hvv9; obtain ⟨y11, hy11, hvv9⟩ := hvv9
              refine kcall [76, 77] [] (law35_awake_ok hy11) rfl rfl rfl Try.call45 (by simp) (by simp; rfl) ?_
              refine ko [2] 2 (by simp; rfl) ?_
              refine tops_nil ?_
              cases hvv9
              exact ⟨_, rfl, wk (by simp [weak_iff])⟩
            · rw [if_neg (by rw [c12]; decide)] at hvv9
              refine ko [2] 3 (by simp; rfl) ?_
              refine tops_nil ?_
              cases hvv9
              exact ⟨_, rfl, wk (by simp [weak_iff])⟩
    · refine kc1 ?_
      refine ko [4, 5, 8, 10, 11, 13, 50] 3 (by simp; rfl) ?_
      refine tops_split 50 (y4.2.2 != 0) (by simp) (fun c13 => ?_) (fun c13 => ?_)
      · rw [c13] at hvv7
        refine kskip 3 [] (by kernel_rfl) ?_
        refine ko [4, 5, 8, 10, 11, 55] 2 (by simp; rfl) ?_
        refine kskip 4 [] (by kernel_rfl) ?_
        refine ko [4, 5, 8, 10, 60] 1 (by simp; rfl) ?_
        refine tops_nil ?_
        cases hvv7
        exact ⟨_, rfl, wk (by simp [weak_iff])⟩
      · rw [c13] at hvv7
        refine ko [4, 5, 8, 10, 11, 55] 5 (by simp; rfl) ?_
        refine tops_split 55 (y4.2.1 == y6.2) (by simp) (fun c14 => ?_) (fun c14 => ?_)
        · rw [c14] at hvv7
          refine kskip 4 [] (by kernel_rfl) ?_
          refine ko [4, 5, 8, 10, 60] 1 (by simp; rfl) ?_
          refine tops_nil ?_
          cases hvv7
          exact ⟨_, rfl, wk (by simp [weak_iff])⟩
        · rw [c14] at hvv7
          refine ko [4, 5, 8, 10, 60] 5 (by simp; rfl) ?_
          refine tops_nil ?_
          cases hvv7
          exact ⟨_, rfl, wk (by simp [weak_iff])⟩
end Go.Vl
