/- Walks: each function of the given program computes what its mirror says. Conditions: none. -/
import Derived.Test.YtnnipdjbiblekaaWw2
set_option linter.unusedSimpArgs false
set_option linter.unusedVariables false
namespace Go.Vl
open Go Go.Proofs
set_option maxHeartbeats 1000000 in
theorem slices_Clone_api_Unit_ok {a0 : List api_Unit} {r : List api_Unit} (h0 : slices_Clone_api_Unit a0 = some r) : FnOK Try.prog 74 [] [.d (.slice (rowsF api_Unit_row a0))] (.d (.slice (rowsF api_Unit_row r))) [] := by
  unfold slices_Clone_api_Unit at h0
  replace h0 := bnd h0; obtain ⟨_, p1, h0⟩ := h0; replace p1 := ck_some p1; cases h0
  refine fn_ok (nt := 8) (rs := [.tmp 2]) Try.func74 rfl Try.ntmps74 rfl (by simp) (by decide) rfl fun K => ?_
  refine kr [0, 2] (by simp; rfl) ?_
  cases a0 with
  | nil =>
    refine tr_seq ?_
    refine kc ?_
    refine ko [0, 3] 1 (by simp; rfl) ?_
    refine tops_isnil (by simp) rfl rfl (by simp) Try.underlying31 (by simp) (by simp) fun b => ?_
    refine tops_nil ?_
    refine tr_cond (b := b) (by simp) (fun cb => ?_) (fun cb => ?_)
    · refine kr [2] (by simp; rfl) ?_
      exact tr_ret ⟨[], by simp, rfl, by simp⟩
    · refine tr_skip ?_
      refine kr [2] (by simp; rfl) ?_
      exact tr_ret ⟨[7], by simp, rfl, by simp⟩
  | cons x l =>
    refine tr_seq ?_
    refine kr [0, 4] (by simp; rfl) ?_
    refine tr_cond (b := false) (by simp) (fun h => by cases h) (fun _ => ?_)
    refine tr_skip ?_
    have p2 := p1; simp at p2
    refine kr [2] (by simp [p1, p2]; rfl) ?_
    exact tr_ret ⟨[7], by simp, rfl, by simp⟩
set_option maxHeartbeats 1000000 in
theorem fleet_Copy_ok {a0 : api_Rotation} {r : api_Rotation} (h0 : fleet_Copy a0 = some r) : FnOK Try.prog 52 [] [.agg (api_Rotation_av a0)] (.agg (api_Rotation_av r)) [] := by
  unfold fleet_Copy at h0
  refine fn_ok (nt := 8) (rs := [.cell 2 33]) Try.func52 rfl Try.ntmps52 rfl (by simp) (by decide) rfl fun K => ?_
  refine kr [1, 2] (by simp; rfl) ?_
  refine kc ?_
  refine ko [1, 2, 4] 2 (by simp; rfl) ?_
  replace h0 := bnd h0; obtain ⟨y1, hy1, h0⟩ := h0
  refine kcall [1, 2, 5] [] (slices_Clone_api_Unit_ok hy1) rfl rfl rfl Try.call74 (by simp) (by simp; rfl) ?_
  refine ko [1, 2] 2 (by simp; rfl) ?_
  refine tops_nil ?_
  refine kr [2] (by simp; rfl) ?_
  cases h0
  exact tr_ret ⟨[], by simp, rfl, by simp⟩
set_option maxHeartbeats 1000000 in
theorem make_Tape_Next_ok {a0 : make_Tape} {a1 : Int} {r : Int × make_Tape} (h0 : make_Tape_Next a0 a1 = some r) : FnOK Try.prog 22 [make_Tape_av a0] [.ptr (InO 0) 0, .d (.int .i64 a1)] (.d (.int .i64 r.1)) [make_Tape_av r.2] := by
  unfold make_Tape_Next at h0
  refine fn_ok (nt := 37) (rs := [.tmp 4]) Try.func22 rfl Try.ntmps22 rfl (by simp) (by decide) rfl fun K => ?_
  refine kr [0, 1] (by simp; rfl) ?_
  refine tr_seq ?_
  refine kd [[], [0], [1], [2], [], [4], [5], [6], [7], [3, 8]] [] [] none [] 10 fol (by decide +kernel) (by simp) ?_
  refine dr_go 0 2 rfl (by simp (maxSteps := 1000000); rfl) ?_
  refine dr_go 2 2 rfl (by simp (maxSteps := 1000000); rfl) ?_
  refine dr_go 4 2 rfl (by simp (maxSteps := 1000000); rfl) ?_
  refine dr_go 6 2 rfl (by simp (maxSteps := 1000000); rfl) ?_
  refine dr_go 8 2 rfl (by simp (maxSteps := 1000000); rfl) ?_
  refine dr_end rfl (tops_nil ?_)
  refine tr_cond (b := (decide (((a0.L).length : Int) ≤ a0.at_))) (by simp) (fun c1 => ?_) (fun c1 => ?_)
  · rw [if_pos c1] at h0
    refine kr [4] (by simp; rfl) ?_
    cases h0
    exact tr_ret ⟨[], by simp, rfl, by simp⟩
  · rw [if_neg (by rw [c1]; decide)] at h0
    refine tr_skip ?_
    refine kd [[], [0], [1], [2], [], [4], [5], [6], [3, 7], [8], [9], [10]] [] [] none [] 12 fol (by decide +kernel) (by simp) ?_
    replace h0 := bnd h0; obtain ⟨x1, p3, h0⟩ := h0
    replace p3 := idx_some p3
    have p3' := p3; try simp at p3'
    refine dr_go 0 2 rfl (by simp (maxSteps := 1000000) [p3, p3']; rfl) ?_
    refine dr_go 2 2 rfl (by simp (maxSteps := 1000000) [p3, p3']; rfl) ?_
    refine dr_go 4 2 rfl (by simp (maxSteps := 1000000) [p3, p3']; rfl) ?_
    refine dr_go 6 2 rfl (by simp (maxSteps := 1000000) [p3, p3']; rfl) ?_
    refine dr_go 8 2 rfl (by simp (maxSteps := 1000000) [p3, p3']; rfl) ?_
    refine dr_go 10 2 rfl (by simp (maxSteps := 1000000) [p3, p3']; rfl) ?_
    refine dr_end rfl (tops_nil ?_)
    refine kr [1, 5] (by simp; rfl) ?_
    replace h0 := bnd h0; obtain ⟨_, p4, h0⟩ := h0
    replace p4 := ck_some p4
    have p4' := p4; try simp at p4'
    refine kr [4] (by simp [p4, p4']; rfl) ?_
    cases h0
    exact tr_ret ⟨[], by simp, rfl, by simp⟩
set_option maxHeartbeats 1000000 in
theorem make_Tape_Between_ok {a0 : make_Tape} {a1 : Int} {a2 : Int} {r : Int × make_Tape} (h0 : make_Tape_Between a0 a1 a2 = some r) : FnOK Try.prog 21 [make_Tape_av a0] [.ptr (InO 0) 0, .d (.int .i64 a1), .d (.int .i64 a2)] (.d (.int .i64 r.1)) [make_Tape_av r.2] := by
  unfold make_Tape_Between at h0
  refine fn_ok (nt := 15) (rs := [.tmp 6]) Try.func21 rfl Try.ntmps21 rfl (by simp) (by decide) rfl fun K => ?_
  refine kr [0, 1, 2] (by simp; rfl) ?_
  refine kc ?_
  refine ko [7, 8, 12] 6 (by simp; rfl) ?_
  replace h0 := bnd h0; obtain ⟨y1, hy1, h0⟩ := h0
  refine kcall [7, 13] [1000000] (make_Tape_Next_ok hy1) rfl rfl rfl Try.call22 (by simp) (by simp; rfl) ?_
  refine ko [6] 2 (by simp; rfl) ?_
  refine tops_nil ?_
  cases h0
  exact tr_ret ⟨[], by simp, rfl, by simp⟩
set_option maxHeartbeats 1000000 in
theorem make_Fleet_ok {a0 : make_Tape} {a1 : Int} {r : api_Fleet × make_Tape} (h0 : make_Fleet a0 a1 = some r) : FnOK Try.prog 5 [make_Tape_av a0] [.ptr (InO 0) 0, .d (.int .i64 a1)] (.agg (api_Fleet_av r.1)) [make_Tape_av r.2] := by
  unfold make_Fleet at h0
  refine fn_ok (nt := 32) (rs := [.cell 4 29]) Try.func5 rfl Try.ntmps5 rfl (by simp) (by decide) rfl fun K => ?_
  refine kr [0, 1, 4] (by simp; rfl) ?_
  refine kc ?_
  refine ko [0, 1, 4, 7] 1 (by simp; rfl) ?_
  replace h0 := bnd h0; obtain ⟨y1, hy1, h0⟩ := h0
  refine kcall [0, 1, 4, 8] [1000000] (make_Tape_Between_ok hy1) rfl rfl rfl Try.call21 (by simp) (by simp; rfl) ?_
  refine ko [0, 1, 4, 5] 3 (by simp; rfl) ?_
  refine tops_nil ?_
  refine tr_seq ?_
  refine kc ?_
  refine ko [0, 4, 5, 10, 11] 2 (by simp; rfl) ?_
  replace h0 := bnd h0; obtain ⟨y2, hy2, h0⟩ := h0
  refine kcall [0, 4, 5, 12] [1000000] (make_Tape_Between_ok hy2) rfl rfl rfl Try.call21 (by simp) (by simp; rfl) ?_
  refine ko [0, 4, 5, 6] 1 (by simp; rfl) ?_
  refine tops_nil ?_
  refine tr_wk (wk_ownbox 5 1 29 63 3 (by simp; rfl) (by simp) (by simp)) ?_
  replace h0 := bnd h0; obtain ⟨e1, hI1, h0⟩ := h0
  refine tjv (fun v3 : (List Int) × Int × (List api_Consumer) => ({ nt := 32, env := [(4, .ptr 4 0), (5, .ptr 5 0)], box := [(4, [.d (.int .i64 0), .nilS]), (5, [.d (.int .i64 y1.1), .vec 29]), (1000000, [.d (.slice (rowsF (iRow .i64) v3.1)), .d (.int .i64 v3.2.1)])], vec := [(29, ⟨63, 3, rowsF api_Consumer_row v3.2.2⟩)] } : St)) (fun v3 => v3 = e1) (fun v3 hI1e _ W1 => ?_) ?_
  · subst hI1e
    refine tr_wk W1 ?_
    refine kr [4] (by simp; rfl) ?_
    cases h0
    exact tr_ret ⟨[29], by simp, rfl, by simp⟩
  · refine tr_block (tr_iter (fun s4 : Int × (List Int) × Int × (List api_Consumer) => ({ nt := 32, env := [(0, .ptr 1000000 0), (4, .ptr 4 0), (5, .ptr 5 0), (6, .d (.int .i64 s4.1))], box := [(4, [.d (.int .i64 0), .nilS]), (5, [.d (.int .i64 y1.1), .vec 29]), (1000000, [.d (.slice (rowsF (iRow .i64) s4.2.1)), .d (.int .i64 s4.2.2.1)])], vec := [(29, ⟨63, 3, rowsF api_Consumer_row s4.2.2.2⟩)] } : St)) hI1 (wk (by simp [weak_iff])) fun G1 s4 o1 h1 hg1 he1 => ?_)
    unfold make_Fleet_l0 at h1
    refine tr_seq ?_
    refine kr [0, 4, 5, 6, 14] (by simp; rfl) ?_
    refine tr_cond (b := (decide (0 < s4.1))) (by simp) (fun c4 => ?_) (fun c4 => ?_)
    · rw [if_pos c4] at h1
      refine tr_skip ?_
      refine tr_seq ?_
      refine tr_block ?_
      refine tr_wk (wk_ren 29 700029) ?_
      refine kd1 [[], [0], [], [2], [], [3, 4], [5], [], [3, 5, 7], [8], [3, 5, 6, 9], [3, 5, 10], [1, 3, 5, 8, 11], [12], [1, 12, 13]] [3, 5, 8, 12, 14] [(5, [12, 14]), (1000000, [3, 5, 8, 12])] (some (12, 700029)) [18] 15 fol (by decide +kernel) (by simp) ?_
      refine dr_go 0 2 rfl (by simp (maxSteps := 1000000); rfl) ?_
      refine dr_go 2 1 rfl (by simp (maxSteps := 1000000); rfl) ?_
      replace h1 := bnd h1; obtain ⟨y5, hy5, h1⟩ := h1
      refine dr_call 3 [1000000] (make_Tape_Next_ok hy5) rfl rfl rfl rfl rfl Try.call22 (by simp) ?_
      refine dr_go 4 1 rfl (by simp (maxSteps := 1000000); rfl) ?_
      replace h1 := bnd h1; obtain ⟨y6, hy6, h1⟩ := h1
      refine dr_call 5 [1000000] (make_Tape_Next_ok hy6) rfl rfl rfl rfl rfl Try.call22 (by simp) ?_
      refine dr_go 6 2 rfl (by simp (maxSteps := 1000000); rfl) ?_
      replace h1 := bnd h1; obtain ⟨y7, hy7, h1⟩ := h1
      refine dr_call 8 [1000000] (make_Tape_Next_ok hy7) rfl rfl rfl rfl rfl Try.call22 (by simp) ?_
      replace h1 := bnd h1; obtain ⟨_, p12, h1⟩ := h1
      replace p12 := ck_some p12
      have p12' := p12; try simp at p12'
      refine dr_go 9 2 rfl (by simp (maxSteps := 1000000) [p12, p12']; rfl) ?_
      refine dr_go 11 2 rfl (by simp (maxSteps := 1000000) [p12, p12']; rfl) ?_
      refine dr_go 13 2 rfl (by simp (maxSteps := 1000000) [p12, p12']; rfl) ?_
      refine dr_end rfl (tops_nil ?_)
      refine lr (by simp; rfl) ?_
      exact ⟨_, hg1 _ (Option.some.inj h1), wk (by simp [weak_iff])⟩
    · rw [if_neg (by rw [c4]; decide)] at h1
      refine tr_exit ?_
      exact ⟨_, he1 _ (Option.some.inj h1), wk (by simp [weak_iff])⟩
set_option maxHeartbeats 1000000 in
theorem search_check_ok {a0 : api_Fleet} {a1 : api_Rotation} {r : Int} (h0 : search_check a0 a1 = some r) : FnOK Try.prog 47 [] [.agg (api_Fleet_av a0), .agg (api_Rotation_av a1)] (.d (.int .i64 r)) [] := by
  unfold search_check at h0
  refine fn_ok (nt := 15) (rs := [.tmp 4]) Try.func47 rfl Try.ntmps47 rfl (by simp) (by decide) rfl fun K => ?_
  refine kr [2, 3] (by simp; rfl) ?_
  refine tr_seq ?_
  refine tr_block ?_
  refine kc ?_
  refine ko [2, 6, 7] 2 (by simp; rfl) ?_
  replace h0 := bnd h0; obtain ⟨y1, hy1, h0⟩ := h0
  refine kcall [2, 8] [] (fleet_Right_ok hy1) rfl rfl rfl Try.call30 (by simp) (by simp; rfl) ?_
  refine ko [2, 5] 2 (by simp; rfl) ?_
  refine tops_nil ?_
  refine tr_cond (b := (!y1)) (by simp) (fun c1 => ?_) (fun c1 => ?_)
  · rw [if_pos c1] at h0
    refine kr [4] (by simp; rfl) ?_
    cases h0
    exact tr_ret ⟨[], by simp, rfl, by simp⟩
  · rw [if_neg (by rw [c1]; decide)] at h0
    refine kr [10] (by simp; rfl) ?_
    refine tr_cond (b := (decide (3 < ((a0.Consumers).length : Int)))) (by simp) (fun c2 => ?_) (fun c2 => ?_)
    · rw [if_pos c2] at h0
      refine kr [4] (by simp; rfl) ?_
      cases h0
      exact tr_ret ⟨[], by simp, rfl, by simp⟩
    · rw [if_neg (by rw [c2]; decide)] at h0
      refine tr_skip ?_
      refine kr [4] (by simp; rfl) ?_
      cases h0
      exact tr_ret ⟨[], by simp, rfl, by simp⟩
set_option maxHeartbeats 1000000 in
theorem search_found_key_ok {a0 : search_found} {r : (List Int)} (h0 : search_found_key a0 = some r) : FnOK Try.prog 70 [] [.agg (search_found_av a0)] (.agg (arC (iRow .i64) r)) [] := by
  unfold search_found_key at h0
  refine fn_ok (nt := 42) (rs := [.cell 2 132]) Try.func70 rfl Try.ntmps70 rfl (by simp) (by decide) rfl fun K => ?_
  refine kr [1, 2] (by simp; rfl) ?_
  refine kr [1, 2, 3] (by simp [(show (arC (iRow .i64) (zerosI 11)).drop 1 = [.d (.int .i64 0), .d (.int .i64 0), .d (.int .i64 0), .d (.int .i64 0), .d (.int .i64 0), .d (.int .i64 0), .d (.int .i64 0), .d (.int .i64 0), .d (.int .i64 0), .d (.int .i64 0)] from rfl), (show (arC (iRow .i64) (zerosI 11)).drop 2 = [.d (.int .i64 0), .d (.int .i64 0), .d (.int .i64 0), .d (.int .i64 0), .d (.int .i64 0), .d (.int .i64 0), .d (.int .i64 0), .d (.int .i64 0), .d (.int .i64 0)] from rfl), (show (arC (iRow .i64) (zerosI 11)).drop 3 = [.d (.int .i64 0), .d (.int .i64 0), .d (.int .i64 0), .d (.int .i64 0), .d (.int .i64 0), .d (.int .i64 0), .d (.int .i64 0), .d (.int .i64 0)] from rfl), (show (arC (iRow .i64) (zerosI 11)).drop 4 = [.d (.int .i64 0), .d (.int .i64 0), .d (.int .i64 0), .d (.int .i64 0), .d (.int .i64 0), .d (.int .i64 0), .d (.int .i64 0)] from rfl), (show (arC (iRow .i64) (zerosI 11)).drop 5 = [.d (.int .i64 0), .d (.int .i64 0), .d (.int .i64 0), .d (.int .i64 0), .d (.int .i64 0), .d (.int .i64 0)] from rfl), (show (arC (iRow .i64) (zerosI 11)).drop 6 = [.d (.int .i64 0), .d (.int .i64 0), .d (.int .i64 0), .d (.int .i64 0), .d (.int .i64 0)] from rfl), (show (arC (iRow .i64) (zerosI 11)).drop 7 = [.d (.int .i64 0), .d (.int .i64 0), .d (.int .i64 0), .d (.int .i64 0)] from rfl), (show (arC (iRow .i64) (zerosI 11)).drop 8 = [.d (.int .i64 0), .d (.int .i64 0), .d (.int .i64 0)] from rfl), (show (arC (iRow .i64) (zerosI 11)).drop 9 = [.d (.int .i64 0), .d (.int .i64 0)] from rfl), (show (arC (iRow .i64) (zerosI 11)).drop 10 = [.d (.int .i64 0)] from rfl), (show (arC (iRow .i64) (zerosI 11)).drop 11 = [] from rfl)]; rfl) ?_
  refine tr_seq ?_
  refine kr [2, 3, 15, 16, 17] (by simp; rfl) ?_
  replace h0 := bnd h0; obtain ⟨e1, hI1, h0⟩ := h0
  refine tjv (fun v1 : (List Int) => ({ nt := 42, env := [(2, .ptr 2 0), (3, .ptr 3 0)], box := [(2, arC (iRow .i64) (zerosI 11)), (3, arC (iRow .i64) v1)], vec := [] } : St)) (fun v1 => v1 = e1) (fun v1 hI1e _ W1 => ?_) ?_
  · subst hI1e
    refine tr_wk W1 ?_
    replace h0 := bnd h0; obtain ⟨_, p17, h0⟩ := h0
    replace p17 := ck_some p17
    have p17' := p17; try simp at p17'
    replace h0 := bnd h0; obtain ⟨_, p18, h0⟩ := h0
    replace p18 := ck_some p18
    have p18' := p18; try simp at p18'
    refine kr [2] (by simp [p17, arC_take p17, arC_drop p17, arC_take (zerosI_length 11), arC_drop (zerosI_length 11), p18, arC_take p18, arC_drop p18, p17', p18']; rfl) ?_
    replace h0 := bnd h0; obtain ⟨_, p19, h0⟩ := h0
    replace p19 := ck_some p19
    have p19' := p19; try simp at p19'
    cases h0
    exact tr_ret ⟨[], by simp [p19, arC_take p19, arC_drop p19, p19'], by simp, by simp [p19, arC_take p19, arC_drop p19, p19']⟩
  · refine tr_block (tr_iter (fun s2 : Int × (List Int) => ({ nt := 42, env := [(2, .ptr 2 0), (3, .ptr 3 0), (15, .d (.slice (rowsF api_Unit_row a0.Rotation.Units))), (16, .d (.int .i64 ((a0.Rotation.Units).length : Int))), (17, .d (.int .i64 s2.1))], box := [(2, arC (iRow .i64) (zerosI 11)), (3, arC (iRow .i64) s2.2)], vec := [] } : St)) hI1 (wk (by simp [weak_iff])) fun G1 s2 o1 h1 hg1 he1 => ?_)
    unfold search_found_key_l0 at h1
    refine kr [2, 3, 15, 16, 17, 18] (by simp; rfl) ?_
    refine tr_seq ?_
    refine tr_cond (b := (decide (s2.1 < ((a0.Rotation.Units).length : Int)))) (by simp) (fun c5 => ?_) (fun c5 => ?_)
    · rw [if_pos c5] at h1
      refine tr_skip ?_
      refine tr_seq ?_
      refine tr_block ?_
      replace h1 := bnd h1; obtain ⟨x3, p20, h1⟩ := h1
      replace p20 := idx_some p20
      have p20' := p20; try simp at p20'
      refine kr [2, 3, 4, 5, 15, 16, 17] (by simp [p20, p20']; rfl) ?_
      replace h1 := bnd h1; obtain ⟨_, p21, h1⟩ := h1
      replace p21 := ck_some p21
      have p21' := p21; try simp at p21'
      replace h1 := bnd h1; obtain ⟨_, p22, h1⟩ := h1
      replace p22 := ck_some p22
      replace h1 := bnd h1; obtain ⟨_, p23, h1⟩ := h1
      replace p23 := ck_some p23
      have p23' := p23; try simp at p23'
      replace h1 := bnd h1; obtain ⟨_, p24, h1⟩ := h1
      replace p24 := ck_some p24
      have p22b : (Int.toNat (IntKind.i64.wrap (2 + (IntKind.i64.wrap (3 * s2.1))))) < (s2.2).length := by (first | exact p22 | (have q := p22; simp only [List.length_set] at q; exact q))
      have p24b : (Int.toNat (IntKind.i64.wrap (3 + (IntKind.i64.wrap (3 * s2.1))))) < (s2.2).length := by (first | exact p24 | (have q := p24; simp only [List.length_set] at q; exact q))
      have hcm25 : (Int.toNat (IntKind.i64.wrap (3 + (IntKind.i64.wrap (3 * s2.1))))) ≠ (Int.toNat (IntKind.i64.wrap (2 + (IntKind.i64.wrap (3 * s2.1))))) := by (intro e; have e' : (IntKind.i64.wrap (3 + (IntKind.i64.wrap (3 * s2.1)))) = (IntKind.i64.wrap (2 + (IntKind.i64.wrap (3 * s2.1)))) := (by omega); revert e'; simp only [IntKind.wrap_i64]; omega)
      refine kany (S := ({ nt := 42, env := [(2, .ptr 2 0), (3, .ptr 3 0), (4, .d (.int .i64 s2.1)), (5, .ptr 5 0), (15, .d (.slice (rowsF api_Unit_row a0.Rotation.Units))), (16, .d (.int .i64 ((a0.Rotation.Units).length : Int))), (17, .d (.int .i64 s2.1))], box := [(2, arC (iRow .i64) (zerosI 11)), (3, arC (iRow .i64) ((s2.2.set (Int.toNat (IntKind.i64.wrap (2 + (IntKind.i64.wrap (3 * s2.1))))) x3.Stored).set (Int.toNat (IntKind.i64.wrap (3 + (IntKind.i64.wrap (3 * s2.1))))) x3.Used)), (5, [.d (.bool x3.Up), .d (.int .i64 x3.Stored), .d (.int .i64 x3.Used)])], vec := [] } : St)) fol ?_ ?_
      ·
        refine ao_pure 0 rfl (by decide +kernel) (by decide +kernel) (by simp [pureP, pureB]) (fun c s h => by cases h.1) (by simp [p21, show (Int.toNat (IntKind.i64.wrap (2 + (IntKind.i64.wrap (3 * s2.1))))) + 1 ≤ (s2.2).length from p22, arC_put p22, p23, show (Int.toNat (IntKind.i64.wrap (3 + (IntKind.i64.wrap (3 * s2.1))))) + 1 ≤ ((s2.2.set (Int.toNat (IntKind.i64.wrap (2 + (IntKind.i64.wrap (3 * s2.1))))) x3.Stored)).length from p24, arC_put p24, (show (Int.toNat (IntKind.i64.wrap (3 + (IntKind.i64.wrap (3 * s2.1))))) + 1 ≤ (s2.2).length from Nat.succ_le_of_lt (by simpa using p24)), p21', p23', show (Int.toNat (IntKind.i64.wrap (2 + (IntKind.i64.wrap (3 * s2.1))))) + 1 ≤ (s2.2).length from p22b, show (Int.toNat (IntKind.i64.wrap (3 + (IntKind.i64.wrap (3 * s2.1))))) + 1 ≤ (s2.2).length from p24b, arC_put p24b, arC_put (l := (s2.2.set (Int.toNat (IntKind.i64.wrap (3 + (IntKind.i64.wrap (3 * s2.1))))) x3.Used)) (i := (Int.toNat (IntKind.i64.wrap (2 + (IntKind.i64.wrap (3 * s2.1)))))) (by simpa using p22b)]; rfl) ?_
        refine ao_pure 1 rfl (by decide +kernel) (by decide +kernel) (by simp [pureP, pureB]) (fun c s h => by cases h.1) (by simp [p21, show (Int.toNat (IntKind.i64.wrap (2 + (IntKind.i64.wrap (3 * s2.1))))) + 1 ≤ (s2.2).length from p22, arC_put p22, p23, show (Int.toNat (IntKind.i64.wrap (3 + (IntKind.i64.wrap (3 * s2.1))))) + 1 ≤ ((s2.2.set (Int.toNat (IntKind.i64.wrap (2 + (IntKind.i64.wrap (3 * s2.1))))) x3.Stored)).length from p24, arC_put p24, (show (Int.toNat (IntKind.i64.wrap (3 + (IntKind.i64.wrap (3 * s2.1))))) + 1 ≤ (s2.2).length from Nat.succ_le_of_lt (by simpa using p24)), p21', p23', show (Int.toNat (IntKind.i64.wrap (2 + (IntKind.i64.wrap (3 * s2.1))))) + 1 ≤ (s2.2).length from p22b, show (Int.toNat (IntKind.i64.wrap (3 + (IntKind.i64.wrap (3 * s2.1))))) + 1 ≤ (s2.2).length from p24b, arC_put p24b, arC_put (l := (s2.2.set (Int.toNat (IntKind.i64.wrap (3 + (IntKind.i64.wrap (3 * s2.1))))) x3.Used)) (i := (Int.toNat (IntKind.i64.wrap (2 + (IntKind.i64.wrap (3 * s2.1)))))) (by simpa using p22b)]; rfl) ?_
        refine ao_pure 2 rfl (by decide +kernel) (by decide +kernel) (by simp [pureP, pureB]) (fun c s h => by cases h.1) (by simp [p21, show (Int.toNat (IntKind.i64.wrap (2 + (IntKind.i64.wrap (3 * s2.1))))) + 1 ≤ (s2.2).length from p22, arC_put p22, p23, show (Int.toNat (IntKind.i64.wrap (3 + (IntKind.i64.wrap (3 * s2.1))))) + 1 ≤ ((s2.2.set (Int.toNat (IntKind.i64.wrap (2 + (IntKind.i64.wrap (3 * s2.1))))) x3.Stored)).length from p24, arC_put p24, (show (Int.toNat (IntKind.i64.wrap (3 + (IntKind.i64.wrap (3 * s2.1))))) + 1 ≤ (s2.2).length from Nat.succ_le_of_lt (by simpa using p24)), p21', p23', show (Int.toNat (IntKind.i64.wrap (2 + (IntKind.i64.wrap (3 * s2.1))))) + 1 ≤ (s2.2).length from p22b, show (Int.toNat (IntKind.i64.wrap (3 + (IntKind.i64.wrap (3 * s2.1))))) + 1 ≤ (s2.2).length from p24b, arC_put p24b, arC_put (l := (s2.2.set (Int.toNat (IntKind.i64.wrap (3 + (IntKind.i64.wrap (3 * s2.1))))) x3.Used)) (i := (Int.toNat (IntKind.i64.wrap (2 + (IntKind.i64.wrap (3 * s2.1)))))) (by simpa using p22b)]; rfl) ?_
        refine ao_pure 3 rfl (by decide +kernel) (by decide +kernel) (by simp [pureP, pureB]) (fun c s h => by cases h.1) (by simp [p21, show (Int.toNat (IntKind.i64.wrap (2 + (IntKind.i64.wrap (3 * s2.1))))) + 1 ≤ (s2.2).length from p22, arC_put p22, p23, show (Int.toNat (IntKind.i64.wrap (3 + (IntKind.i64.wrap (3 * s2.1))))) + 1 ≤ ((s2.2.set (Int.toNat (IntKind.i64.wrap (2 + (IntKind.i64.wrap (3 * s2.1))))) x3.Stored)).length from p24, arC_put p24, (show (Int.toNat (IntKind.i64.wrap (3 + (IntKind.i64.wrap (3 * s2.1))))) + 1 ≤ (s2.2).length from Nat.succ_le_of_lt (by simpa using p24)), p21', p23', show (Int.toNat (IntKind.i64.wrap (2 + (IntKind.i64.wrap (3 * s2.1))))) + 1 ≤ (s2.2).length from p22b, show (Int.toNat (IntKind.i64.wrap (3 + (IntKind.i64.wrap (3 * s2.1))))) + 1 ≤ (s2.2).length from p24b, arC_put p24b, arC_put (l := (s2.2.set (Int.toNat (IntKind.i64.wrap (3 + (IntKind.i64.wrap (3 * s2.1))))) x3.Used)) (i := (Int.toNat (IntKind.i64.wrap (2 + (IntKind.i64.wrap (3 * s2.1)))))) (by simpa using p22b)]; rfl) ?_
        refine ao_pure 4 rfl (by decide +kernel) (by decide +kernel) (by simp [pureP, pureB]) (fun c s h => by cases h.1) (by simp [p21, show (Int.toNat (IntKind.i64.wrap (2 + (IntKind.i64.wrap (3 * s2.1))))) + 1 ≤ (s2.2).length from p22, arC_put p22, p23, show (Int.toNat (IntKind.i64.wrap (3 + (IntKind.i64.wrap (3 * s2.1))))) + 1 ≤ ((s2.2.set (Int.toNat (IntKind.i64.wrap (2 + (IntKind.i64.wrap (3 * s2.1))))) x3.Stored)).length from p24, arC_put p24, (show (Int.toNat (IntKind.i64.wrap (3 + (IntKind.i64.wrap (3 * s2.1))))) + 1 ≤ (s2.2).length from Nat.succ_le_of_lt (by simpa using p24)), p21', p23', show (Int.toNat (IntKind.i64.wrap (2 + (IntKind.i64.wrap (3 * s2.1))))) + 1 ≤ (s2.2).length from p22b, show (Int.toNat (IntKind.i64.wrap (3 + (IntKind.i64.wrap (3 * s2.1))))) + 1 ≤ (s2.2).length from p24b, arC_put p24b, arC_put (l := (s2.2.set (Int.toNat (IntKind.i64.wrap (3 + (IntKind.i64.wrap (3 * s2.1))))) x3.Used)) (i := (Int.toNat (IntKind.i64.wrap (2 + (IntKind.i64.wrap (3 * s2.1)))))) (by simpa using p22b)]; rfl) ?_
        refine ao_pure 5 rfl (by decide +kernel) (by decide +kernel) (by simp [pureP, pureB]) (fun c s h => by cases h.1) (by simp [p21, show (Int.toNat (IntKind.i64.wrap (2 + (IntKind.i64.wrap (3 * s2.1))))) + 1 ≤ (s2.2).length from p22, arC_put p22, p23, show (Int.toNat (IntKind.i64.wrap (3 + (IntKind.i64.wrap (3 * s2.1))))) + 1 ≤ ((s2.2.set (Int.toNat (IntKind.i64.wrap (2 + (IntKind.i64.wrap (3 * s2.1))))) x3.Stored)).length from p24, arC_put p24, (show (Int.toNat (IntKind.i64.wrap (3 + (IntKind.i64.wrap (3 * s2.1))))) + 1 ≤ (s2.2).length from Nat.succ_le_of_lt (by simpa using p24)), p21', p23', show (Int.toNat (IntKind.i64.wrap (2 + (IntKind.i64.wrap (3 * s2.1))))) + 1 ≤ (s2.2).length from p22b, show (Int.toNat (IntKind.i64.wrap (3 + (IntKind.i64.wrap (3 * s2.1))))) + 1 ≤ (s2.2).length from p24b, arC_put p24b, arC_put (l := (s2.2.set (Int.toNat (IntKind.i64.wrap (3 + (IntKind.i64.wrap (3 * s2.1))))) x3.Used)) (i := (Int.toNat (IntKind.i64.wrap (2 + (IntKind.i64.wrap (3 * s2.1)))))) (by simpa using p22b)]; rfl) ?_
        refine ao_pure 6 rfl (by decide +kernel) (by decide +kernel) (by simp [pureP, pureB]) (fun c s h => by cases h.1) (by simp [p21, show (Int.toNat (IntKind.i64.wrap (2 + (IntKind.i64.wrap (3 * s2.1))))) + 1 ≤ (s2.2).length from p22, arC_put p22, p23, show (Int.toNat (IntKind.i64.wrap (3 + (IntKind.i64.wrap (3 * s2.1))))) + 1 ≤ ((s2.2.set (Int.toNat (IntKind.i64.wrap (2 + (IntKind.i64.wrap (3 * s2.1))))) x3.Stored)).length from p24, arC_put p24, (show (Int.toNat (IntKind.i64.wrap (3 + (IntKind.i64.wrap (3 * s2.1))))) + 1 ≤ (s2.2).length from Nat.succ_le_of_lt (by simpa using p24)), p21', p23', show (Int.toNat (IntKind.i64.wrap (2 + (IntKind.i64.wrap (3 * s2.1))))) + 1 ≤ (s2.2).length from p22b, show (Int.toNat (IntKind.i64.wrap (3 + (IntKind.i64.wrap (3 * s2.1))))) + 1 ≤ (s2.2).length from p24b, arC_put p24b, arC_put (l := (s2.2.set (Int.toNat (IntKind.i64.wrap (3 + (IntKind.i64.wrap (3 * s2.1))))) x3.Used)) (i := (Int.toNat (IntKind.i64.wrap (2 + (IntKind.i64.wrap (3 * s2.1)))))) (by simpa using p22b)]; rfl) ?_
        refine ao_pure 8 rfl (by decide +kernel) (by decide +kernel) (by simp [pureP, pureB]) (fun c s h => by cases h.1) (by simp [p21, show (Int.toNat (IntKind.i64.wrap (2 + (IntKind.i64.wrap (3 * s2.1))))) + 1 ≤ (s2.2).length from p22, arC_put p22, p23, show (Int.toNat (IntKind.i64.wrap (3 + (IntKind.i64.wrap (3 * s2.1))))) + 1 ≤ ((s2.2.set (Int.toNat (IntKind.i64.wrap (2 + (IntKind.i64.wrap (3 * s2.1))))) x3.Stored)).length from p24, arC_put p24, (show (Int.toNat (IntKind.i64.wrap (3 + (IntKind.i64.wrap (3 * s2.1))))) + 1 ≤ (s2.2).length from Nat.succ_le_of_lt (by simpa using p24)), p21', p23', show (Int.toNat (IntKind.i64.wrap (2 + (IntKind.i64.wrap (3 * s2.1))))) + 1 ≤ (s2.2).length from p22b, show (Int.toNat (IntKind.i64.wrap (3 + (IntKind.i64.wrap (3 * s2.1))))) + 1 ≤ (s2.2).length from p24b, arC_put p24b, arC_put (l := (s2.2.set (Int.toNat (IntKind.i64.wrap (3 + (IntKind.i64.wrap (3 * s2.1))))) x3.Used)) (i := (Int.toNat (IntKind.i64.wrap (2 + (IntKind.i64.wrap (3 * s2.1)))))) (by simpa using p22b)]; rfl) ?_
        refine ao_all [7, 9] (by decide +kernel) (by decide) ?_
        refine aall_cons rfl (by simp [p21, show (Int.toNat (IntKind.i64.wrap (2 + (IntKind.i64.wrap (3 * s2.1))))) + 1 ≤ (s2.2).length from p22, arC_put p22, p23, show (Int.toNat (IntKind.i64.wrap (3 + (IntKind.i64.wrap (3 * s2.1))))) + 1 ≤ ((s2.2.set (Int.toNat (IntKind.i64.wrap (2 + (IntKind.i64.wrap (3 * s2.1))))) x3.Stored)).length from p24, arC_put p24, (show (Int.toNat (IntKind.i64.wrap (3 + (IntKind.i64.wrap (3 * s2.1))))) + 1 ≤ (s2.2).length from Nat.succ_le_of_lt (by simpa using p24)), p21', p23', show (Int.toNat (IntKind.i64.wrap (2 + (IntKind.i64.wrap (3 * s2.1))))) + 1 ≤ (s2.2).length from p22b, show (Int.toNat (IntKind.i64.wrap (3 + (IntKind.i64.wrap (3 * s2.1))))) + 1 ≤ (s2.2).length from p24b, arC_put p24b, arC_put (l := (s2.2.set (Int.toNat (IntKind.i64.wrap (3 + (IntKind.i64.wrap (3 * s2.1))))) x3.Used)) (i := (Int.toNat (IntKind.i64.wrap (2 + (IntKind.i64.wrap (3 * s2.1)))))) (by simpa using p22b)]; rfl) ?_ ?_
        ·
          refine ao_pure 10 rfl (by decide +kernel) (by decide +kernel) (by simp [pureP, pureB]) (fun c s h => by cases h.1) (by simp [p21, show (Int.toNat (IntKind.i64.wrap (2 + (IntKind.i64.wrap (3 * s2.1))))) + 1 ≤ (s2.2).length from p22, arC_put p22, p23, show (Int.toNat (IntKind.i64.wrap (3 + (IntKind.i64.wrap (3 * s2.1))))) + 1 ≤ ((s2.2.set (Int.toNat (IntKind.i64.wrap (2 + (IntKind.i64.wrap (3 * s2.1))))) x3.Stored)).length from p24, arC_put p24, (show (Int.toNat (IntKind.i64.wrap (3 + (IntKind.i64.wrap (3 * s2.1))))) + 1 ≤ (s2.2).length from Nat.succ_le_of_lt (by simpa using p24)), p21', p23', show (Int.toNat (IntKind.i64.wrap (2 + (IntKind.i64.wrap (3 * s2.1))))) + 1 ≤ (s2.2).length from p22b, show (Int.toNat (IntKind.i64.wrap (3 + (IntKind.i64.wrap (3 * s2.1))))) + 1 ≤ (s2.2).length from p24b, arC_put p24b, arC_put (l := (s2.2.set (Int.toNat (IntKind.i64.wrap (3 + (IntKind.i64.wrap (3 * s2.1))))) x3.Used)) (i := (Int.toNat (IntKind.i64.wrap (2 + (IntKind.i64.wrap (3 * s2.1)))))) (by simpa using p22b)]; rfl) ?_
          refine ao_all [9, 11] (by decide +kernel) (by decide) ?_
          refine aall_cons rfl (by simp [p21, show (Int.toNat (IntKind.i64.wrap (2 + (IntKind.i64.wrap (3 * s2.1))))) + 1 ≤ (s2.2).length from p22, arC_put p22, p23, show (Int.toNat (IntKind.i64.wrap (3 + (IntKind.i64.wrap (3 * s2.1))))) + 1 ≤ ((s2.2.set (Int.toNat (IntKind.i64.wrap (2 + (IntKind.i64.wrap (3 * s2.1))))) x3.Stored)).length from p24, arC_put p24, (show (Int.toNat (IntKind.i64.wrap (3 + (IntKind.i64.wrap (3 * s2.1))))) + 1 ≤ (s2.2).length from Nat.succ_le_of_lt (by simpa using p24)), p21', p23', show (Int.toNat (IntKind.i64.wrap (2 + (IntKind.i64.wrap (3 * s2.1))))) + 1 ≤ (s2.2).length from p22b, show (Int.toNat (IntKind.i64.wrap (3 + (IntKind.i64.wrap (3 * s2.1))))) + 1 ≤ (s2.2).length from p24b, arC_put p24b, arC_put (l := (s2.2.set (Int.toNat (IntKind.i64.wrap (3 + (IntKind.i64.wrap (3 * s2.1))))) x3.Used)) (i := (Int.toNat (IntKind.i64.wrap (2 + (IntKind.i64.wrap (3 * s2.1)))))) (by simpa using p22b)]; rfl) ?_ ?_
          ·
            refine ao_all [11] (by decide +kernel) (by decide) ?_
            refine aall_cons rfl (by simp [p21, show (Int.toNat (IntKind.i64.wrap (2 + (IntKind.i64.wrap (3 * s2.1))))) + 1 ≤ (s2.2).length from p22, arC_put p22, p23, show (Int.toNat (IntKind.i64.wrap (3 + (IntKind.i64.wrap (3 * s2.1))))) + 1 ≤ ((s2.2.set (Int.toNat (IntKind.i64.wrap (2 + (IntKind.i64.wrap (3 * s2.1))))) x3.Stored)).length from p24, arC_put p24, (show (Int.toNat (IntKind.i64.wrap (3 + (IntKind.i64.wrap (3 * s2.1))))) + 1 ≤ (s2.2).length from Nat.succ_le_of_lt (by simpa using p24)), p21', p23', show (Int.toNat (IntKind.i64.wrap (2 + (IntKind.i64.wrap (3 * s2.1))))) + 1 ≤ (s2.2).length from p22b, show (Int.toNat (IntKind.i64.wrap (3 + (IntKind.i64.wrap (3 * s2.1))))) + 1 ≤ (s2.2).length from p24b, arC_put p24b, arC_put (l := (s2.2.set (Int.toNat (IntKind.i64.wrap (3 + (IntKind.i64.wrap (3 * s2.1))))) x3.Used)) (i := (Int.toNat (IntKind.i64.wrap (2 + (IntKind.i64.wrap (3 * s2.1)))))) (by simpa using p22b)]; rfl) ?_ ?_
            ·
              refine ao_pure 12 rfl (by decide +kernel) (by decide +kernel) (by simp [pureP, pureB]) (fun c s h => by cases h.1) (by simp [p21, show (Int.toNat (IntKind.i64.wrap (2 + (IntKind.i64.wrap (3 * s2.1))))) + 1 ≤ (s2.2).length from p22, arC_put p22, p23, show (Int.toNat (IntKind.i64.wrap (3 + (IntKind.i64.wrap (3 * s2.1))))) + 1 ≤ ((s2.2.set (Int.toNat (IntKind.i64.wrap (2 + (IntKind.i64.wrap (3 * s2.1))))) x3.Stored)).length from p24, arC_put p24, (show (Int.toNat (IntKind.i64.wrap (3 + (IntKind.i64.wrap (3 * s2.1))))) + 1 ≤ (s2.2).length from Nat.succ_le_of_lt (by simpa using p24)), p21', p23', show (Int.toNat (IntKind.i64.wrap (2 + (IntKind.i64.wrap (3 * s2.1))))) + 1 ≤ (s2.2).length from p22b, show (Int.toNat (IntKind.i64.wrap (3 + (IntKind.i64.wrap (3 * s2.1))))) + 1 ≤ (s2.2).length from p24b, arC_put p24b, arC_put (l := (s2.2.set (Int.toNat (IntKind.i64.wrap (3 + (IntKind.i64.wrap (3 * s2.1))))) x3.Used)) (i := (Int.toNat (IntKind.i64.wrap (2 + (IntKind.i64.wrap (3 * s2.1)))))) (by simpa using p22b)]; rfl) ?_
              refine ao_all [13] (by decide +kernel) (by decide) ?_
              refine aall_cons rfl (by simp [p21, show (Int.toNat (IntKind.i64.wrap (2 + (IntKind.i64.wrap (3 * s2.1))))) + 1 ≤ (s2.2).length from p22, arC_put p22, p23, show (Int.toNat (IntKind.i64.wrap (3 + (IntKind.i64.wrap (3 * s2.1))))) + 1 ≤ ((s2.2.set (Int.toNat (IntKind.i64.wrap (2 + (IntKind.i64.wrap (3 * s2.1))))) x3.Stored)).length from p24, arC_put p24, (show (Int.toNat (IntKind.i64.wrap (3 + (IntKind.i64.wrap (3 * s2.1))))) + 1 ≤ (s2.2).length from Nat.succ_le_of_lt (by simpa using p24)), p21', p23', show (Int.toNat (IntKind.i64.wrap (2 + (IntKind.i64.wrap (3 * s2.1))))) + 1 ≤ (s2.2).length from p22b, show (Int.toNat (IntKind.i64.wrap (3 + (IntKind.i64.wrap (3 * s2.1))))) + 1 ≤ (s2.2).length from p24b, arC_put p24b, arC_put (l := (s2.2.set (Int.toNat (IntKind.i64.wrap (3 + (IntKind.i64.wrap (3 * s2.1))))) x3.Used)) (i := (Int.toNat (IntKind.i64.wrap (2 + (IntKind.i64.wrap (3 * s2.1)))))) (by simpa using p22b)]; rfl) ?_ ?_
              ·
                exact ao_end (by decide +kernel) ⟨rfl, weak_iff.2 (by simp [List.set_comm _ _ hcm25])⟩
              exact trivial
            exact trivial
          refine aall_cons rfl (by simp [p21, show (Int.toNat (IntKind.i64.wrap (2 + (IntKind.i64.wrap (3 * s2.1))))) + 1 ≤ (s2.2).length from p22, arC_put p22, p23, show (Int.toNat (IntKind.i64.wrap (3 + (IntKind.i64.wrap (3 * s2.1))))) + 1 ≤ ((s2.2.set (Int.toNat (IntKind.i64.wrap (2 + (IntKind.i64.wrap (3 * s2.1))))) x3.Stored)).length from p24, arC_put p24, (show (Int.toNat (IntKind.i64.wrap (3 + (IntKind.i64.wrap (3 * s2.1))))) + 1 ≤ (s2.2).length from Nat.succ_le_of_lt (by simpa using p24)), p21', p23', show (Int.toNat (IntKind.i64.wrap (2 + (IntKind.i64.wrap (3 * s2.1))))) + 1 ≤ (s2.2).length from p22b, show (Int.toNat (IntKind.i64.wrap (3 + (IntKind.i64.wrap (3 * s2.1))))) + 1 ≤ (s2.2).length from p24b, arC_put p24b, arC_put (l := (s2.2.set (Int.toNat (IntKind.i64.wrap (3 + (IntKind.i64.wrap (3 * s2.1))))) x3.Used)) (i := (Int.toNat (IntKind.i64.wrap (2 + (IntKind.i64.wrap (3 * s2.1)))))) (by simpa using p22b)]; rfl) ?_ ?_
          ·
            refine ao_all [9] (by decide +kernel) (by decide) ?_
            refine aall_cons rfl (by simp [p21, show (Int.toNat (IntKind.i64.wrap (2 + (IntKind.i64.wrap (3 * s2.1))))) + 1 ≤ (s2.2).length from p22, arC_put p22, p23, show (Int.toNat (IntKind.i64.wrap (3 + (IntKind.i64.wrap (3 * s2.1))))) + 1 ≤ ((s2.2.set (Int.toNat (IntKind.i64.wrap (2 + (IntKind.i64.wrap (3 * s2.1))))) x3.Stored)).length from p24, arC_put p24, (show (Int.toNat (IntKind.i64.wrap (3 + (IntKind.i64.wrap (3 * s2.1))))) + 1 ≤ (s2.2).length from Nat.succ_le_of_lt (by simpa using p24)), p21', p23', show (Int.toNat (IntKind.i64.wrap (2 + (IntKind.i64.wrap (3 * s2.1))))) + 1 ≤ (s2.2).length from p22b, show (Int.toNat (IntKind.i64.wrap (3 + (IntKind.i64.wrap (3 * s2.1))))) + 1 ≤ (s2.2).length from p24b, arC_put p24b, arC_put (l := (s2.2.set (Int.toNat (IntKind.i64.wrap (3 + (IntKind.i64.wrap (3 * s2.1))))) x3.Used)) (i := (Int.toNat (IntKind.i64.wrap (2 + (IntKind.i64.wrap (3 * s2.1)))))) (by simpa using p22b)]; rfl) ?_ ?_
            ·
              refine ao_pure 12 rfl (by decide +kernel) (by decide +kernel) (by simp [pureP, pureB]) (fun c s h => by cases h.1) (by simp [p21, show (Int.toNat (IntKind.i64.wrap (2 + (IntKind.i64.wrap (3 * s2.1))))) + 1 ≤ (s2.2).length from p22, arC_put p22, p23, show (Int.toNat (IntKind.i64.wrap (3 + (IntKind.i64.wrap (3 * s2.1))))) + 1 ≤ ((s2.2.set (Int.toNat (IntKind.i64.wrap (2 + (IntKind.i64.wrap (3 * s2.1))))) x3.Stored)).length from p24, arC_put p24, (show (Int.toNat (IntKind.i64.wrap (3 + (IntKind.i64.wrap (3 * s2.1))))) + 1 ≤ (s2.2).length from Nat.succ_le_of_lt (by simpa using p24)), p21', p23', show (Int.toNat (IntKind.i64.wrap (2 + (IntKind.i64.wrap (3 * s2.1))))) + 1 ≤ (s2.2).length from p22b, show (Int.toNat (IntKind.i64.wrap (3 + (IntKind.i64.wrap (3 * s2.1))))) + 1 ≤ (s2.2).length from p24b, arC_put p24b, arC_put (l := (s2.2.set (Int.toNat (IntKind.i64.wrap (3 + (IntKind.i64.wrap (3 * s2.1))))) x3.Used)) (i := (Int.toNat (IntKind.i64.wrap (2 + (IntKind.i64.wrap (3 * s2.1)))))) (by simpa using p22b)]; rfl) ?_
              refine ao_all [13] (by decide +kernel) (by decide) ?_
              refine aall_cons rfl (by simp [p21, show (Int.toNat (IntKind.i64.wrap (2 + (IntKind.i64.wrap (3 * s2.1))))) + 1 ≤ (s2.2).length from p22, arC_put p22, p23, show (Int.toNat (IntKind.i64.wrap (3 + (IntKind.i64.wrap (3 * s2.1))))) + 1 ≤ ((s2.2.set (Int.toNat (IntKind.i64.wrap (2 + (IntKind.i64.wrap (3 * s2.1))))) x3.Stored)).length from p24, arC_put p24, (show (Int.toNat (IntKind.i64.wrap (3 + (IntKind.i64.wrap (3 * s2.1))))) + 1 ≤ (s2.2).length from Nat.succ_le_of_lt (by simpa using p24)), p21', p23', show (Int.toNat (IntKind.i64.wrap (2 + (IntKind.i64.wrap (3 * s2.1))))) + 1 ≤ (s2.2).length from p22b, show (Int.toNat (IntKind.i64.wrap (3 + (IntKind.i64.wrap (3 * s2.1))))) + 1 ≤ (s2.2).length from p24b, arC_put p24b, arC_put (l := (s2.2.set (Int.toNat (IntKind.i64.wrap (3 + (IntKind.i64.wrap (3 * s2.1))))) x3.Used)) (i := (Int.toNat (IntKind.i64.wrap (2 + (IntKind.i64.wrap (3 * s2.1)))))) (by simpa using p22b)]; rfl) ?_ ?_
              ·
                exact ao_end (by decide +kernel) ⟨rfl, weak_iff.2 (by simp [List.set_comm _ _ hcm25])⟩
              exact trivial
            exact trivial
          exact trivial
        refine aall_cons rfl (by simp [p21, show (Int.toNat (IntKind.i64.wrap (2 + (IntKind.i64.wrap (3 * s2.1))))) + 1 ≤ (s2.2).length from p22, arC_put p22, p23, show (Int.toNat (IntKind.i64.wrap (3 + (IntKind.i64.wrap (3 * s2.1))))) + 1 ≤ ((s2.2.set (Int.toNat (IntKind.i64.wrap (2 + (IntKind.i64.wrap (3 * s2.1))))) x3.Stored)).length from p24, arC_put p24, (show (Int.toNat (IntKind.i64.wrap (3 + (IntKind.i64.wrap (3 * s2.1))))) + 1 ≤ (s2.2).length from Nat.succ_le_of_lt (by simpa using p24)), p21', p23', show (Int.toNat (IntKind.i64.wrap (2 + (IntKind.i64.wrap (3 * s2.1))))) + 1 ≤ (s2.2).length from p22b, show (Int.toNat (IntKind.i64.wrap (3 + (IntKind.i64.wrap (3 * s2.1))))) + 1 ≤ (s2.2).length from p24b, arC_put p24b, arC_put (l := (s2.2.set (Int.toNat (IntKind.i64.wrap (3 + (IntKind.i64.wrap (3 * s2.1))))) x3.Used)) (i := (Int.toNat (IntKind.i64.wrap (2 + (IntKind.i64.wrap (3 * s2.1)))))) (by simpa using p22b)]; rfl) ?_ ?_
        ·
          refine ao_all [7] (by decide +kernel) (by decide) ?_
          refine aall_cons rfl (by simp [p21, show (Int.toNat (IntKind.i64.wrap (2 + (IntKind.i64.wrap (3 * s2.1))))) + 1 ≤ (s2.2).length from p22, arC_put p22, p23, show (Int.toNat (IntKind.i64.wrap (3 + (IntKind.i64.wrap (3 * s2.1))))) + 1 ≤ ((s2.2.set (Int.toNat (IntKind.i64.wrap (2 + (IntKind.i64.wrap (3 * s2.1))))) x3.Stored)).length from p24, arC_put p24, (show (Int.toNat (IntKind.i64.wrap (3 + (IntKind.i64.wrap (3 * s2.1))))) + 1 ≤ (s2.2).length from Nat.succ_le_of_lt (by simpa using p24)), p21', p23', show (Int.toNat (IntKind.i64.wrap (2 + (IntKind.i64.wrap (3 * s2.1))))) + 1 ≤ (s2.2).length from p22b, show (Int.toNat (IntKind.i64.wrap (3 + (IntKind.i64.wrap (3 * s2.1))))) + 1 ≤ (s2.2).length from p24b, arC_put p24b, arC_put (l := (s2.2.set (Int.toNat (IntKind.i64.wrap (3 + (IntKind.i64.wrap (3 * s2.1))))) x3.Used)) (i := (Int.toNat (IntKind.i64.wrap (2 + (IntKind.i64.wrap (3 * s2.1)))))) (by simpa using p22b)]; rfl) ?_ ?_
          ·
            refine ao_pure 10 rfl (by decide +kernel) (by decide +kernel) (by simp [pureP, pureB]) (fun c s h => by cases h.1) (by simp [p21, show (Int.toNat (IntKind.i64.wrap (2 + (IntKind.i64.wrap (3 * s2.1))))) + 1 ≤ (s2.2).length from p22, arC_put p22, p23, show (Int.toNat (IntKind.i64.wrap (3 + (IntKind.i64.wrap (3 * s2.1))))) + 1 ≤ ((s2.2.set (Int.toNat (IntKind.i64.wrap (2 + (IntKind.i64.wrap (3 * s2.1))))) x3.Stored)).length from p24, arC_put p24, (show (Int.toNat (IntKind.i64.wrap (3 + (IntKind.i64.wrap (3 * s2.1))))) + 1 ≤ (s2.2).length from Nat.succ_le_of_lt (by simpa using p24)), p21', p23', show (Int.toNat (IntKind.i64.wrap (2 + (IntKind.i64.wrap (3 * s2.1))))) + 1 ≤ (s2.2).length from p22b, show (Int.toNat (IntKind.i64.wrap (3 + (IntKind.i64.wrap (3 * s2.1))))) + 1 ≤ (s2.2).length from p24b, arC_put p24b, arC_put (l := (s2.2.set (Int.toNat (IntKind.i64.wrap (3 + (IntKind.i64.wrap (3 * s2.1))))) x3.Used)) (i := (Int.toNat (IntKind.i64.wrap (2 + (IntKind.i64.wrap (3 * s2.1)))))) (by simpa using p22b)]; rfl) ?_
            refine ao_all [11] (by decide +kernel) (by decide) ?_
            refine aall_cons rfl (by simp [p21, show (Int.toNat (IntKind.i64.wrap (2 + (IntKind.i64.wrap (3 * s2.1))))) + 1 ≤ (s2.2).length from p22, arC_put p22, p23, show (Int.toNat (IntKind.i64.wrap (3 + (IntKind.i64.wrap (3 * s2.1))))) + 1 ≤ ((s2.2.set (Int.toNat (IntKind.i64.wrap (2 + (IntKind.i64.wrap (3 * s2.1))))) x3.Stored)).length from p24, arC_put p24, (show (Int.toNat (IntKind.i64.wrap (3 + (IntKind.i64.wrap (3 * s2.1))))) + 1 ≤ (s2.2).length from Nat.succ_le_of_lt (by simpa using p24)), p21', p23', show (Int.toNat (IntKind.i64.wrap (2 + (IntKind.i64.wrap (3 * s2.1))))) + 1 ≤ (s2.2).length from p22b, show (Int.toNat (IntKind.i64.wrap (3 + (IntKind.i64.wrap (3 * s2.1))))) + 1 ≤ (s2.2).length from p24b, arC_put p24b, arC_put (l := (s2.2.set (Int.toNat (IntKind.i64.wrap (3 + (IntKind.i64.wrap (3 * s2.1))))) x3.Used)) (i := (Int.toNat (IntKind.i64.wrap (2 + (IntKind.i64.wrap (3 * s2.1)))))) (by simpa using p22b)]; rfl) ?_ ?_
            ·
              refine ao_pure 12 rfl (by decide +kernel) (by decide +kernel) (by simp [pureP, pureB]) (fun c s h => by cases h.1) (by simp [p21, show (Int.toNat (IntKind.i64.wrap (2 + (IntKind.i64.wrap (3 * s2.1))))) + 1 ≤ (s2.2).length from p22, arC_put p22, p23, show (Int.toNat (IntKind.i64.wrap (3 + (IntKind.i64.wrap (3 * s2.1))))) + 1 ≤ ((s2.2.set (Int.toNat (IntKind.i64.wrap (2 + (IntKind.i64.wrap (3 * s2.1))))) x3.Stored)).length from p24, arC_put p24, (show (Int.toNat (IntKind.i64.wrap (3 + (IntKind.i64.wrap (3 * s2.1))))) + 1 ≤ (s2.2).length from Nat.succ_le_of_lt (by simpa using p24)), p21', p23', show (Int.toNat (IntKind.i64.wrap (2 + (IntKind.i64.wrap (3 * s2.1))))) + 1 ≤ (s2.2).length from p22b, show (Int.toNat (IntKind.i64.wrap (3 + (IntKind.i64.wrap (3 * s2.1))))) + 1 ≤ (s2.2).length from p24b, arC_put p24b, arC_put (l := (s2.2.set (Int.toNat (IntKind.i64.wrap (3 + (IntKind.i64.wrap (3 * s2.1))))) x3.Used)) (i := (Int.toNat (IntKind.i64.wrap (2 + (IntKind.i64.wrap (3 * s2.1)))))) (by simpa using p22b)]; rfl) ?_
              refine ao_all [13] (by decide +kernel) (by decide) ?_
              refine aall_cons rfl (by simp [p21, show (Int.toNat (IntKind.i64.wrap (2 + (IntKind.i64.wrap (3 * s2.1))))) + 1 ≤ (s2.2).length from p22, arC_put p22, p23, show (Int.toNat (IntKind.i64.wrap (3 + (IntKind.i64.wrap (3 * s2.1))))) + 1 ≤ ((s2.2.set (Int.toNat (IntKind.i64.wrap (2 + (IntKind.i64.wrap (3 * s2.1))))) x3.Stored)).length from p24, arC_put p24, (show (Int.toNat (IntKind.i64.wrap (3 + (IntKind.i64.wrap (3 * s2.1))))) + 1 ≤ (s2.2).length from Nat.succ_le_of_lt (by simpa using p24)), p21', p23', show (Int.toNat (IntKind.i64.wrap (2 + (IntKind.i64.wrap (3 * s2.1))))) + 1 ≤ (s2.2).length from p22b, show (Int.toNat (IntKind.i64.wrap (3 + (IntKind.i64.wrap (3 * s2.1))))) + 1 ≤ (s2.2).length from p24b, arC_put p24b, arC_put (l := (s2.2.set (Int.toNat (IntKind.i64.wrap (3 + (IntKind.i64.wrap (3 * s2.1))))) x3.Used)) (i := (Int.toNat (IntKind.i64.wrap (2 + (IntKind.i64.wrap (3 * s2.1)))))) (by simpa using p22b)]; rfl) ?_ ?_
              ·
                exact ao_end (by decide +kernel) ⟨rfl, weak_iff.2 (by simp [List.set_comm _ _ hcm25])⟩
              exact trivial
            exact trivial
          exact trivial
        exact trivial
      ·
        refine kr [2, 3, 4, 15, 16, 17, 35] (by simp; rfl) ?_
        refine tr_cond (b := x3.Up) (by simp) (fun c6 => ?_) (fun c6 => ?_)
        · rw [if_pos c6] at h1
          replace h1 := bnd h1; obtain ⟨_, p26, h1⟩ := h1
          replace p26 := ck_some p26
          have p26' := p26; try simp at p26'
          replace h1 := bnd h1; obtain ⟨_, p27, h1⟩ := h1
          replace p27 := ck_some p27
          refine lr (by simp [p26, show (Int.toNat (IntKind.i64.wrap (4 + (IntKind.i64.wrap (3 * s2.1))))) + 1 ≤ (((s2.2.set (Int.toNat (IntKind.i64.wrap (2 + (IntKind.i64.wrap (3 * s2.1))))) x3.Stored).set (Int.toNat (IntKind.i64.wrap (3 + (IntKind.i64.wrap (3 * s2.1))))) x3.Used)).length from p27, arC_put p27, (show (Int.toNat (IntKind.i64.wrap (4 + (IntKind.i64.wrap (3 * s2.1))))) + 1 ≤ (s2.2).length from Nat.succ_le_of_lt (by simpa using p27)), p26']; rfl) ?_
          refine lr (by simp; rfl) ?_
          exact ⟨_, hg1 _ (Option.some.inj h1), wk (by simp [weak_iff])⟩
        · rw [if_neg (by rw [c6]; decide)] at h1
          refine tr_skip ?_
          refine lr (by simp; rfl) ?_
          exact ⟨_, hg1 _ (Option.some.inj h1), wk (by simp [weak_iff])⟩
    · rw [if_neg (by rw [c5]; decide)] at h1
      refine tr_exit ?_
      exact ⟨_, he1 _ (Option.some.inj h1), wk (by simp [weak_iff])⟩
set_option maxHeartbeats 1000000 in
theorem steps_Safe_ok {a0 : api_Fleet} {a1 : api_Rotation} {a2 : api_Step} {r : Bool} (h0 : steps_Safe a0 a1 a2 = some r) : FnOK Try.prog 90 [] [.agg (api_Fleet_av a0), .agg (api_Rotation_av a1), .agg (api_Step_av a2)] (.d (.bool r)) [] := by
  unfold steps_Safe at h0
  refine fn_ok (nt := 24) (rs := [.tmp 6]) Try.func90 rfl Try.ntmps90 rfl (by simp) (by decide) rfl fun K => ?_
  refine kr [3, 4, 5] (by simp; rfl) ?_
  refine kc ?_
  refine ko [3, 4, 10, 11, 12] 3 (by simp; rfl) ?_
  replace h0 := bnd h0; obtain ⟨y1, hy1, h0⟩ := h0
  refine kcall [3, 4, 13] [] (steps_Apply_ok hy1) rfl rfl rfl Try.call61 (by simp) (by simp; rfl) ?_
  refine ko [3, 4, 7, 8] 6 (by simp; rfl) ?_
  refine tops_nil ?_
  replace h0 := bnd h0; obtain ⟨v2, hvv2, h0⟩ := h0
  refine sjv (fun v2_ : Bool => ({ nt := 24, env := [(6, .d (.bool v2_))], box := [], vec := [] } : St)) (fun v2_ => v2 = v2_) (fun v2_ e => ?_) ?_
  · subst e
    cases h0
    exact tr_ret ⟨[], by simp, rfl, by simp⟩
  · refine kc1 ?_
    refine ko [3, 4, 7, 18] 3 (by simp; rfl) ?_
    refine tops_split 18 (y1.2 == 0) (by simp) (fun c3 => ?_) (fun c3 => ?_)
    · rw [if_pos c3] at hvv2
      refine ko [18, 19, 20, 21] 3 (by simp; rfl) ?_
      replace hvv2 := bnd hvv2; obtain ⟨y3, hy3, hvv2⟩ := hvv2
      refine kcall [18, 22] [] (steps_holds_ok hy3) rfl rfl rfl Try.call62 (by simp) (by simp; rfl) ?_
      refine ko [6] 2 (by simp; rfl) ?_
      refine tops_nil ?_
      cases hvv2
      exact ⟨_, rfl, wk (by simp [weak_iff])⟩
    · rw [if_neg (by rw [c3]; decide)] at hvv2
      refine kskip 4 [] (by kernel_rfl) ?_
      refine ko [6] 2 (by simp; rfl) ?_
      refine tops_nil ?_
      cases hvv2
      exact ⟨_, rfl, wk (by simp [weak_iff])⟩
set_option maxHeartbeats 1000000 in
theorem steps_Choices_ok {a0 : api_Fleet} {a1 : api_Rotation} {r : (List api_Step)} (h0 : steps_Choices a0 a1 = some r) : FnOK Try.prog 71 [] [.agg (api_Fleet_av a0), .agg (api_Rotation_av a1)] (.d (.slice (rowsF api_Step_row r))) [] := by
  unfold steps_Choices at h0
  refine fn_ok (nt := 32) (rs := [.tmp 4]) Try.func71 rfl Try.ntmps71 rfl (by simp) (by decide) rfl fun K => ?_
  refine kr [2, 3] (by simp; rfl) ?_
  refine kr [2, 3, 5] (by simp; rfl) ?_
  refine tr_seq ?_
  refine kr [2, 3, 5, 6] (by simp; rfl) ?_
  refine tr_wk (wk_own 5 29 76 2 (by simp) (by simp)) ?_
  replace h0 := bnd h0; obtain ⟨e1, hI1, h0⟩ := h0
  refine tjv (fun v1 : (List api_Step) => ({ nt := 32, env := [(5, .vec 29)], box := [], vec := [(29, ⟨76, 2, rowsF api_Step_row v1⟩)] } : St)) (fun v1 => v1 = e1) (fun v1 hI1e _ W1 => ?_) ?_
  · subst hI1e
    refine tr_wk W1 ?_
    refine kr [4] (by simp; rfl) ?_
    cases h0
    exact tr_ret ⟨[29], by simp, rfl, by simp⟩
  · refine tr_block (tr_iter (fun s2 : Int × (List api_Step) => ({ nt := 32, env := [(2, .ptr 2 0), (3, .ptr 3 0), (5, .vec 29), (6, .d (.int .i64 s2.1))], box := [(2, [.d (.int .i64 a0.Slots), .d (.slice (rowsF api_Consumer_row a0.Consumers))]), (3, [.d (.int .i64 a1.Known), .d (.int .i64 a1.Valid), .d (.slice (rowsF api_Unit_row a1.Units))])], vec := [(29, ⟨76, 2, rowsF api_Step_row s2.2⟩)] } : St)) hI1 (wk (by simp [weak_iff])) fun G1 s2 o1 h1 hg1 he1 => ?_)
    unfold steps_Choices_l0 at h1
    refine tr_seq ?_
    refine kr [2, 3, 5, 6, 10] (by simp; rfl) ?_
    refine tr_cond (b := (decide (s2.1 ≤ 8))) (by simp) (fun c18 => ?_) (fun c18 => ?_)
    · rw [if_pos c18] at h1
      refine tr_skip ?_
      refine tr_seq ?_
      refine tr_block ?_
      refine kr [2, 3, 5, 6, 15, 16] (by simp; rfl) ?_
      replace h1 := bnd h1; obtain ⟨e2, hI2, h1⟩ := h1
      refine tjv (fun v3 : (List api_Step) => ({ nt := 32, env := [(2, .ptr 2 0), (3, .ptr 3 0), (5, .vec 29), (6, .d (.int .i64 s2.1))], box := [(2, [.d (.int .i64 a0.Slots), .d (.slice (rowsF api_Consumer_row a0.Consumers))]), (3, [.d (.int .i64 a1.Known), .d (.int .i64 a1.Valid), .d (.slice (rowsF api_Unit_row a1.Units))])], vec := [(29, ⟨76, 2, rowsF api_Step_row v3⟩)] } : St)) (fun v3 => v3 = e2) (fun v3 hI2e _ W2 => ?_) ?_
      · subst hI2e
        refine tr_wk W2 ?_
        refine lr (by simp; rfl) ?_
        exact ⟨_, hg1 _ (Option.some.inj h1), wk (by simp [weak_iff])⟩
      · refine tr_block (tr_iter (fun s4 : Int × (List api_Step) => ({ nt := 32, env := [(2, .ptr 2 0), (3, .ptr 3 0), (5, .vec 29), (6, .d (.int .i64 s2.1)), (15, .d (.int .i64 ((a1.Units).length : Int))), (16, .d (.int .i64 s4.1))], box := [(2, [.d (.int .i64 a0.Slots), .d (.slice (rowsF api_Consumer_row a0.Consumers))]), (3, [.d (.int .i64 a1.Known), .d (.int .i64 a1.Valid), .d (.slice (rowsF api_Unit_row a1.Units))])], vec := [(29, ⟨76, 2, rowsF api_Step_row s4.2⟩)] } : St)) hI2 (wk (by simp [weak_iff])) fun G2 s4 o2 h2 hg2 he2 => ?_)
        unfold steps_Choices_l1 at h2
        refine kr [2, 3, 5, 6, 15, 16, 17] (by simp; rfl) ?_
        refine tr_seq ?_
        refine tr_cond (b := (decide (s4.1 < ((a1.Units).length : Int)))) (by simp) (fun c23 => ?_) (fun c23 => ?_)
        · rw [if_pos c23] at h2
          refine tr_skip ?_
          refine tr_seq ?_
          refine tr_block ?_
          refine kr [2, 3, 5, 6, 7, 15, 16] (by simp; rfl) ?_
          refine kr [2, 3, 5, 6, 8, 15, 16] (by simp; rfl) ?_
          refine kc ?_
          refine ko [2, 3, 5, 6, 8, 15, 16, 22, 23, 24] 3 (by simp; rfl) ?_
          replace h2 := bnd h2; obtain ⟨y5, hy5, h2⟩ := h2
          refine kcall [2, 3, 5, 6, 8, 15, 16, 25] [] (steps_Safe_ok hy5) rfl rfl rfl Try.call90 (by simp) (by simp; rfl) ?_
          refine tops_nil ?_
          refine tr_cond (b := y5) (by simp) (fun c24 => ?_) (fun c24 => ?_)
          · rw [if_pos c24] at h2
            replace h2 := bnd h2; obtain ⟨_, p9, h2⟩ := h2
            replace p9 := ck_some p9
            have p9' := p9; try simp at p9'
            refine lr (by simp [p9, p9']; rfl) ?_
            refine lr (by simp; rfl) ?_
            exact ⟨_, hg2 _ (Option.some.inj h2), wk (by simp [weak_iff])⟩
          · rw [if_neg (by rw [c24]; decide)] at h2
            refine tr_skip ?_
            refine lr (by simp; rfl) ?_
            exact ⟨_, hg2 _ (Option.some.inj h2), wk (by simp [weak_iff])⟩
        · rw [if_neg (by rw [c23]; decide)] at h2
          refine tr_exit ?_
          exact ⟨_, he2 _ (Option.some.inj h2), wk (by simp [weak_iff])⟩
    · rw [if_neg (by rw [c18]; decide)] at h1
      refine tr_exit ?_
      exact ⟨_, he1 _ (Option.some.inj h1), wk (by simp [weak_iff])⟩
set_option maxHeartbeats 1000000 in
theorem search_all_ok {a0 : api_Fleet} {a1 : api_Rotation} {r : (List search_found)} (h0 : search_all a0 a1 = some r) : FnOK Try.prog 48 [] [.agg (api_Fleet_av a0), .agg (api_Rotation_av a1)] (.d (.slice (rowsF search_found_row r))) [] := by
  unfold search_all at h0
  refine fn_ok (nt := 71) (rs := [.tmp 4]) Try.func48 rfl Try.ntmps48 rfl (by simp) (by decide) rfl fun K => ?_
  refine kr [2, 3] (by simp; rfl) ?_
  refine kr [2, 5] (by simp; rfl) ?_
  refine kc ?_
  replace h0 := bnd h0; obtain ⟨_, p1, h0⟩ := h0
  replace p1 := ck_some p1
  have p1' := p1; try simp at p1'
  have p1o : 0 < ((([(⟨a1, 0, (⟨0, 0⟩ : api_Step), (-1)⟩ : search_found)])).length : Int) := by omega
  replace h0 := bnd h0; obtain ⟨x1, p2, h0⟩ := h0
  replace p2 := idx_some p2
  have p2' := p2; try simp at p2'
  have p2q : (rowsF search_found_row [(⟨a1, 0, (⟨0, 0⟩ : api_Step), (-1)⟩ : search_found)])[0]? = some (search_found_row x1) := by (first | (rw [rowsF_get, p2.2]; rfl) | (have q := p2.2; simp at q; subst q; rfl))
  try simp [-getElem?_pos] at p2q
  refine ko [2, 5, 17, 20] 4 (by simp [-getElem?_pos, List.getElem?_cons_zero, List.getElem?_cons_succ, p1, p1o, p2, p2q, p1', p2']; rfl) ?_
  replace h0 := bnd h0; obtain ⟨y2, hy2, h0⟩ := h0
  refine kcall [2, 5, 17, 21] [] (search_found_key_ok hy2) rfl rfl rfl Try.call70 (by simp) (by simp; rfl) ?_
  replace h0 := bnd h0; obtain ⟨_, p3, h0⟩ := h0
  replace p3 := ck_some p3
  have p3' := p3; try simp at p3'
  refine ko [2, 5, 6] 3 (by simp [p3, p3']; rfl) ?_
  refine tops_nil ?_
  refine tr_seq ?_
  refine kr [2, 5, 6, 7] (by simp; rfl) ?_
  replace h0 := bnd h0; obtain ⟨l3, hl3, h0⟩ := h0
  replace hl3 := Option.some.inj hl3
  replace h0 := bnd h0; obtain ⟨e1, hI1, h0⟩ := h0
  refine tjv (fun v4 : (List search_found) => ({ nt := 71, env := [(5, .vec 16)], box := [], vec := [(16, ⟨78, 7, rowsF search_found_row v4⟩)] } : St)) (fun v4 => v4 = e1) (fun v4 hI1e _ W1 => ?_) ?_
  · subst hI1e
    refine tr_wk W1 ?_
    refine kr [4] (by simp; rfl) ?_
    cases h0
    exact tr_ret ⟨[16], by simp, rfl, by simp⟩
  · refine tr_block (tr_iter (fun s5 : Int × (List search_found) × (List ((List Int) × Bool)) => ({ nt := 71, env := [(2, .ptr 2 0), (5, .vec 16), (6, .vec 17), (7, .d (.int .i64 s5.1))], box := [(2, [.d (.int .i64 a0.Slots), .d (.slice (rowsF api_Consumer_row a0.Consumers))])], vec := [(16, ⟨78, 7, rowsF search_found_row s5.2.1⟩), (17, ⟨mTag 134 11 true false, 12, rowsF (mRow (arRow 11 (iRow .i64)) bRow) s5.2.2⟩)] } : St)) hI1 (wk (by subst hl3; simp [weak_iff])) fun G1 s5 o1 h1 hg1 he1 => ?_)
    unfold search_all_l0 at h1
    refine tr_seq ?_
    refine kr [2, 5, 6, 7, 26] (by simp; rfl) ?_
    refine tr_cond (b := (decide (s5.1 < ((s5.2.1).length : Int)))) (by simp) (fun c11 => ?_) (fun c11 => ?_)
    · rw [if_pos c11] at h1
      refine tr_skip ?_
      refine tr_seq ?_
      refine tr_block ?_
      replace h1 := bnd h1; obtain ⟨_, p24, h1⟩ := h1
      replace p24 := ck_some p24
      have p24' := p24; try simp at p24'
      have p24o : s5.1 < (((s5.2.1)).length : Int) := by omega
      replace h1 := bnd h1; obtain ⟨x6, p25, h1⟩ := h1
      replace p25 := idx_some p25
      have p25' := p25; try simp at p25'
      refine kr [2, 5, 6, 7, 8] (by simp [-getElem?_pos, List.getElem?_cons_zero, List.getElem?_cons_succ, p24, p24o, p25, p24', p25']; rfl) ?_
      refine kc ?_
      refine ko [2, 5, 6, 7, 8, 33, 35] 3 (by simp; rfl) ?_
      replace h1 := bnd h1; obtain ⟨y7, hy7, h1⟩ := h1
      refine kcall [2, 5, 6, 7, 8, 36] [] (steps_Choices_ok hy7) rfl rfl rfl Try.call71 (by simp) (by simp; rfl) ?_
      refine ko [2, 5, 6, 7, 8, 36, 37, 38] 2 (by simp; rfl) ?_
      refine tops_nil ?_
      replace h1 := bnd h1; obtain ⟨e2, hI2, h1⟩ := h1
      refine tjv (fun v8 : (List search_found) × (List ((List Int) × Bool)) => ({ nt := 71, env := [(2, .ptr 2 0), (5, .vec 16), (6, .vec 17), (7, .d (.int .i64 s5.1))], box := [(2, [.d (.int .i64 a0.Slots), .d (.slice (rowsF api_Consumer_row a0.Consumers))])], vec := [(16, ⟨78, 7, rowsF search_found_row v8.1⟩), (17, ⟨mTag 134 11 true false, 12, rowsF (mRow (arRow 11 (iRow .i64)) bRow) v8.2⟩)] } : St)) (fun v8 => v8 = e2) (fun v8 hI2e _ W2 => ?_) ?_
      · subst hI2e
        refine tr_wk W2 ?_
        refine lr (by simp; rfl) ?_
        exact ⟨_, hg1 _ (Option.some.inj h1), wk (by simp [weak_iff])⟩
      · refine tr_block (tr_iter (fun s9 : Int × (List search_found) × (List ((List Int) × Bool)) => ({ nt := 71, env := [(2, .ptr 2 0), (5, .vec 16), (6, .vec 17), (7, .d (.int .i64 s5.1)), (8, .ptr 8 0), (36, .d (.slice (rowsF api_Step_row y7))), (37, .d (.int .i64 ((y7).length : Int))), (38, .d (.int .i64 s9.1))], box := [(2, [.d (.int .i64 a0.Slots), .d (.slice (rowsF api_Consumer_row a0.Consumers))]), (8, [.d (.int .i64 x6.Rotation.Known), .d (.int .i64 x6.Rotation.Valid), .d (.slice (rowsF api_Unit_row x6.Rotation.Units)), .d (.int .i64 x6.far), .d (.int .i64 x6.step.Kind), .d (.int .i64 x6.step.Unit), .d (.int .i64 x6.before)])], vec := [(16, ⟨78, 7, rowsF search_found_row s9.2.1⟩), (17, ⟨mTag 134 11 true false, 12, rowsF (mRow (arRow 11 (iRow .i64)) bRow) s9.2.2⟩)] } : St)) hI2 (wk (by simp [weak_iff])) fun G2 s9 o2 h2 hg2 he2 => ?_)
        unfold search_all_l1 at h2
        refine kr [2, 5, 6, 7, 8, 36, 37, 38, 39] (by simp; rfl) ?_
        refine tr_seq ?_
        refine tr_cond (b := (decide (s9.1 < ((y7).length : Int)))) (by simp) (fun c16 => ?_) (fun c16 => ?_)
        · rw [if_pos c16] at h2
          refine tr_skip ?_
          refine tr_seq ?_
          refine tr_block ?_
          replace h2 := bnd h2; obtain ⟨x10, p34, h2⟩ := h2
          replace p34 := idx_some p34
          have p34' := p34; try simp at p34'
          refine kr [2, 5, 6, 7, 8, 10, 36, 37, 38] (by simp [p34, p34']; rfl) ?_
          refine kc ?_
          refine ko [2, 5, 6, 7, 8, 10, 36, 37, 38, 43, 45, 46] 4 (by simp; rfl) ?_
          replace h2 := bnd h2; obtain ⟨y11, hy11, h2⟩ := h2
          refine kcall [2, 5, 6, 7, 8, 10, 36, 37, 38, 47] [] (steps_Apply_ok hy11) rfl rfl rfl Try.call61 (by simp) (by simp; rfl) ?_
          refine ko [2, 5, 6, 7, 8, 10, 11, 36, 37, 38] 6 (by simp; rfl) ?_
          refine tops_nil ?_
          refine kr [2, 5, 6, 7, 8, 13, 36, 37, 38] (by simp; rfl) ?_
          refine kc ?_
          refine ko [2, 5, 6, 7, 8, 13, 36, 37, 38, 57, 58] 2 (by simp; rfl) ?_
          replace h2 := bnd h2; obtain ⟨y12, hy12, h2⟩ := h2
          refine kcall [2, 5, 6, 7, 8, 13, 36, 37, 38, 57, 59] [] (search_found_key_ok hy12) rfl rfl rfl Try.call70 (by simp) (by simp; rfl) ?_
          replace h2 := bnd h2; obtain ⟨_, p35, h2⟩ := h2
          replace p35 := ck_some p35
          have p35' := p35; try simp at p35'
          refine ko [2, 5, 6, 7, 8, 13, 36, 37, 38, 61] 2 (by simp [p35, p35']; rfl) ?_
          refine tops_nil ?_
          refine tr_cond (b := (!((mget (arE 11) s9.2.2 y12).getD false))) (by simp) (fun c17 => ?_) (fun c17 => ?_)
          · rw [if_pos c17] at h2
            refine kc ?_
            refine ko [2, 5, 6, 7, 8, 13, 36, 37, 38, 62, 63] 2 (by simp; rfl) ?_
            replace h2 := bnd h2; obtain ⟨y13, hy13, h2⟩ := h2
            refine kcall [2, 5, 6, 7, 8, 13, 36, 37, 38, 62, 64] [] (search_found_key_ok hy13) rfl rfl rfl Try.call70 (by simp) (by simp; rfl) ?_
            replace h2 := bnd h2; obtain ⟨_, p36, h2⟩ := h2
            replace p36 := ck_some p36
            have p36' := p36; try simp at p36'
            refine ko [2, 5, 6, 7, 8, 13, 36, 37, 38] 1 (by simp [p36, p36']; rfl) ?_
            refine tops_nil ?_
            replace h2 := bnd h2; obtain ⟨_, p37, h2⟩ := h2
            replace p37 := ck_some p37
            have p37' := p37; try simp at p37'
            refine lr (by simp [p37, p37']; rfl) ?_
            refine lr (by simp; rfl) ?_
            exact ⟨_, hg2 _ (Option.some.inj h2), (wk_ren 68 16).trans (wk (by simp [weak_iff]))⟩
          · rw [if_neg (by rw [c17]; decide)] at h2
            refine tr_skip ?_
            refine lr (by simp; rfl) ?_
            exact ⟨_, hg2 _ (Option.some.inj h2), wk (by simp [weak_iff])⟩
        · rw [if_neg (by rw [c16]; decide)] at h2
          refine tr_exit ?_
          exact ⟨_, he2 _ (Option.some.inj h2), wk (by simp [weak_iff])⟩
    · rw [if_neg (by rw [c11]; decide)] at h1
      refine tr_exit ?_
      exact ⟨_, he1 _ (Option.some.inj h1), wk (by simp [weak_iff])⟩
set_option maxHeartbeats 1000000 in
theorem search_end_1_cb_ok {a0 : search_found} {a1 : api_Fleet} {r : Bool × api_Fleet} (h0 : search_end_1_cb a0 a1 = some r) : FnOK Try.prog 50 [api_Fleet_av a1] [.agg (search_found_av a0), .ptr (InO 0) 0] (.d (.bool r.1)) [api_Fleet_av r.2] := by
  unfold search_end_1_cb at h0
  refine fn_ok (nt := 8) (rs := [.tmp 3]) Try.func50 rfl Try.ntmps50 rfl (by simp) (by decide) rfl fun K => ?_
  refine kr [1, 2] (by simp; rfl) ?_
  refine kc ?_
  refine ko [4, 6] 3 (by simp; rfl) ?_
  replace h0 := bnd h0; obtain ⟨y1, hy1, h0⟩ := h0
  refine kcall [7] [] (fleet_Ended_ok hy1) rfl rfl rfl Try.call17 (by simp) (by simp; rfl) ?_
  refine ko [3] 1 (by simp; rfl) ?_
  refine tops_nil ?_
  cases h0
  exact tr_ret ⟨[], by simp, rfl, by simp⟩
set_option maxHeartbeats 1000000 in
theorem slices_IndexFunc_search_found_at_search_end_1_b_ok {a0 : List search_found} {b10 : api_Fleet} {r : Int × api_Fleet} (h0 : slices_IndexFunc_search_found_at_search_end_1_b a0 b10 = some r) : FnOK Try.prog 49 [api_Fleet_av b10] [.d (.slice (rowsF search_found_row a0)), .fn 50 [.ptr (InO 0) 0]] (.d (.int .i64 r.1)) [api_Fleet_av r.2] := by
  unfold slices_IndexFunc_search_found_at_search_end_1_b at h0
  refine fn_ok (nt := 19) (rs := [.tmp 4]) Try.func49 rfl Try.ntmps49 rfl (by simp) (by decide) rfl fun K => ?_
  refine kr [0, 1] (by simp; rfl) ?_
  refine tr_seq ?_
  refine kr [0, 1, 7, 8] (by simp; rfl) ?_
  replace h0 := bnd h0; obtain ⟨e1, hI1, h0⟩ := h0
  refine tjv (fun v1 : Int × (List api_Consumer) => ({ nt := 19, env := [], box := [(1000000, [.d (.int .i64 v1.1), .d (.slice (rowsF api_Consumer_row v1.2))])], vec := [] } : St)) (fun v1 => .inl v1 = e1) (fun v1 hI1e _ W1 => ?_) ?_
  · subst hI1e
    dsimp only at h0
    refine tr_wk W1 ?_
    refine kr [4] (by simp; rfl) ?_
    cases h0
    exact tr_ret ⟨[], by simp, rfl, by simp⟩
  · refine tr_block (tr_iter (fun s2 : Int × Int × (List api_Consumer) => ({ nt := 19, env := [(0, .d (.slice (rowsF search_found_row a0))), (1, .fn 50 [.ptr 1000000 0]), (7, .d (.int .i64 ((a0).length : Int))), (8, .d (.int .i64 s2.1))], box := [(1000000, [.d (.int .i64 s2.2.1), .d (.slice (rowsF api_Consumer_row s2.2.2))])], vec := [] } : St)) hI1 (wk (by simp [weak_iff])) fun G1 s2 o1 h1 hg1 he1 => ?_)
    unfold slices_IndexFunc_search_found_at_search_end_1_b_l0 at h1
    refine kr [0, 1, 7, 8, 9] (by simp; rfl) ?_
    refine tr_seq ?_
    refine tr_cond (b := (decide (s2.1 < ((a0).length : Int)))) (by simp) (fun c5 => ?_) (fun c5 => ?_)
    · rw [if_pos c5] at h1
      refine tr_skip ?_
      refine tr_seq ?_
      refine tr_block ?_
      refine kr [0, 1, 5, 7, 8] (by simp; rfl) ?_
      refine kc ?_
      replace h1 := bnd h1; obtain ⟨x3, p3, h1⟩ := h1
      replace p3 := idx_some p3
      have p3' := p3; try simp at p3'
      refine ko [0, 1, 5, 7, 8, 11, 15] 5 (by simp [p3, p3']; rfl) ?_
      replace h1 := bnd h1; obtain ⟨y4, hy4, h1⟩ := h1
      refine kcallV [0, 1, 5, 7, 8, 16] [1000000] [] [] (search_end_1_cb_ok hy4) rfl rfl rfl Try.call50 (by simp) (by simp; rfl) ?_
      refine tops_nil ?_
      refine tr_cond (b := y4.1) (by simp) (fun c6 => ?_) (fun c6 => ?_)
      · rw [if_pos c6] at h1
        refine kr [4] (by simp; rfl) ?_
        have k1 := he1 _ (Option.some.inj h1)
        subst k1
        dsimp only at h0
        cases h0
        exact tr_ret ⟨[], by simp, rfl, by simp⟩
      · rw [if_neg (by rw [c6]; decide)] at h1
        refine tr_skip ?_
        refine lr (by simp; rfl) ?_
        exact ⟨_, hg1 _ (Option.some.inj h1), wk (by simp [weak_iff])⟩
    · rw [if_neg (by rw [c5]; decide)] at h1
      refine tr_exit ?_
      exact ⟨_, he1 _ (Option.some.inj h1), wk (by simp [weak_iff])⟩
set_option maxHeartbeats 1000000 in
theorem search_end_ok {a0 : api_Fleet} {a1 : api_Rotation} {r : (List search_found) × Int × Int} (h0 : search_end a0 a1 = some r) : FnOK Try.prog 27 [] [.agg (api_Fleet_av a0), .agg (api_Rotation_av a1)] (.tup [.d (.slice (rowsF search_found_row r.1)), .d (.int .i64 r.2.1), .d (.int .i64 r.2.2)]) [] := by
  unfold search_end at h0
  refine fn_ok (nt := 22) (rs := [.tmp 4, .tmp 5, .tmp 6]) Try.func27 rfl Try.ntmps27 rfl (by simp) (by decide) rfl fun K => ?_
  refine kr [2, 3] (by simp; rfl) ?_
  refine tr_seq ?_
  refine kc ?_
  refine ko [2, 3, 9, 10] 2 (by simp; rfl) ?_
  replace h0 := bnd h0; obtain ⟨y1, hy1, h0⟩ := h0
  refine kcall [2, 3, 11] [] (search_check_ok hy1) rfl rfl rfl Try.call47 (by simp) (by simp; rfl) ?_
  refine ko [2, 3, 7] 1 (by simp; rfl) ?_
  refine tops_nil ?_
  refine kr [2, 3, 7, 13] (by simp; rfl) ?_
  refine tr_cond (b := (y1 != 0)) (by simp) (fun c1 => ?_) (fun c1 => ?_)
  · rw [if_pos c1] at h0
    refine kr [4, 5, 6] (by simp; rfl) ?_
    cases h0
    exact tr_ret ⟨[], by simp, rfl, by simp⟩
  · rw [if_neg (by rw [c1]; decide)] at h0
    refine tr_skip ?_
    refine kc ?_
    refine ko [2, 15, 16] 2 (by simp; rfl) ?_
    replace h0 := bnd h0; obtain ⟨y2, hy2, h0⟩ := h0
    refine kcall [2, 17] [] (search_all_ok hy2) rfl rfl rfl Try.call48 (by simp) (by simp; rfl) ?_
    refine ko [2, 8] 1 (by simp; rfl) ?_
    refine tops_nil ?_
    refine kc ?_
    refine ko [18, 19, 20] 3 (by simp; rfl) ?_
    replace h0 := bnd h0; obtain ⟨y3, hy3, h0⟩ := h0
    refine kcall [18, 21] [2] (slices_IndexFunc_search_found_at_search_end_1_b_ok hy3) rfl rfl rfl Try.call49 (by simp) (by simp; rfl) ?_
    refine ko [4, 5, 6] 3 (by simp; rfl) ?_
    refine tops_nil ?_
    cases h0
    exact tr_ret ⟨[], by simp, rfl, by simp⟩
set_option maxHeartbeats 1000000 in
theorem search_Distance_ok {a0 : api_Fleet} {a1 : api_Rotation} {r : Int × Bool × Int} (h0 : search_Distance a0 a1 = some r) : FnOK Try.prog 10 [] [.agg (api_Fleet_av a0), .agg (api_Rotation_av a1)] (.tup [.d (.int .i64 r.1), .d (.bool r.2.1), .d (.int .i64 r.2.2)]) [] := by
  unfold search_Distance at h0
  refine fn_ok (nt := 25) (rs := [.tmp 4, .tmp 5, .tmp 6]) Try.func10 rfl Try.ntmps10 rfl (by simp) (by decide) rfl fun K => ?_
  refine kr [2, 3] (by simp; rfl) ?_
  refine kc ?_
  refine ko [11, 12] 2 (by simp; rfl) ?_
  replace h0 := bnd h0; obtain ⟨y1, hy1, h0⟩ := h0
  refine kcall [13] [] (search_end_ok hy1) rfl rfl rfl Try.call27 (by simp) (by simp; rfl) ?_
  refine ko [7, 8, 9] 7 (by simp; rfl) ?_
  refine tops_nil ?_
  refine tr_seq ?_
  refine kr [7, 8, 9, 18] (by simp; rfl) ?_
  refine tr_cond (b := (decide (y1.2.1 < 0))) (by simp) (fun c1 => ?_) (fun c1 => ?_)
  · rw [if_pos c1] at h0
    refine kr [4, 5, 6] (by simp; rfl) ?_
    cases h0
    exact tr_ret ⟨[], by simp, rfl, by simp⟩
  · rw [if_neg (by rw [c1]; decide)] at h0
    refine tr_skip ?_
    replace h0 := bnd h0; obtain ⟨x2, p1, h0⟩ := h0
    replace p1 := idx_some p1
    have p1' := p1; try simp at p1'
    refine kr [4, 5, 6] (by simp [p1, p1']; rfl) ?_
    cases h0
    exact tr_ret ⟨[], by simp, rfl, by simp⟩
set_option maxHeartbeats 1000000 in
theorem make_Pick_ok {a0 : make_Tape} {a1 : List Int} {r : Int × make_Tape} (h0 : make_Pick a0 a1 = some r) : FnOK Try.prog 28 [make_Tape_av a0] [.ptr (InO 0) 0, .d (.slice (rowsF (iRow .i64) a1))] (.d (.int .i64 r.1)) [make_Tape_av r.2] := by
  unfold make_Pick at h0
  refine fn_ok (nt := 12) (rs := [.tmp 4]) Try.func28 rfl Try.ntmps28 rfl (by simp) (by decide) rfl fun K => ?_
  refine kr [0, 1] (by simp; rfl) ?_
  refine kc ?_
  refine ko [5, 6, 8] 4 (by simp; rfl) ?_
  replace h0 := bnd h0; obtain ⟨y1, hy1, h0⟩ := h0
  refine kcall [5, 9] [1000000] (make_Tape_Next_ok hy1) rfl rfl rfl Try.call22 (by simp) (by simp; rfl) ?_
  replace h0 := bnd h0; obtain ⟨x2, p1, h0⟩ := h0
  replace p1 := idx_some p1
  have p1' := p1; try simp at p1'
  refine ko [4] 3 (by simp [p1, p1']; rfl) ?_
  refine tops_nil ?_
  cases h0
  exact tr_ret ⟨[], by simp, rfl, by simp⟩
set_option maxHeartbeats 1000000 in
theorem make_Outcomes_ok {a0 : make_Tape} {a1 : Int} {r : (List Int) × make_Tape} (h0 : make_Outcomes a0 a1 = some r) : FnOK Try.prog 11 [make_Tape_av a0] [.ptr (InO 0) 0, .d (.int .i64 a1)] (.d (.slice (rowsF (iRow .i64) r.1))) [make_Tape_av r.2] := by
  unfold make_Outcomes at h0
  refine fn_ok (nt := 22) (rs := [.tmp 4]) Try.func11 rfl Try.ntmps11 rfl (by simp) (by decide) rfl fun K => ?_
  refine kr [0, 1] (by simp; rfl) ?_
  refine kr [0, 1, 5] (by simp; rfl) ?_
  refine tr_seq ?_
  refine kc ?_
  refine ko [0, 5, 7, 9] 3 (by simp; rfl) ?_
  replace h0 := bnd h0; obtain ⟨y1, hy1, h0⟩ := h0
  refine kcall [0, 5, 10] [1000000] (make_Tape_Next_ok hy1) rfl rfl rfl Try.call22 (by simp) (by simp; rfl) ?_
  refine ko [0, 5, 6] 1 (by simp; rfl) ?_
  refine tops_nil ?_
  refine tr_wk (wk_own 5 20 3 1 (by simp) (by simp)) ?_
  replace h0 := bnd h0; obtain ⟨e1, hI1, h0⟩ := h0
  refine tjv (fun v2 : (List Int) × Int × (List Int) => ({ nt := 22, env := [(5, .vec 20)], box := [(1000000, [.d (.slice (rowsF (iRow .i64) v2.1)), .d (.int .i64 v2.2.1)])], vec := [(20, ⟨3, 1, rowsF (iRow .i64) v2.2.2⟩)] } : St)) (fun v2 => v2 = e1) (fun v2 hI1e _ W1 => ?_) ?_
  · subst hI1e
    refine tr_wk W1 ?_
    refine kr [4] (by simp; rfl) ?_
    cases h0
    exact tr_ret ⟨[20], by simp, rfl, by simp⟩
  · refine tr_block (tr_iter (fun s3 : Int × (List Int) × Int × (List Int) => ({ nt := 22, env := [(0, .ptr 1000000 0), (5, .vec 20), (6, .d (.int .i64 s3.1))], box := [(1000000, [.d (.slice (rowsF (iRow .i64) s3.2.1)), .d (.int .i64 s3.2.2.1)])], vec := [(20, ⟨3, 1, rowsF (iRow .i64) s3.2.2.2⟩)] } : St)) hI1 (wk (by simp [weak_iff])) fun G1 s3 o1 h1 hg1 he1 => ?_)
    unfold make_Outcomes_l0 at h1
    refine tr_seq ?_
    refine kr [0, 5, 6, 12] (by simp; rfl) ?_
    refine tr_cond (b := (decide (0 < s3.1))) (by simp) (fun c4 => ?_) (fun c4 => ?_)
    · rw [if_pos c4] at h1
      refine tr_skip ?_
      refine tr_seq ?_
      refine tr_block ?_
      refine kc1 ?_
      refine ko [0, 6, 15, 16, 17] 3 (by simp; rfl) ?_
      refine tops_wk (wk_frz 17) ?_
      replace h1 := bnd h1; obtain ⟨y4, hy4, h1⟩ := h1
      refine kcall [0, 6, 15, 18] [1000000] (make_Pick_ok hy4) rfl rfl rfl Try.call28 (by simp) (by simp; rfl) ?_
      replace h1 := bnd h1; obtain ⟨_, p3, h1⟩ := h1
      replace p3 := ck_some p3
      have p3' := p3; try simp at p3'
      refine ko [0, 5, 6] 3 (by simp [p3, p3']; rfl) ?_
      refine tops_nil ?_
      refine lr (by simp; rfl) ?_
      exact ⟨_, hg1 _ (Option.some.inj h1), wk (by simp [weak_iff])⟩
    · rw [if_neg (by rw [c4]; decide)] at h1
      refine tr_exit ?_
      exact ⟨_, he1 _ (Option.some.inj h1), wk (by simp [weak_iff])⟩
set_option maxHeartbeats 1000000 in
theorem runner_outcome_ok {a0 : Int} {r : Bool} (h0 : runner_outcome a0 = some r) : FnOK Try.prog 37 [] [.d (.int .i64 a0)] (.d (.bool r)) [] := by
  unfold runner_outcome at h0
  refine fn_ok (nt := 9) (rs := [.tmp 2]) Try.func37 rfl Try.ntmps37 rfl (by simp) (by decide) rfl fun K => ?_
  refine kr [0] (by simp; rfl) ?_
  replace h0 := bnd h0; obtain ⟨v1, hvv1, h0⟩ := h0
  refine sjv (fun v1_ : Bool => ({ nt := 9, env := [(2, .d (.bool v1_))], box := [], vec := [] } : St)) (fun v1_ => v1 = v1_) (fun v1_ e => ?_) ?_
  · subst e
    cases h0
    exact tr_ret ⟨[], by simp, rfl, by simp⟩
  · refine kc1 ?_
    refine ko [0, 5] 3 (by simp; rfl) ?_
    refine tops_split 5 (decide (0 ≤ a0)) (by simp) (fun c3 => ?_) (fun c3 => ?_)
    · rw [c3] at hvv1
      refine ko [2] 4 (by simp; rfl) ?_
      refine tops_nil ?_
      cases hvv1
      exact ⟨_, rfl, wk (by simp [weak_iff])⟩
    · rw [c3] at hvv1
      refine ko [2] 4 (by simp; rfl) ?_
      refine tops_nil ?_
      cases hvv1
      exact ⟨_, rfl, wk (by simp [weak_iff])⟩
set_option maxHeartbeats 1000000 in
theorem runner_check_1_ok {a0 : Int} {r : Bool} (h0 : runner_check_1 a0 = some r) : FnOK Try.prog 73 [] [.d (.int .i64 a0)] (.d (.bool r)) [] := by
  unfold runner_check_1 at h0
  refine fn_ok (nt := 6) (rs := [.tmp 2]) Try.func73 rfl Try.ntmps73 rfl (by simp) (by decide) rfl fun K => ?_
  refine kr [0] (by simp; rfl) ?_
  refine kc ?_
  refine ko [3] 1 (by simp; rfl) ?_
  replace h0 := bnd h0; obtain ⟨y1, hy1, h0⟩ := h0
  refine kcall [4] [] (runner_outcome_ok hy1) rfl rfl rfl Try.call37 (by simp) (by simp; rfl) ?_
  refine ko [2] 2 (by simp; rfl) ?_
  refine tops_nil ?_
  cases h0
  exact tr_ret ⟨[], by simp, rfl, by simp⟩
set_option maxHeartbeats 1000000 in
theorem slices_IndexFunc_int_at_runner_check_1_ok {a0 : List Int} {r : Int} (h0 : slices_IndexFunc_int_at_runner_check_1 a0 = some r) : FnOK Try.prog 67 [] [.d (.slice (rowsF (iRow .i64) a0)), .fn 73 []] (.d (.int .i64 r)) [] := by
  unfold slices_IndexFunc_int_at_runner_check_1 at h0
  refine fn_ok (nt := 19) (rs := [.tmp 4]) Try.func67 rfl Try.ntmps67 rfl (by simp) (by decide) rfl fun K => ?_
  refine kr [0, 1] (by simp; rfl) ?_
  refine tr_seq ?_
  refine kr [0, 1, 7, 8] (by simp; rfl) ?_
  replace h0 := bnd h0; obtain ⟨e1, hI1, h0⟩ := h0
  refine tjv (fun v1 : Unit => ({ nt := 19, env := [], box := [], vec := [] } : St)) (fun v1 => .inl v1 = e1) (fun v1 hI1e _ W1 => ?_) ?_
  · subst hI1e
    dsimp only at h0
    refine tr_wk W1 ?_
    refine kr [4] (by simp; rfl) ?_
    cases h0
    exact tr_ret ⟨[], by simp, rfl, by simp⟩
  · refine tr_block (tr_iter (fun s2 : Int => ({ nt := 19, env := [(0, .d (.slice (rowsF (iRow .i64) a0))), (1, .fn 73 []), (7, .d (.int .i64 ((a0).length : Int))), (8, .d (.int .i64 s2))], box := [], vec := [] } : St)) hI1 (wk (by simp [weak_iff])) fun G1 s2 o1 h1 hg1 he1 => ?_)
    unfold slices_IndexFunc_int_at_runner_check_1_l0 at h1
    refine kr [0, 1, 7, 8, 9] (by simp; rfl) ?_
    refine tr_seq ?_
    refine tr_cond (b := (decide (s2 < ((a0).length : Int)))) (by simp) (fun c5 => ?_) (fun c5 => ?_)
    · rw [if_pos c5] at h1
      refine tr_skip ?_
      refine tr_seq ?_
      refine tr_block ?_
      refine kr [0, 1, 5, 7, 8] (by simp; rfl) ?_
      refine kc ?_
      replace h1 := bnd h1; obtain ⟨x3, p3, h1⟩ := h1
      replace p3 := idx_some p3
      have p3' := p3; try simp at p3'
      refine ko [0, 1, 5, 7, 8, 11, 15] 5 (by simp [p3, p3']; rfl) ?_
      replace h1 := bnd h1; obtain ⟨y4, hy4, h1⟩ := h1
      refine kcallV [0, 1, 5, 7, 8, 16] [] [] [] (runner_check_1_ok hy4) rfl rfl rfl Try.call73 (by simp) (by simp; rfl) ?_
      refine tops_nil ?_
      refine tr_cond (b := y4) (by simp) (fun c6 => ?_) (fun c6 => ?_)
      · rw [if_pos c6] at h1
        refine kr [4] (by simp; rfl) ?_
        have k1 := he1 _ (Option.some.inj h1)
        subst k1
        dsimp only at h0
        cases h0
        exact tr_ret ⟨[], by simp, rfl, by simp⟩
      · rw [if_neg (by rw [c6]; decide)] at h1
        refine tr_skip ?_
        refine lr (by simp; rfl) ?_
        exact ⟨_, hg1 _ (Option.some.inj h1), wk (by simp [weak_iff])⟩
    · rw [if_neg (by rw [c5]; decide)] at h1
      refine tr_exit ?_
      exact ⟨_, he1 _ (Option.some.inj h1), wk (by simp [weak_iff])⟩
set_option maxHeartbeats 1000000 in
theorem slices_ContainsFunc_int_at_runner_check_1_ok {a0 : List Int} {r : Bool} (h0 : slices_ContainsFunc_int_at_runner_check_1 a0 = some r) : FnOK Try.prog 72 [] [.d (.slice (rowsF (iRow .i64) a0)), .fn 73 []] (.d (.bool r)) [] := by
  unfold slices_ContainsFunc_int_at_runner_check_1 at h0
  refine fn_ok (nt := 9) (rs := [.tmp 4]) Try.func72 rfl Try.ntmps72 rfl (by simp) (by decide) rfl fun K => ?_
  refine kr [0, 1] (by simp; rfl) ?_
  refine kc ?_
  refine ko [5, 6] 2 (by simp; rfl) ?_
  replace h0 := bnd h0; obtain ⟨y1, hy1, h0⟩ := h0
  refine kcall [7] [] (slices_IndexFunc_int_at_runner_check_1_ok hy1) rfl rfl rfl Try.call67 (by simp) (by simp; rfl) ?_
  refine ko [4] 2 (by simp; rfl) ?_
  refine tops_nil ?_
  cases h0
  exact tr_ret ⟨[], by simp, rfl, by simp⟩
set_option maxHeartbeats 1000000 in
theorem runner_check_ok {a0 : api_Fleet} {a1 : api_Rotation} {a2 : List api_Step} {a3 : List Int} {r : Int} (h0 : runner_check a0 a1 a2 a3 = some r) : FnOK Try.prog 51 [] [.agg (api_Fleet_av a0), .agg (api_Rotation_av a1), .d (.slice (rowsF api_Step_row a2)), .d (.slice (rowsF (iRow .i64) a3))] (.d (.int .i64 r)) [] := by
  unfold runner_check at h0
  refine fn_ok (nt := 21) (rs := [.tmp 8]) Try.func51 rfl Try.ntmps51 rfl (by simp) (by decide) rfl fun K => ?_
  refine kr [2, 3, 4, 5] (by simp; rfl) ?_
  refine tr_seq ?_
  refine tr_block ?_
  refine kc ?_
  refine ko [2, 3, 10, 11] 2 (by simp; rfl) ?_
  replace h0 := bnd h0; obtain ⟨y1, hy1, h0⟩ := h0
  refine kcall [2, 3, 12] [] (fleet_Right_ok hy1) rfl rfl rfl Try.call30 (by simp) (by simp; rfl) ?_
  refine ko [2, 3, 9] 2 (by simp; rfl) ?_
  refine tops_nil ?_
  refine tr_cond (b := (!y1)) (by simp) (fun c1 => ?_) (fun c1 => ?_)
  · rw [if_pos c1] at h0
    refine kr [8] (by simp; rfl) ?_
    cases h0
    exact tr_ret ⟨[], by simp, rfl, by simp⟩
  · rw [if_neg (by rw [c1]; decide)] at h0
    refine kr [3, 14] (by simp; rfl) ?_
    refine tr_cond (b := (decide (120 < ((a2).length : Int)))) (by simp) (fun c2 => ?_) (fun c2 => ?_)
    · rw [if_pos c2] at h0
      refine kr [8] (by simp; rfl) ?_
      cases h0
      exact tr_ret ⟨[], by simp, rfl, by simp⟩
    · rw [if_neg (by rw [c2]; decide)] at h0
      refine kc ?_
      refine ko [19] 1 (by simp; rfl) ?_
      replace h0 := bnd h0; obtain ⟨y2, hy2, h0⟩ := h0
      refine kcall [20] [] (slices_ContainsFunc_int_at_runner_check_1_ok hy2) rfl rfl rfl Try.call72 (by simp) (by simp; rfl) ?_
      refine ko [18] 1 (by simp; rfl) ?_
      refine tops_nil ?_
      refine tr_cond (b := y2) (by simp) (fun c3 => ?_) (fun c3 => ?_)
      · rw [if_pos c3] at h0
        refine kr [8] (by simp; rfl) ?_
        cases h0
        exact tr_ret ⟨[], by simp, rfl, by simp⟩
      · rw [if_neg (by rw [c3]; decide)] at h0
        refine tr_skip ?_
        refine kr [8] (by simp; rfl) ?_
        cases h0
        exact tr_ret ⟨[], by simp, rfl, by simp⟩
set_option maxHeartbeats 1000000 in
theorem runner_there_ok {a0 : Int} {r : Bool} (h0 : runner_there a0 = some r) : FnOK Try.prog 38 [] [.d (.int .i64 a0)] (.d (.bool r)) [] := by
  unfold runner_there at h0
  refine fn_ok (nt := 9) (rs := [.tmp 2]) Try.func38 rfl Try.ntmps38 rfl (by simp) (by decide) rfl fun K => ?_
  refine kr [0] (by simp; rfl) ?_
  replace h0 := bnd h0; obtain ⟨v1, hvv1, h0⟩ := h0
  refine sjv (fun v1_ : Bool => ({ nt := 9, env := [(2, .d (.bool v1_))], box := [], vec := [] } : St)) (fun v1_ => v1 = v1_) (fun v1_ e => ?_) ?_
  · subst e
    cases h0
    exact tr_ret ⟨[], by simp, rfl, by simp⟩
  · refine kc1 ?_
    refine ko [0, 5] 3 (by simp; rfl) ?_
    refine tops_split 5 (a0 != 1) (by simp) (fun c3 => ?_) (fun c3 => ?_)
    · rw [c3] at hvv1
      refine ko [2] 4 (by simp; rfl) ?_
      refine tops_nil ?_
      cases hvv1
      exact ⟨_, rfl, wk (by simp [weak_iff])⟩
    · rw [c3] at hvv1
      refine ko [2] 4 (by simp; rfl) ?_
      refine tops_nil ?_
      cases hvv1
      exact ⟨_, rfl, wk (by simp [weak_iff])⟩
set_option maxHeartbeats 1000000 in
theorem runner_runner_look_o0_6_7_ok {a0 : runner_runner} {a1 : api_Rotation} {r : runner_runner} (h0 : runner_runner_look_o0_6_7 a0 a1 = some r) : FnOKv Try.prog 53 [[.d (.int .i64 a0.fleet.Slots), .d (.slice (rowsF api_Consumer_row a0.fleet.Consumers)), .d (.int .i64 a0.state.Known), .d (.int .i64 a0.state.Valid), .d (.slice (rowsF api_Unit_row a0.state.Units)), .d (.slice (rowsF (iRow .i64) a0.outcomes)), .vec (InV 0), .vec (InV 1)]] [⟨93, 4, rowsF api_Attempt_row a0.tried⟩, ⟨33, 3, rowsF api_Rotation_row a0.states⟩] [.ptr (InO 0) 0, .agg (api_Rotation_av a1)] (.tup []) [[.d (.int .i64 r.fleet.Slots), .d (.slice (rowsF api_Consumer_row r.fleet.Consumers)), .d (.int .i64 r.state.Known), .d (.int .i64 r.state.Valid), .d (.slice (rowsF api_Unit_row r.state.Units)), .d (.slice (rowsF (iRow .i64) r.outcomes)), .vec (InV 0), .vec (InV 1)]] [⟨93, 4, rowsF api_Attempt_row r.tried⟩, ⟨33, 3, rowsF api_Rotation_row r.states⟩] := by
  unfold runner_runner_look_o0_6_7 at h0
  refine fn_okv (nt := 15) (rs := []) Try.func53 rfl Try.ntmps53 rfl (by simp) (by decide) rfl fun K => ?_
  refine kr [0, 3] (by simp; rfl) ?_
  refine kd1 [[], [], [1], [2], [3], [], [5], [6], [4, 7], [0, 8], [8, 9], [4, 8, 10]] [8, 11] [(1000000, [8, 11])] (some (8, 2000001)) [8] 12 fol (by decide +kernel) (by simp) ?_
  refine dr_go 0 2 rfl (by simp (maxSteps := 1000000); rfl) ?_
  refine dr_go 2 2 rfl (by simp (maxSteps := 1000000); rfl) ?_
  refine dr_go 4 2 rfl (by simp (maxSteps := 1000000); rfl) ?_
  replace h0 := bnd h0; obtain ⟨y1, hy1, h0⟩ := h0
  refine dr_call 6 [] (fleet_Copy_ok hy1) rfl rfl rfl rfl rfl Try.call52 (by simp) ?_
  replace h0 := bnd h0; obtain ⟨_, p3, h0⟩ := h0
  replace p3 := ck_some p3
  have p3' := p3; try simp at p3'
  refine dr_go 7 2 rfl (by simp (maxSteps := 1000000) [p3, p3']; rfl) ?_
  refine dr_go 9 2 rfl (by simp (maxSteps := 1000000) [p3, p3']; rfl) ?_
  refine dr_go 11 1 rfl (by simp (maxSteps := 1000000) [p3, p3']; rfl) ?_
  refine dr_end rfl (tops_nil ?_)
  cases h0
  exact ⟨[], [2000000, 12], by simp, by simp, by simp, by simp, by simp⟩
set_option maxHeartbeats 1000000 in
theorem runner_runner_next_o0_6_7_ok {a0 : runner_runner} {r : Int × runner_runner} (h0 : runner_runner_next_o0_6_7 a0 = some r) : FnOKv Try.prog 75 [[.d (.int .i64 a0.fleet.Slots), .d (.slice (rowsF api_Consumer_row a0.fleet.Consumers)), .d (.int .i64 a0.state.Known), .d (.int .i64 a0.state.Valid), .d (.slice (rowsF api_Unit_row a0.state.Units)), .d (.slice (rowsF (iRow .i64) a0.outcomes)), .vec (InV 0), .vec (InV 1)]] [⟨93, 4, rowsF api_Attempt_row a0.tried⟩, ⟨33, 3, rowsF api_Rotation_row a0.states⟩] [.ptr (InO 0) 0] (.d (.int .i64 r.1)) [[.d (.int .i64 r.2.fleet.Slots), .d (.slice (rowsF api_Consumer_row r.2.fleet.Consumers)), .d (.int .i64 r.2.state.Known), .d (.int .i64 r.2.state.Valid), .d (.slice (rowsF api_Unit_row r.2.state.Units)), .d (.slice (rowsF (iRow .i64) r.2.outcomes)), .vec (InV 0), .vec (InV 1)]] [⟨93, 4, rowsF api_Attempt_row r.2.tried⟩, ⟨33, 3, rowsF api_Rotation_row r.2.states⟩] := by
  unfold runner_runner_next_o0_6_7 at h0
  refine fn_okv (nt := 23) (rs := [.tmp 2]) Try.func75 rfl Try.ntmps75 rfl (by simp) (by decide) rfl fun K => ?_
  refine kr [0] (by simp; rfl) ?_
  refine tr_seq ?_
  refine kr [0, 3] (by simp; rfl) ?_
  refine kr [0, 3, 15] (by simp; rfl) ?_
  refine tr_cond (b := (decide (((a0.tried).length : Int) < ((a0.outcomes).length : Int)))) (by simp) (fun c1 => ?_) (fun c1 => ?_)
  · rw [if_pos c1] at h0
    replace h0 := bnd h0; obtain ⟨x1, p1, h0⟩ := h0
    replace p1 := idx_some p1
    have p1' := p1; try simp at p1'
    refine kr [2] (by simp [p1, p1']; rfl) ?_
    cases h0
    exact tr_ret ⟨[], [2000000, 2000001], by simp, by simp, by simp, by simp, by simp⟩
  · rw [if_neg (by rw [c1]; decide)] at h0
    refine tr_skip ?_
    refine kr [2] (by simp; rfl) ?_
    cases h0
    exact tr_ret ⟨[], [2000000, 2000001], by simp, by simp, by simp, by simp, by simp⟩
set_option maxHeartbeats 1000000 in
theorem runner_runner_step_o0_6_7_ok {a0 : runner_runner} {a1 : api_Step} {r : Int × runner_runner} (h0 : runner_runner_step_o0_6_7 a0 a1 = some r) : FnOKv Try.prog 54 [[.d (.int .i64 a0.fleet.Slots), .d (.slice (rowsF api_Consumer_row a0.fleet.Consumers)), .d (.int .i64 a0.state.Known), .d (.int .i64 a0.state.Valid), .d (.slice (rowsF api_Unit_row a0.state.Units)), .d (.slice (rowsF (iRow .i64) a0.outcomes)), .vec (InV 0), .vec (InV 1)]] [⟨93, 4, rowsF api_Attempt_row a0.tried⟩, ⟨33, 3, rowsF api_Rotation_row a0.states⟩] [.ptr (InO 0) 0, .agg (api_Step_av a1)] (.d (.int .i64 r.1)) [[.d (.int .i64 r.2.fleet.Slots), .d (.slice (rowsF api_Consumer_row r.2.fleet.Consumers)), .d (.int .i64 r.2.state.Known), .d (.int .i64 r.2.state.Valid), .d (.slice (rowsF api_Unit_row r.2.state.Units)), .d (.slice (rowsF (iRow .i64) r.2.outcomes)), .vec (InV 0), .vec (InV 1)]] [⟨93, 4, rowsF api_Attempt_row r.2.tried⟩, ⟨33, 3, rowsF api_Rotation_row r.2.states⟩] := by
  unfold runner_runner_step_o0_6_7 at h0
  refine fn_okv (nt := 63) (rs := [.tmp 4]) Try.func54 rfl Try.ntmps54 rfl (by simp) (by decide) rfl fun K => ?_
  refine kr [0, 3] (by simp; rfl) ?_
  refine kd [[], [0], [1], [2], [], [4], [5], [6], [], [3, 7, 8], [9], [10], [10], [], [11, 13], [12, 13]] [13, 14] [(5, [13, 14])] none [] 16 fol (by decide +kernel) (by simp) ?_
  refine dr_go 0 2 rfl (by simp (maxSteps := 1000000); rfl) ?_
  refine dr_go 2 2 rfl (by simp (maxSteps := 1000000); rfl) ?_
  refine dr_go 4 2 rfl (by simp (maxSteps := 1000000); rfl) ?_
  refine dr_go 6 2 rfl (by simp (maxSteps := 1000000); rfl) ?_
  refine dr_go 8 1 rfl (by simp (maxSteps := 1000000); rfl) ?_
  replace h0 := bnd h0; obtain ⟨y1, hy1, h0⟩ := h0
  refine dr_call 9 [] (steps_Apply_ok hy1) rfl rfl rfl rfl rfl Try.call61 (by simp) ?_
  refine dr_go 10 2 rfl (by simp (maxSteps := 1000000); rfl) ?_
  refine dr_go 12 2 rfl (by simp (maxSteps := 1000000); rfl) ?_
  refine dr_go 14 2 rfl (by simp (maxSteps := 1000000); rfl) ?_
  refine dr_end rfl (tops_nil ?_)
  refine tr_seq ?_
  refine kr [0, 3, 5, 6, 22] (by simp; rfl) ?_
  refine tr_cond (b := (y1.2 != 0)) (by simp) (fun c1 => ?_) (fun c1 => ?_)
  · rw [if_pos c1] at h0
    refine kr [4] (by simp; rfl) ?_
    cases h0
    exact tr_ret ⟨[], [2000000, 2000001], by simp, by simp, by simp, by simp, by simp⟩
  · rw [if_neg (by rw [c1]; decide)] at h0
    refine tr_skip ?_
    refine tr_seq ?_
    refine kr [0, 3, 5, 24] (by simp; rfl) ?_
    replace h0 := bnd h0; obtain ⟨e1, hI1, h0⟩ := h0
    refine tjv (fun v2 : Int × (List api_Consumer) × Int × Int × (List api_Unit) × (List Int) × (List api_Attempt) × (List api_Rotation) => ({ nt := 63, env := [], box := [(1000000, [.d (.int .i64 v2.1), .d (.slice (rowsF api_Consumer_row v2.2.1)), .d (.int .i64 v2.2.2.1), .d (.int .i64 v2.2.2.2.1), .d (.slice (rowsF api_Unit_row v2.2.2.2.2.1)), .d (.slice (rowsF (iRow .i64) v2.2.2.2.2.2.1)), .vec 2000000, .vec 2000001])], vec := [(2000000, ⟨93, 4, rowsF api_Attempt_row v2.2.2.2.2.2.2.1⟩), (2000001, ⟨33, 3, rowsF api_Rotation_row v2.2.2.2.2.2.2.2⟩)] } : St)) (fun v2 => .inl v2 = e1) (fun v2 hI1e _ W1 => ?_) ?_
    · subst hI1e
      dsimp only at h0
      refine tr_wk W1 ?_
      refine kr [4] (by simp; rfl) ?_
      cases h0
      exact tr_ret ⟨[], [2000000, 2000001], by simp, by simp, by simp, by simp, by simp⟩
    · refine tr_block (tr_iter (fun s3 : Int × Int × (List api_Consumer) × Int × Int × (List api_Unit) × (List Int) × (List api_Attempt) × (List api_Rotation) => ({ nt := 63, env := [(0, .ptr 1000000 0), (3, .ptr 3 0), (5, .ptr 5 0), (24, .d (.int .i64 s3.1))], box := [(3, [.d (.int .i64 a1.Kind), .d (.int .i64 a1.Unit)]), (5, [.d (.int .i64 y1.1.Known), .d (.int .i64 y1.1.Valid), .d (.slice (rowsF api_Unit_row y1.1.Units))]), (1000000, [.d (.int .i64 s3.2.1), .d (.slice (rowsF api_Consumer_row s3.2.2.1)), .d (.int .i64 s3.2.2.2.1), .d (.int .i64 s3.2.2.2.2.1), .d (.slice (rowsF api_Unit_row s3.2.2.2.2.2.1)), .d (.slice (rowsF (iRow .i64) s3.2.2.2.2.2.2.1)), .vec 2000000, .vec 2000001])], vec := [(2000000, ⟨93, 4, rowsF api_Attempt_row s3.2.2.2.2.2.2.2.1⟩), (2000001, ⟨33, 3, rowsF api_Rotation_row s3.2.2.2.2.2.2.2.2⟩)] } : St)) hI1 (wk (by simp [weak_iff])) fun G1 s3 o1 h1 hg1 he1 => ?_)
      unfold runner_runner_step_o0_6_7_l0 at h1
      refine kr [0, 3, 5, 24, 25] (by simp; rfl) ?_
      refine tr_seq ?_
      refine tr_cond (b := (decide (s3.1 < 6))) (by simp) (fun c8 => ?_) (fun c8 => ?_)
      · rw [if_pos c8] at h1
        refine tr_skip ?_
        refine tr_seq ?_
        refine tr_block ?_
        refine kc ?_
        refine ko [0, 3, 5, 24, 26] 1 (by simp; rfl) ?_
        replace h1 := bnd h1; obtain ⟨y4, hy4, h1⟩ := h1
        refine kcallV [0, 3, 5, 24, 27] [1000000] [2000000, 2000001] [2000000, 2000001] (runner_runner_next_o0_6_7_ok hy4) rfl rfl rfl Try.call75 (by simp) (by simp; rfl) ?_
        refine ko [0, 3, 5, 7, 24] 1 (by simp; rfl) ?_
        refine tops_nil ?_
        refine kd [[], [], [1], [2], [3], [], [], [], [7], [5, 6, 8], [9], [4, 10], [0, 11], [11, 12], [4, 11, 13]] [11, 14] [(1000000, [11, 14])] (some (11, 2000000)) [32] 15 fol (by decide +kernel) (by simp) ?_
        refine dr_go 0 2 rfl (by simp (maxSteps := 1000000); rfl) ?_
        refine dr_go 2 2 rfl (by simp (maxSteps := 1000000); rfl) ?_
        refine dr_go 4 2 rfl (by simp (maxSteps := 1000000); rfl) ?_
        refine dr_go 6 2 rfl (by simp (maxSteps := 1000000); rfl) ?_
        replace h1 := bnd h1; obtain ⟨y5, hy5, h1⟩ := h1
        refine dr_call 8 [] (runner_there_ok hy5) rfl rfl rfl rfl rfl Try.call38 (by simp) ?_
        replace h1 := bnd h1; obtain ⟨_, p9, h1⟩ := h1
        replace p9 := ck_some p9
        have p9' := p9; try simp at p9'
        refine dr_go 9 2 rfl (by simp (maxSteps := 1000000) [p9, p9']; rfl) ?_
        refine dr_go 11 2 rfl (by simp (maxSteps := 1000000) [p9, p9']; rfl) ?_
        refine dr_go 13 2 rfl (by simp (maxSteps := 1000000) [p9, p9']; rfl) ?_
        refine dr_end rfl (tops_nil ?_)
        refine sjv (fun v6 : Int × (List api_Consumer) × Int × Int × (List api_Unit) × (List Int) × (List api_Rotation) × (List api_Attempt) => ({ nt := 63, env := [(0, .ptr 1000000 0), (3, .ptr 3 0), (5, .ptr 5 0), (7, .d (.int .i64 y4.1)), (24, .d (.int .i64 s3.1))], box := [(3, [.d (.int .i64 a1.Kind), .d (.int .i64 a1.Unit)]), (5, [.d (.int .i64 y1.1.Known), .d (.int .i64 y1.1.Valid), .d (.slice (rowsF api_Unit_row y1.1.Units))]), (1000000, [.d (.int .i64 v6.1), .d (.slice (rowsF api_Consumer_row v6.2.1)), .d (.int .i64 v6.2.2.1), .d (.int .i64 v6.2.2.2.1), .d (.slice (rowsF api_Unit_row v6.2.2.2.2.1)), .d (.slice (rowsF (iRow .i64) v6.2.2.2.2.2.1)), .vec 39, .vec 2000001])], vec := [(39, ⟨93, 4, rowsF api_Attempt_row v6.2.2.2.2.2.2.2⟩), (2000001, ⟨33, 3, rowsF api_Rotation_row v6.2.2.2.2.2.2.1⟩)] } : St)) (fun v6 => runner_runner_step_o0_6_7_j1 y4 y1 s3 v6 = some o1) (fun v6 h1 => ?_) ?_
        · unfold runner_runner_step_o0_6_7_j1 at h1
          refine tr_seq ?_
          refine kc ?_
          refine ko [0, 3, 5, 24, 47] 1 (by simp; rfl) ?_
          replace h1 := bnd h1; obtain ⟨y7, hy7, h1⟩ := h1
          refine kcall [0, 3, 5, 24, 48] [] (runner_there_ok hy7) rfl rfl rfl Try.call38 (by simp) (by simp; rfl) ?_
          refine tops_nil ?_
          refine tr_cond (b := y7) (by simp) (fun c10 => ?_) (fun c10 => ?_)
          · rw [if_pos c10] at h1
            refine kr [0, 5] (by simp; rfl) ?_
            refine kc ?_
            refine ko [53, 54] 2 (by simp; rfl) ?_
            replace h1 := bnd h1; obtain ⟨y8, hy8, h1⟩ := h1
            refine kcallV [] [1000000] [39, 2000001] [39, 2000001] (runner_runner_look_o0_6_7_ok hy8) rfl rfl rfl Try.call53 (by simp) (by simp; rfl) ?_
            refine tops_nil ?_
            refine kr [4] (by simp; rfl) ?_
            have k1 := he1 _ (Option.some.inj h1)
            subst k1
            dsimp only at h0
            cases h0
            exact tr_ret ⟨[], [39, 2000001], by simp, by simp, by simp, by simp, by simp⟩
          · rw [if_neg (by rw [c10]; decide)] at h1
            refine tr_skip ?_
            refine kc1 ?_
            refine ko [0, 3, 5, 24, 56, 60] 5 (by simp; rfl) ?_
            replace h1 := bnd h1; obtain ⟨y9, hy9, h1⟩ := h1
            refine kcallV [0, 3, 5, 24] [1000000] [39, 2000001] [39, 2000001] (runner_runner_look_o0_6_7_ok hy9) rfl rfl rfl Try.call53 (by simp) (by simp; rfl) ?_
            refine tops_nil ?_
            refine lr (by simp; rfl) ?_
            exact ⟨_, hg1 _ (Option.some.inj h1), (wk_ren 39 2000000).trans (wk (by simp [weak_iff]))⟩
        · refine kr [0, 3, 5, 7, 24, 43] (by simp; rfl) ?_
          refine tr_cond (b := (y4.1 == 4)) (by simp) (fun c11 => ?_) (fun c11 => ?_)
          · rw [if_pos c11] at h1
            refine kc1 ?_
            refine ko [0, 3, 5, 7, 24, 44, 45] 2 (by simp; rfl) ?_
            replace h1 := bnd h1; obtain ⟨y10, hy10, h1⟩ := h1
            refine kcallV [0, 3, 5, 7, 24] [1000000] [39, 2000001] [39, 2000001] (runner_runner_look_o0_6_7_ok hy10) rfl rfl rfl Try.call53 (by simp) (by simp; rfl) ?_
            refine tops_nil ?_
            exact ⟨_, h1, wk (by simp [weak_iff])⟩
          · rw [if_neg (by rw [c11]; decide)] at h1
            refine tr_skip ?_
            exact ⟨_, h1, wk (by simp [weak_iff])⟩
      · rw [if_neg (by rw [c8]; decide)] at h1
        refine tr_exit ?_
        exact ⟨_, he1 _ (Option.some.inj h1), wk (by simp [weak_iff])⟩
set_option maxHeartbeats 1000000 in
theorem runner_run_ok {a0 : api_Fleet} {a1 : api_Rotation} {a2 : List api_Step} {a3 : List Int} {r : (Option runner_runner) × Int} (h0 : runner_run a0 a1 a2 a3 = some r) : FnOK Try.prog 29 [] [.agg (api_Fleet_av a0), .agg (api_Rotation_av a1), .d (.slice (rowsF api_Step_row a2)), .d (.slice (rowsF (iRow .i64) a3))] (.tup [optP runner_runner_row r.1, .d (.int .i64 r.2)]) [] := by
  unfold runner_run at h0
  refine fn_okK (nt := 47) (rs := [.tmp 8, .tmp 9]) Try.func29 rfl Try.ntmps29 rfl (by simp) (by decide) rfl fun K hK => ?_
  refine kr [2, 3, 4, 5] (by simp; rfl) ?_
  refine tr_seq ?_
  refine kc ?_
  refine ko [2, 3, 4, 5, 15, 16, 17, 18] 4 (by simp; rfl) ?_
  replace h0 := bnd h0; obtain ⟨y1, hy1, h0⟩ := h0
  refine kcall [2, 3, 4, 5, 19] [] (runner_check_ok hy1) rfl rfl rfl Try.call51 (by simp) (by simp; rfl) ?_
  refine ko [2, 3, 4, 5, 10] 1 (by simp; rfl) ?_
  refine tops_nil ?_
  refine kr [2, 3, 4, 5, 10, 21] (by simp; rfl) ?_
  refine tr_cond (b := (y1 != 0)) (by simp) (fun c1 => ?_) (fun c1 => ?_)
  · rw [if_pos c1] at h0
    refine kr [8, 9] (by simp; rfl) ?_
    cases h0
    exact tr_ret ⟨[], by simp, rfl, by simp⟩
  · rw [if_neg (by rw [c1]; decide)] at h0
    refine tr_skip ?_
    refine kd [[], [], [1], [], [0, 2, 3], [4], [5]] [] [] none [] 7 fol (by decide +kernel) (by simp) ?_
    refine dr_go 0 2 rfl (by simp (maxSteps := 1000000); rfl) ?_
    replace h0 := bnd h0; obtain ⟨y2, hy2, h0⟩ := h0
    refine dr_call 2 [] (fleet_Copy_ok hy2) rfl rfl rfl rfl rfl Try.call52 (by simp) ?_
    refine dr_go 3 2 rfl (by simp (maxSteps := 1000000); rfl) ?_
    refine dr_go 5 2 rfl (by simp (maxSteps := 1000000); rfl) ?_
    refine dr_end rfl (tops_nil ?_)
    refine kc ?_
    refine ko [2, 11, 29, 30] 2 (by simp; rfl) ?_
    refine tops_wk (wk_ownbox 28 6 401126 93 4 (by simp; rfl) (by simp) (by simp)) ?_
    refine tops_wk (wk_ownbox 28 7 401127 33 3 (by simp; rfl) (by simp) (by simp)) ?_
    replace h0 := bnd h0; obtain ⟨y3, hy3, h0⟩ := h0
    refine kcallV [2, 11] [28] [401126, 401127] [401126, 401127] (runner_runner_look_o0_6_7_ok hy3) rfl rfl rfl Try.call53 (by simp) (by simp; rfl) ?_
    refine tops_nil ?_
    refine tr_seq ?_
    refine kr [11, 32, 33, 34] (by simp; rfl) ?_
    replace h0 := bnd h0; obtain ⟨e1, hI1, h0⟩ := h0
    refine tjv (fun v4 : Int × (List api_Consumer) × Int × Int × (List api_Unit) × (List Int) × (List api_Attempt) × (List api_Rotation) => ({ nt := 47, env := [(11, .ptr 28 0)], box := [(28, [.d (.int .i64 v4.1), .d (.slice (rowsF api_Consumer_row v4.2.1)), .d (.int .i64 v4.2.2.1), .d (.int .i64 v4.2.2.2.1), .d (.slice (rowsF api_Unit_row v4.2.2.2.2.1)), .d (.slice (rowsF (iRow .i64) v4.2.2.2.2.2.1)), .vec 401126, .vec 401127])], vec := [(401126, ⟨93, 4, rowsF api_Attempt_row v4.2.2.2.2.2.2.1⟩), (401127, ⟨33, 3, rowsF api_Rotation_row v4.2.2.2.2.2.2.2⟩)] } : St)) (fun v4 => .inl v4 = e1) (fun v4 hI1e _ W1 => ?_) ?_
    · subst hI1e
      dsimp only at h0
      refine tr_wk W1 ?_
      refine kr [8, 9] (by simp; rfl) ?_
      refine tr_wk (wk_frz 401126) ?_
      refine tr_wk (wk_frz 401127) ?_
      refine tr_frzB 28 [.d (.int .i64 v4.1), .d (.slice (rowsF api_Consumer_row v4.2.1)), .d (.int .i64 v4.2.2.1), .d (.int .i64 v4.2.2.2.1), .d (.slice (rowsF api_Unit_row v4.2.2.2.2.1)), .d (.slice (rowsF (iRow .i64) v4.2.2.2.2.2.1)), .d (.slice (rowsF api_Attempt_row v4.2.2.2.2.2.2.1)), .d (.slice (rowsF api_Rotation_row v4.2.2.2.2.2.2.2))] [.int .i64 v4.1, .slice (rowsF api_Consumer_row v4.2.1), .int .i64 v4.2.2.1, .int .i64 v4.2.2.2.1, .slice (rowsF api_Unit_row v4.2.2.2.2.1), .slice (rowsF (iRow .i64) v4.2.2.2.2.2.1), .slice (rowsF api_Attempt_row v4.2.2.2.2.2.2.1), .slice (rowsF api_Rotation_row v4.2.2.2.2.2.2.2)] (by simp) (by simp) hK (by decide) (fun i hi => absurd hi (Nat.not_lt_zero i)) ?_
      cases h0
      exact tr_ret ⟨[], by simp, rfl, by simp⟩
    · refine tr_block (tr_iter (fun s5 : Int × Int × (List api_Consumer) × Int × Int × (List api_Unit) × (List Int) × (List api_Attempt) × (List api_Rotation) => ({ nt := 47, env := [(11, .ptr 28 0), (32, .d (.slice (rowsF api_Step_row a2))), (33, .d (.int .i64 ((a2).length : Int))), (34, .d (.int .i64 s5.1))], box := [(28, [.d (.int .i64 s5.2.1), .d (.slice (rowsF api_Consumer_row s5.2.2.1)), .d (.int .i64 s5.2.2.2.1), .d (.int .i64 s5.2.2.2.2.1), .d (.slice (rowsF api_Unit_row s5.2.2.2.2.2.1)), .d (.slice (rowsF (iRow .i64) s5.2.2.2.2.2.2.1)), .vec 401126, .vec 401127])], vec := [(401126, ⟨93, 4, rowsF api_Attempt_row s5.2.2.2.2.2.2.2.1⟩), (401127, ⟨33, 3, rowsF api_Rotation_row s5.2.2.2.2.2.2.2.2⟩)] } : St)) hI1 (wk (by simp [weak_iff])) fun G1 s5 o1 h1 hg1 he1 => ?_)
      unfold runner_run_l0 at h1
      refine kr [11, 32, 33, 34, 35] (by simp; rfl) ?_
      refine tr_seq ?_
      refine tr_cond (b := (decide (s5.1 < ((a2).length : Int)))) (by simp) (fun c6 => ?_) (fun c6 => ?_)
      · rw [if_pos c6] at h1
        refine tr_skip ?_
        refine tr_seq ?_
        refine tr_block ?_
        replace h1 := bnd h1; obtain ⟨x6, p3, h1⟩ := h1
        replace p3 := idx_some p3
        have p3' := p3; try simp at p3'
        refine kr [11, 13, 32, 33, 34] (by simp [p3, p3']; rfl) ?_
        refine kc ?_
        refine ko [11, 32, 33, 34, 38, 39] 2 (by simp; rfl) ?_
        replace h1 := bnd h1; obtain ⟨y7, hy7, h1⟩ := h1
        refine kcallV [11, 32, 33, 34, 40] [28] [401126, 401127] [401126, 401127] (runner_runner_step_o0_6_7_ok hy7) rfl rfl rfl Try.call54 (by simp) (by simp; rfl) ?_
        refine ko [11, 14, 32, 33, 34] 1 (by simp; rfl) ?_
        refine tops_nil ?_
        refine kr [11, 14, 32, 33, 34, 42] (by simp; rfl) ?_
        refine tr_cond (b := (y7.1 != 0)) (by simp) (fun c7 => ?_) (fun c7 => ?_)
        · rw [if_pos c7] at h1
          refine kr [8, 9] (by simp; rfl) ?_
          refine tr_wk (wk_frz 401126) ?_
          refine tr_wk (wk_frz 401127) ?_
          refine tr_frzB 28 [.d (.int .i64 y7.2.fleet.Slots), .d (.slice (rowsF api_Consumer_row y7.2.fleet.Consumers)), .d (.int .i64 y7.2.state.Known), .d (.int .i64 y7.2.state.Valid), .d (.slice (rowsF api_Unit_row y7.2.state.Units)), .d (.slice (rowsF (iRow .i64) y7.2.outcomes)), .d (.slice (rowsF api_Attempt_row y7.2.tried)), .d (.slice (rowsF api_Rotation_row y7.2.states))] [.int .i64 y7.2.fleet.Slots, .slice (rowsF api_Consumer_row y7.2.fleet.Consumers), .int .i64 y7.2.state.Known, .int .i64 y7.2.state.Valid, .slice (rowsF api_Unit_row y7.2.state.Units), .slice (rowsF (iRow .i64) y7.2.outcomes), .slice (rowsF api_Attempt_row y7.2.tried), .slice (rowsF api_Rotation_row y7.2.states)] (by simp) (by simp) hK (by decide) (fun i hi => absurd hi (Nat.not_lt_zero i)) ?_
          have k1 := he1 _ (Option.some.inj h1)
          subst k1
          dsimp only at h0
          cases h0
          exact tr_ret ⟨[], by simp, rfl, by simp⟩
        · rw [if_neg (by rw [c7]; decide)] at h1
          refine tr_skip ?_
          refine lr (by simp; rfl) ?_
          exact ⟨_, hg1 _ (Option.some.inj h1), wk (by simp [weak_iff])⟩
      · rw [if_neg (by rw [c6]; decide)] at h1
        refine tr_exit ?_
        exact ⟨_, he1 _ (Option.some.inj h1), wk (by simp [weak_iff])⟩
set_option maxHeartbeats 1000000 in
theorem runner_Run_ok {a0 : api_Fleet} {a1 : api_Rotation} {a2 : List api_Step} {a3 : List Int} {r : api_Rotation × (List api_Attempt) × Int} (h0 : runner_Run a0 a1 a2 a3 = some r) : FnOK Try.prog 12 [] [.agg (api_Fleet_av a0), .agg (api_Rotation_av a1), .d (.slice (rowsF api_Step_row a2)), .d (.slice (rowsF (iRow .i64) a3))] (.tup [.agg (api_Rotation_av r.1), .d (.slice (rowsF api_Attempt_row r.2.1)), .d (.int .i64 r.2.2)]) [] := by
  unfold runner_Run at h0
  refine fn_ok (nt := 34) (rs := [.cell 8 33, .tmp 9, .tmp 10]) Try.func12 rfl Try.ntmps12 rfl (by simp) (by decide) rfl fun K => ?_
  refine kr [2, 3, 4, 5, 8] (by simp; rfl) ?_
  refine kc ?_
  refine ko [8, 14, 15, 16, 17] 4 (by simp; rfl) ?_
  replace h0 := bnd h0; obtain ⟨y1, hy1, h0⟩ := h0
  refine kcall [8, 18] [] (runner_run_ok hy1) rfl rfl rfl Try.call29 (by simp) (by simp; rfl) ?_
  rcases c1 : y1.1 with _ | x2
  · rw [c1] at h0; dsimp only at h0; try rw [c1]
    refine ko [8, 11, 12] 5 (by simp; rfl) ?_
    refine tops_nil ?_
    refine tr_seq ?_
    refine kr [8, 11, 12, 22] (by simp; rfl) ?_
    refine tr_cond (b := true) (by simp) (fun _ => ?_) (fun h => by cases h)
    refine kr [8, 9, 10] (by simp; rfl) ?_
    cases h0
    exact tr_ret ⟨[], by simp, rfl, by simp⟩
  · rw [c1] at h0; dsimp only at h0; try rw [c1]
    refine ko [8, 11, 12] 5 (by simp; rfl) ?_
    refine tops_nil ?_
    refine tr_seq ?_
    refine kr [8, 11, 12, 22] (by simp; rfl) ?_
    refine tr_cond (b := false) (by simp) (fun h => by cases h) (fun _ => ?_)
    refine tr_skip ?_
    refine kd [[], [0], [1], [2], [], [4], [5], [6], [], [3], [7], [8]] [9] [(8, [9])] none [] 12 fol (by decide +kernel) (by simp) ?_
    refine dr_go 0 2 rfl (by simp (maxSteps := 1000000); rfl) ?_
    refine dr_go 2 2 rfl (by simp (maxSteps := 1000000); rfl) ?_
    refine dr_go 4 2 rfl (by simp (maxSteps := 1000000); rfl) ?_
    refine dr_go 6 2 rfl (by simp (maxSteps := 1000000); rfl) ?_
    refine dr_go 8 2 rfl (by simp (maxSteps := 1000000); rfl) ?_
    refine dr_go 10 2 rfl (by simp (maxSteps := 1000000); rfl) ?_
    refine dr_end rfl (tops_nil ?_)
    cases h0
    exact tr_ret ⟨[], by simp, rfl, by simp⟩
set_option maxHeartbeats 1000000 in
theorem runner_States_ok {a0 : api_Fleet} {a1 : api_Rotation} {a2 : List api_Step} {a3 : List Int} {r : (List api_Rotation) × Int} (h0 : runner_States a0 a1 a2 a3 = some r) : FnOK Try.prog 13 [] [.agg (api_Fleet_av a0), .agg (api_Rotation_av a1), .d (.slice (rowsF api_Step_row a2)), .d (.slice (rowsF (iRow .i64) a3))] (.tup [.d (.slice (rowsF api_Rotation_row r.1)), .d (.int .i64 r.2)]) [] := by
  unfold runner_States at h0
  refine fn_ok (nt := 28) (rs := [.tmp 8, .tmp 9]) Try.func13 rfl Try.ntmps13 rfl (by simp) (by decide) rfl fun K => ?_
  refine kr [2, 3, 4, 5] (by simp; rfl) ?_
  refine kc ?_
  refine ko [13, 14, 15, 16] 4 (by simp; rfl) ?_
  replace h0 := bnd h0; obtain ⟨y1, hy1, h0⟩ := h0
  refine kcall [17] [] (runner_run_ok hy1) rfl rfl rfl Try.call29 (by simp) (by simp; rfl) ?_
  rcases c1 : y1.1 with _ | x2
  · rw [c1] at h0; dsimp only at h0; try rw [c1]
    refine ko [10, 11] 5 (by simp; rfl) ?_
    refine tops_nil ?_
    refine tr_seq ?_
    refine kr [10, 11, 21] (by simp; rfl) ?_
    refine tr_cond (b := true) (by simp) (fun _ => ?_) (fun h => by cases h)
    refine kr [8, 9] (by simp; rfl) ?_
    cases h0
    exact tr_ret ⟨[], by simp, rfl, by simp⟩
  · rw [c1] at h0; dsimp only at h0; try rw [c1]
    refine ko [10, 11] 5 (by simp; rfl) ?_
    refine tops_nil ?_
    refine tr_seq ?_
    refine kr [10, 11, 21] (by simp; rfl) ?_
    refine tr_cond (b := false) (by simp) (fun h => by cases h) (fun _ => ?_)
    refine tr_skip ?_
    refine kr [8, 9] (by simp; rfl) ?_
    cases h0
    exact tr_ret ⟨[], by simp, rfl, by simp⟩
set_option maxHeartbeats 1000000 in
theorem fallback_Forward_ok {a0 : api_Fleet} {a1 : api_Rotation} {a2 : api_Rotation} {r : Bool} (h0 : fallback_Forward a0 a1 a2 = some r) : FnOK Try.prog 16 [] [.agg (api_Fleet_av a0), .agg (api_Rotation_av a1), .agg (api_Rotation_av a2)] (.d (.bool r)) [] := by
  unfold fallback_Forward at h0
  refine fn_ok (nt := 51) (rs := [.tmp 6]) Try.func16 rfl Try.ntmps16 rfl (by simp) (by decide) rfl fun K => ?_
  refine kr [3, 4, 5] (by simp; rfl) ?_
  refine tr_seq ?_
  replace h0 := bnd h0; obtain ⟨v1, hvv1, h0⟩ := h0
  refine sjv (fun v1_ : Bool => ({ nt := 51, env := [(4, .ptr 4 0), (5, .ptr 5 0), (26, .d (.bool v1_))], box := [(4, [.d (.int .i64 a1.Known), .d (.int .i64 a1.Valid), .d (.slice (rowsF api_Unit_row a1.Units))]), (5, [.d (.int .i64 a2.Known), .d (.int .i64 a2.Valid), .d (.slice (rowsF api_Unit_row a2.Units))])], vec := [] } : St)) (fun v1_ => v1 = v1_) (fun v1_ e => ?_) ?_
  · subst e
    refine tr_cond (b := v1) (by simp) (fun c5 => ?_) (fun c5 => ?_)
    · rw [if_pos c5] at h0
      refine kr [6] (by simp; rfl) ?_
      cases h0
      exact tr_ret ⟨[], by simp, rfl, by simp⟩
    · rw [if_neg (by rw [c5]; decide)] at h0
      refine tr_skip ?_
      replace h0 := bnd h0; obtain ⟨v2, hvv2, h0⟩ := h0
      refine sjv (fun v2_ : Bool => ({ nt := 51, env := [(4, .ptr 4 0), (5, .ptr 5 0), (7, .d (.bool v2_))], box := [(4, [.d (.int .i64 a1.Known), .d (.int .i64 a1.Valid), .d (.slice (rowsF api_Unit_row a1.Units))]), (5, [.d (.int .i64 a2.Known), .d (.int .i64 a2.Valid), .d (.slice (rowsF api_Unit_row a2.Units))])], vec := [] } : St)) (fun v2_ => v2 = v2_) (fun v2_ e => ?_) ?_
      · subst e
        replace h0 := bnd h0; obtain ⟨v3, hvv3, h0⟩ := h0
        refine sjv (fun v3_ : Bool => ({ nt := 51, env := [(7, .d (.bool v2)), (8, .d (.bool v3_))], box := [], vec := [] } : St)) (fun v3_ => v3 = v3_) (fun v3_ e => ?_) ?_
        · subst e
          replace h0 := bnd h0; obtain ⟨v4, hvv4, h0⟩ := h0
          refine sjv (fun v4_ : Bool => ({ nt := 51, env := [(6, .d (.bool v4_))], box := [], vec := [] } : St)) (fun v4_ => v4 = v4_) (fun v4_ e => ?_) ?_
          · subst e
            cases h0
            exact tr_ret ⟨[], by simp, rfl, by simp⟩
          · refine kc1 ?_
            refine ko [8, 48] 2 (by simp; rfl) ?_
            refine tops_split 48 v2 (by simp) (fun c12 => ?_) (fun c12 => ?_)
            · rw [c12] at hvv4
              refine ko [6] 3 (by simp; rfl) ?_
              refine tops_nil ?_
              cases hvv4
              exact ⟨_, rfl, wk (by simp [weak_iff])⟩
            · rw [c12] at hvv4
              refine ko [6] 3 (by simp; rfl) ?_
              refine tops_nil ?_
              cases hvv4
              exact ⟨_, rfl, wk (by simp [weak_iff])⟩
        · refine kc1 ?_
          refine ko [5, 7, 41] 5 (by simp; rfl) ?_
          refine tops_split 41 ((bAnd .i64 a1.Valid 1) != 0) (by simp) (fun c13 => ?_) (fun c13 => ?_)
          · rw [c13] at hvv3
            refine kskip 4 [] (by kernel_rfl) ?_
            refine ko [7, 8] 2 (by simp; rfl) ?_
            refine tops_nil ?_
            cases hvv3
            exact ⟨_, rfl, wk (by simp [weak_iff])⟩
          · rw [c13] at hvv3
            refine ko [7, 8] 6 (by simp; rfl) ?_
            refine tops_nil ?_
            cases hvv3
            exact ⟨_, rfl, wk (by simp [weak_iff])⟩
      · refine kc1 ?_
        refine ko [4, 5, 31] 5 (by simp; rfl) ?_
        refine tops_split 31 ((bAnd .i64 a1.Valid 2) == 0) (by simp) (fun c14 => ?_) (fun c14 => ?_)
        · rw [c14] at hvv2
          refine kskip 4 [] (by kernel_rfl) ?_
          refine ko [4, 5, 7] 2 (by simp; rfl) ?_
          refine tops_nil ?_
          cases hvv2
          exact ⟨_, rfl, wk (by simp [weak_iff])⟩
        · rw [c14] at hvv2
          refine ko [4, 5, 7] 6 (by simp; rfl) ?_
          refine tops_nil ?_
          cases hvv2
          exact ⟨_, rfl, wk (by simp [weak_iff])⟩
  · refine kc1 ?_
    refine ko [3, 4, 5, 9, 10] 2 (by simp; rfl) ?_
    replace hvv1 := bnd hvv1; obtain ⟨y5, hy5, hvv1⟩ := hvv1
    refine kcall [3, 4, 5, 11] [] (fleet_Right_ok hy5) rfl rfl rfl Try.call30 (by simp) (by simp; rfl) ?_
    refine ko [3, 4, 5, 13] 2 (by simp; rfl) ?_
    refine tops_split 13 (!y5) (by simp) (fun c15 => ?_) (fun c15 => ?_)
    · rw [if_pos c15] at hvv1
      refine kskip 4 [] (by kernel_rfl) ?_
      refine ko [4, 5, 19] 2 (by simp; rfl) ?_
      refine kskip 6 [] (by kernel_rfl) ?_
      refine ko [4, 5, 26] 1 (by simp; rfl) ?_
      refine tops_nil ?_
      cases hvv1
      exact ⟨_, rfl, wk (by simp [weak_iff])⟩
    · rw [if_neg (by rw [c15]; decide)] at hvv1
      refine ko [4, 5, 13, 14, 15] 2 (by simp; rfl) ?_
      replace hvv1 := bnd hvv1; obtain ⟨y6, hy6, hvv1⟩ := hvv1
      refine kcall [4, 5, 13, 16] [] (fleet_Right_ok hy6) rfl rfl rfl Try.call30 (by simp) (by simp; rfl) ?_
      refine ko [4, 5, 19] 3 (by simp; rfl) ?_
      refine tops_split 19 (!y6) (by simp) (fun c16 => ?_) (fun c16 => ?_)
      · rw [if_pos c16] at hvv1
        refine kskip 6 [] (by kernel_rfl) ?_
        refine ko [4, 5, 26] 1 (by simp; rfl) ?_
        refine tops_nil ?_
        cases hvv1
        exact ⟨_, rfl, wk (by simp [weak_iff])⟩
      · rw [if_neg (by rw [c16]; decide)] at hvv1
        refine ko [4, 5, 26] 7 (by simp; rfl) ?_
        refine tops_nil ?_
        cases hvv1
        exact ⟨_, rfl, wk (by simp [weak_iff])⟩
set_option maxHeartbeats 1000000 in
theorem slices_Clone_api_Step_ok {a0 : List api_Step} {r : List api_Step} (h0 : slices_Clone_api_Step a0 = some r) : FnOK Try.prog 39 [] [.d (.slice (rowsF api_Step_row a0))] (.d (.slice (rowsF api_Step_row r))) [] := by
  unfold slices_Clone_api_Step at h0
  replace h0 := bnd h0; obtain ⟨_, p1, h0⟩ := h0; replace p1 := ck_some p1; cases h0
  refine fn_ok (nt := 8) (rs := [.tmp 2]) Try.func39 rfl Try.ntmps39 rfl (by simp) (by decide) rfl fun K => ?_
  refine kr [0, 2] (by simp; rfl) ?_
  cases a0 with
  | nil =>
    refine tr_seq ?_
    refine kc ?_
    refine ko [0, 3] 1 (by simp; rfl) ?_
    refine tops_isnil (by simp) rfl rfl (by simp) Try.underlying37 (by simp) (by simp) fun b => ?_
    refine tops_nil ?_
    refine tr_cond (b := b) (by simp) (fun cb => ?_) (fun cb => ?_)
    · refine kr [2] (by simp; rfl) ?_
      exact tr_ret ⟨[], by simp, rfl, by simp⟩
    · refine tr_skip ?_
      refine kr [2] (by simp; rfl) ?_
      exact tr_ret ⟨[7], by simp, rfl, by simp⟩
  | cons x l =>
    refine tr_seq ?_
    refine kr [0, 4] (by simp; rfl) ?_
    refine tr_cond (b := false) (by simp) (fun h => by cases h) (fun _ => ?_)
    refine tr_skip ?_
    have p2 := p1; simp at p2
    refine kr [2] (by simp [p1, p2]; rfl) ?_
    exact tr_ret ⟨[7], by simp, rfl, by simp⟩
set_option maxHeartbeats 1000000 in
theorem runner_Left_ok {a0 : List api_Step} {a1 : List api_Attempt} {r : (List api_Step) × Int} (h0 : runner_Left a0 a1 = some r) : FnOK Try.prog 19 [] [.d (.slice (rowsF api_Step_row a0)), .d (.slice (rowsF api_Attempt_row a1))] (.tup [.d (.slice (rowsF api_Step_row r.1)), .d (.int .i64 r.2)]) [] := by
  unfold runner_Left at h0
  refine fn_ok (nt := 58) (rs := [.tmp 4, .tmp 5]) Try.func19 rfl Try.ntmps19 rfl (by simp) (by decide) rfl fun K => ?_
  refine kr [0, 1] (by simp; rfl) ?_
  refine tr_seq ?_
  refine kr [0, 1, 11, 12, 13] (by simp; rfl) ?_
  replace h0 := bnd h0; obtain ⟨e1, hI1, h0⟩ := h0
  refine tjv (fun v1 : Unit => ({ nt := 58, env := [(0, .d (.slice (rowsF api_Step_row a0))), (1, .d (.slice (rowsF api_Attempt_row a1)))], box := [], vec := [] } : St)) (fun v1 => .inl v1 = e1) (fun v1 hI1e _ W1 => ?_) ?_
  · subst hI1e
    dsimp only at h0
    refine tr_wk W1 ?_
    refine kr [0, 1, 8] (by simp; rfl) ?_
    refine tr_seq ?_
    refine kr [0, 8, 30, 31, 32] (by simp; rfl) ?_
    replace h0 := bnd h0; obtain ⟨e2, hI2, h0⟩ := h0
    refine tjv (fun v2 : Int => ({ nt := 58, env := [(0, .d (.slice (rowsF api_Step_row a0))), (8, .d (.int .i64 v2))], box := [], vec := [] } : St)) (fun v2 => .inl v2 = e2) (fun v2 hI2e _ W2 => ?_) ?_
    · subst hI2e
      dsimp only at h0
      refine tr_wk W2 ?_
      refine kc ?_
      replace h0 := bnd h0; obtain ⟨_, p11, h0⟩ := h0
      replace p11 := ck_some p11
      have p11' := p11; try simp at p11'
      refine ko [56] 3 (by simp [p11, p11']; rfl) ?_
      replace h0 := bnd h0; obtain ⟨y3, hy3, h0⟩ := h0
      refine kcall [57] [] (slices_Clone_api_Step_ok hy3) rfl rfl rfl Try.call39 (by simp) (by simp; rfl) ?_
      refine ko [4, 5] 2 (by simp; rfl) ?_
      refine tops_nil ?_
      cases h0
      exact tr_ret ⟨[], by simp, rfl, by simp⟩
    · refine tr_block (tr_iter (fun s4 : Int × Int => ({ nt := 58, env := [(0, .d (.slice (rowsF api_Step_row a0))), (8, .d (.int .i64 s4.1)), (30, .d (.slice (rowsF api_Attempt_row a1))), (31, .d (.int .i64 ((a1).length : Int))), (32, .d (.int .i64 s4.2))], box := [], vec := [] } : St)) hI2 (wk (by simp [weak_iff])) fun G2 s4 o2 h2 hg2 he2 => ?_)
      unfold runner_Left_l1 at h2
      refine kr [0, 8, 30, 31, 32, 33] (by simp; rfl) ?_
      refine tr_seq ?_
      refine tr_cond (b := (decide (s4.2 < ((a1).length : Int)))) (by simp) (fun c23 => ?_) (fun c23 => ?_)
      · rw [if_pos c23] at h2
        refine tr_skip ?_
        refine tr_seq ?_
        refine tr_block ?_
        replace h2 := bnd h2; obtain ⟨x5, p12, h2⟩ := h2
        replace p12 := idx_some p12
        have p12' := p12; try simp at p12'
        refine kr [0, 8, 10, 30, 31, 32] (by simp [p12, p12']; rfl) ?_
        refine tr_seq ?_
        replace h2 := bnd h2; obtain ⟨v6, hvv6, h2⟩ := h2
        refine sjv (fun v6_ : Bool => ({ nt := 58, env := [(0, .d (.slice (rowsF api_Step_row a0))), (8, .d (.int .i64 s4.1)), (10, .ptr 10 0), (30, .d (.slice (rowsF api_Attempt_row a1))), (31, .d (.int .i64 ((a1).length : Int))), (32, .d (.int .i64 s4.2)), (48, .d (.bool v6_))], box := [(10, [.d (.int .i64 x5.Step.Kind), .d (.int .i64 x5.Step.Unit), .d (.int .i64 x5.Outcome), .d (.bool x5.There)])], vec := [] } : St)) (fun v6_ => v6 = v6_) (fun v6_ e => ?_) ?_
        · subst e
          refine tr_cond (b := v6) (by simp) (fun c30 => ?_) (fun c30 => ?_)
          · rw [if_pos c30] at h2
            refine kr [4, 5] (by simp; rfl) ?_
            have k1 := he2 _ (Option.some.inj h2)
            subst k1
            dsimp only at h0
            cases h0
            exact tr_ret ⟨[], by simp, rfl, by simp⟩
          · rw [if_neg (by rw [c30]; decide)] at h2
            refine tr_skip ?_
            refine kr [0, 8, 30, 31, 32, 50] (by simp; rfl) ?_
            refine tr_cond (b := x5.There) (by simp) (fun c31 => ?_) (fun c31 => ?_)
            · rw [if_pos c31] at h2
              refine lr (by simp; rfl) ?_
              refine lr (by simp; rfl) ?_
              exact ⟨_, hg2 _ (Option.some.inj h2), wk (by simp [weak_iff])⟩
            · rw [if_neg (by rw [c31]; decide)] at h2
              refine tr_skip ?_
              refine lr (by simp; rfl) ?_
              exact ⟨_, hg2 _ (Option.some.inj h2), wk (by simp [weak_iff])⟩
        · refine kd1 [[], [], [1], [0, 2], [2, 3], [2, 4], [2, 4, 5], [2, 4], [2, 4], [2, 4, 7, 8], [2, 4, 9], [2, 4, 6, 10], [2, 4, 11]] [] [] none [] 13 fol (by decide +kernel) (by simp) ?_
          refine dr_go 0 2 rfl (by simp (maxSteps := 1000000); rfl) ?_
          refine dr_go 2 2 rfl (by simp (maxSteps := 1000000); rfl) ?_
          refine dr_go 4 1 rfl (by simp (maxSteps := 1000000); rfl) ?_
          refine dr_split 4 40 (decide (((a0).length : Int) ≤ s4.1)) (by simp) (fun c34 => ?_) (fun c34 => ?_)
          · rw [if_pos c34] at hvv6
            refine dr_skip 5 58 [some 41, some 42, some 43, some 44, some 45, some 46, some 47] rfl rfl (by decide) (by kernel_rfl) (by simp only [skEf, List.map_cons, List.map_nil, List.cons_append, List.nil_append]; rfl) ?_
            refine dr_go 12 1 rfl (by simp (maxSteps := 1000000); rfl) ?_
            refine dr_end rfl (tops_nil ?_)
            cases hvv6
            exact ⟨_, rfl, wk (by simp [weak_iff])⟩
          · rw [if_neg (by rw [c34]; decide)] at hvv6
            replace hvv6 := bnd hvv6; obtain ⟨x7, p21, hvv6⟩ := hvv6
            replace p21 := idx_some p21
            have p21' := p21; try simp at p21'
            refine dr_go 5 2 rfl (by simp (maxSteps := 1000000) [p21, p21']; rfl) ?_
            refine dr_go 7 2 rfl (by simp (maxSteps := 1000000) [p21, p21']; rfl) ?_
            refine dr_go 9 2 rfl (by simp (maxSteps := 1000000) [p21, p21']; rfl) ?_
            refine dr_go 11 2 rfl (by simp (maxSteps := 1000000) [p21, p21']; rfl) ?_
            refine dr_end rfl (tops_nil ?_)
            cases hvv6
            exact ⟨_, rfl, wk (by simp [weak_iff])⟩
      · rw [if_neg (by rw [c23]; decide)] at h2
        refine tr_exit ?_
        exact ⟨_, he2 _ (Option.some.inj h2), wk (by simp [weak_iff])⟩
  · refine tr_block (tr_iter (fun s10 : Int => ({ nt := 58, env := [(0, .d (.slice (rowsF api_Step_row a0))), (1, .d (.slice (rowsF api_Attempt_row a1))), (11, .d (.slice (rowsF api_Attempt_row a1))), (12, .d (.int .i64 ((a1).length : Int))), (13, .d (.int .i64 s10))], box := [], vec := [] } : St)) hI1 (wk (by simp [weak_iff])) fun G2 s10 o2 h2 hg2 he2 => ?_)
    unfold runner_Left_l0 at h2
    refine kr [0, 1, 11, 12, 13, 14] (by simp; rfl) ?_
    refine tr_seq ?_
    refine tr_cond (b := (decide (s10 < ((a1).length : Int)))) (by simp) (fun c35 => ?_) (fun c35 => ?_)
    · rw [if_pos c35] at h2
      refine tr_skip ?_
      refine tr_seq ?_
      refine tr_block ?_
      replace h2 := bnd h2; obtain ⟨x11, p22, h2⟩ := h2
      replace p22 := idx_some p22
      have p22' := p22; try simp at p22'
      refine kr [0, 1, 7, 11, 12, 13] (by simp [p22, p22']; rfl) ?_
      replace h2 := bnd h2; obtain ⟨v12, hvv12, h2⟩ := h2
      refine sjv (fun v12_ : Bool => ({ nt := 58, env := [(0, .d (.slice (rowsF api_Step_row a0))), (1, .d (.slice (rowsF api_Attempt_row a1))), (11, .d (.slice (rowsF api_Attempt_row a1))), (12, .d (.int .i64 ((a1).length : Int))), (13, .d (.int .i64 s10)), (28, .d (.bool v12_))], box := [], vec := [] } : St)) (fun v12_ => v12 = v12_) (fun v12_ e => ?_) ?_
      · subst e
        refine tr_cond (b := v12) (by simp) (fun c42 => ?_) (fun c42 => ?_)
        · rw [if_pos c42] at h2
          refine kr [4, 5] (by simp; rfl) ?_
          have k1 := he2 _ (Option.some.inj h2)
          subst k1
          dsimp only at h0
          cases h0
          exact tr_ret ⟨[], by simp, rfl, by simp⟩
        · rw [if_neg (by rw [c42]; decide)] at h2
          refine tr_skip ?_
          refine lr (by simp; rfl) ?_
          exact ⟨_, hg2 _ (Option.some.inj h2), wk (by simp [weak_iff])⟩
      · refine kd1 [[], [0], [1], [2], [3], [4], [4, 5], [4], [4, 7], [4, 8], [4, 6, 9], [4, 10]] [] [] none [] 12 fol (by decide +kernel) (by simp) ?_
        refine dr_go 0 2 rfl (by simp (maxSteps := 1000000); rfl) ?_
        replace hvv12 := bnd hvv12; obtain ⟨y13, hy13, hvv12⟩ := hvv12
        refine dr_call 2 [] (runner_outcome_ok hy13) rfl rfl rfl rfl rfl Try.call37 (by simp) ?_
        refine dr_go 3 2 rfl (by simp (maxSteps := 1000000); rfl) ?_
        refine dr_split 4 21 (!y13) (by simp) (fun c45 => ?_) (fun c45 => ?_)
        · rw [if_pos c45] at hvv12
          refine dr_skip 5 58 [some 22, some 23, some 24, some 25, some 26, some 27] rfl rfl (by decide) (by kernel_rfl) (by simp only [skEf, List.map_cons, List.map_nil, List.cons_append, List.nil_append]; rfl) ?_
          refine dr_go 11 1 rfl (by simp (maxSteps := 1000000); rfl) ?_
          refine dr_end rfl (tops_nil ?_)
          cases hvv12
          exact ⟨_, rfl, wk (by simp [weak_iff])⟩
        · rw [if_neg (by rw [c45]; decide)] at hvv12
          refine dr_go 5 2 rfl (by simp (maxSteps := 1000000); rfl) ?_
          refine dr_go 7 2 rfl (by simp (maxSteps := 1000000); rfl) ?_
          replace hvv12 := bnd hvv12; obtain ⟨y14, hy14, hvv12⟩ := hvv12
          refine dr_call 9 [] (runner_there_ok hy14) rfl rfl rfl rfl rfl Try.call38 (by simp) ?_
          refine dr_go 10 2 rfl (by simp (maxSteps := 1000000); rfl) ?_
          refine dr_end rfl (tops_nil ?_)
          cases hvv12
          exact ⟨_, rfl, wk (by simp [weak_iff])⟩
    · rw [if_neg (by rw [c35]; decide)] at h2
      refine tr_exit ?_
      exact ⟨_, he2 _ (Option.some.inj h2), wk (by simp [weak_iff])⟩
set_option maxHeartbeats 1000000 in
theorem fallback_Hold_ok {a0 : api_Fleet} {a1 : api_Rotation} {r : Bool} (h0 : fallback_Hold a0 a1 = some r) : FnOK Try.prog 40 [] [.agg (api_Fleet_av a0), .agg (api_Rotation_av a1)] (.d (.bool r)) [] := by
  unfold fallback_Hold at h0
  refine fn_ok (nt := 18) (rs := [.tmp 4]) Try.func40 rfl Try.ntmps40 rfl (by simp) (by decide) rfl fun K => ?_
  refine kr [2, 3] (by simp; rfl) ?_
  replace h0 := bnd h0; obtain ⟨v1, hvv1, h0⟩ := h0
  refine sjv (fun v1_ : Bool => ({ nt := 18, env := [(4, .d (.bool v1_))], box := [], vec := [] } : St)) (fun v1_ => v1 = v1_) (fun v1_ e => ?_) ?_
  · subst e
    cases h0
    exact tr_ret ⟨[], by simp, rfl, by simp⟩
  · refine kd1 [[], [], [0, 1], [2], [3], [3], [3, 4, 5], [3, 6], [3], [3, 8], [3, 9], [3, 7, 10], [3, 7, 10, 11], [7, 10, 12]] [] [] none [] 14 fol (by decide +kernel) (by simp) ?_
    refine dr_go 0 2 rfl (by simp (maxSteps := 1000000); rfl) ?_
    replace hvv1 := bnd hvv1; obtain ⟨y2, hy2, hvv1⟩ := hvv1
    refine dr_call 2 [] (fleet_Right_ok hy2) rfl rfl rfl rfl rfl Try.call30 (by simp) ?_
    refine dr_go 3 1 rfl (by simp (maxSteps := 1000000); rfl) ?_
    refine dr_split 3 8 y2 (by simp) (fun c9 => ?_) (fun c9 => ?_)
    · rw [if_pos c9] at hvv1
      refine dr_go 4 2 rfl (by simp (maxSteps := 1000000); rfl) ?_
      replace hvv1 := bnd hvv1; obtain ⟨y3, hy3, hvv1⟩ := hvv1
      refine dr_call 6 [] (fleet_Served_ok hy3) rfl rfl rfl rfl rfl Try.call14 (by simp) ?_
      refine dr_go 7 2 rfl (by simp (maxSteps := 1000000); rfl) ?_
      replace hvv1 := bnd hvv1; obtain ⟨y4, hy4, hvv1⟩ := hvv1
      refine dr_call 9 [] (fleet_Pools_ok hy4) rfl rfl rfl rfl rfl Try.call15 (by simp) ?_
      refine dr_go 10 2 rfl (by simp (maxSteps := 1000000); rfl) ?_
      refine dr_go 12 2 rfl (by simp (maxSteps := 1000000); rfl) ?_
      refine dr_end rfl (tops_nil ?_)
      cases hvv1
      exact ⟨_, rfl, wk (by simp [weak_iff])⟩
    · rw [if_neg (by rw [c9]; decide)] at hvv1
      refine dr_skip 4 18 [some 9, some 10, some 11, some 12, some 13, some 14, some 15, some 16] rfl rfl (by decide) (by kernel_rfl) (by simp only [skEf, List.map_cons, List.map_nil, List.cons_append, List.nil_append]; rfl) ?_
      refine dr_go 12 2 rfl (by simp (maxSteps := 1000000); rfl) ?_
      refine dr_end rfl (tops_nil ?_)
      cases hvv1
      exact ⟨_, rfl, wk (by simp [weak_iff])⟩
set_option maxHeartbeats 1000000 in
theorem fallback_Make_ok {a0 : api_Fleet} {a1 : api_Rotation} {r : (List api_Step) × Int} (h0 : fallback_Make a0 a1 = some r) : FnOK Try.prog 20 [] [.agg (api_Fleet_av a0), .agg (api_Rotation_av a1)] (.tup [.d (.slice (rowsF api_Step_row r.1)), .d (.int .i64 r.2)]) [] := by
  unfold fallback_Make at h0
  refine fn_ok (nt := 27) (rs := [.tmp 4, .tmp 5]) Try.func20 rfl Try.ntmps20 rfl (by simp) (by decide) rfl fun K => ?_
  refine kr [2, 3] (by simp; rfl) ?_
  refine tr_seq ?_
  refine kc ?_
  refine ko [2, 3, 8, 9] 2 (by simp; rfl) ?_
  replace h0 := bnd h0; obtain ⟨y1, hy1, h0⟩ := h0
  refine kcall [2, 3, 10] [] (fleet_Right_ok hy1) rfl rfl rfl Try.call30 (by simp) (by simp; rfl) ?_
  refine ko [2, 3, 11] 1 (by simp; rfl) ?_
  refine tops_nil ?_
  refine tr_cond (b := (!y1)) (by simp) (fun c1 => ?_) (fun c1 => ?_)
  · rw [if_pos c1] at h0
    refine kr [4, 5] (by simp; rfl) ?_
    cases h0
    exact tr_ret ⟨[], by simp, rfl, by simp⟩
  · rw [if_neg (by rw [c1]; decide)] at h0
    refine tr_skip ?_
    refine tr_seq ?_
    refine kc ?_
    refine ko [2, 3, 13] 1 (by simp; rfl) ?_
    replace h0 := bnd h0; obtain ⟨y2, hy2, h0⟩ := h0
    refine kcall [2, 3, 14] [] (plan_Why_ok hy2) rfl rfl rfl Try.call8 (by simp) (by simp; rfl) ?_
    refine ko [2, 3, 7] 6 (by simp; rfl) ?_
    refine tops_nil ?_
    replace h0 := bnd h0; obtain ⟨v3, hvv3, h0⟩ := h0
    refine sjv (fun v3_ : Bool => ({ nt := 27, env := [(2, .ptr 2 0), (3, .ptr 3 0), (23, .d (.bool v3_))], box := [(2, [.d (.int .i64 a0.Slots), .d (.slice (rowsF api_Consumer_row a0.Consumers))]), (3, [.d (.int .i64 a1.Known), .d (.int .i64 a1.Valid), .d (.slice (rowsF api_Unit_row a1.Units))])], vec := [] } : St)) (fun v3_ => v3 = v3_) (fun v3_ e => ?_) ?_
    · subst e
      refine tr_cond (b := v3) (by simp) (fun c4 => ?_) (fun c4 => ?_)
      · rw [if_pos c4] at h0
        refine kr [4, 5] (by simp; rfl) ?_
        cases h0
        exact tr_ret ⟨[], by simp, rfl, by simp⟩
      · rw [if_neg (by rw [c4]; decide)] at h0
        refine tr_skip ?_
        refine kc ?_
        refine ko [24, 25] 2 (by simp; rfl) ?_
        replace h0 := bnd h0; obtain ⟨y4, hy4, h0⟩ := h0
        refine kcall [26] [] (plan_From_ok hy4) rfl rfl rfl Try.call25 (by simp) (by simp; rfl) ?_
        refine ko [4, 5] 2 (by simp; rfl) ?_
        refine tops_nil ?_
        cases h0
        exact tr_ret ⟨[], by simp, rfl, by simp⟩
    · refine kc1 ?_
      refine ko [2, 3, 18] 2 (by simp; rfl) ?_
      refine tops_split 18 y2.2 (by simp) (fun c5 => ?_) (fun c5 => ?_)
      · rw [if_pos c5] at hvv3
        refine kskip 4 [] (by kernel_rfl) ?_
        refine ko [2, 3, 23] 1 (by simp; rfl) ?_
        refine tops_nil ?_
        cases hvv3
        exact ⟨_, rfl, wk (by simp [weak_iff])⟩
      · rw [if_neg (by rw [c5]; decide)] at hvv3
        refine ko [2, 3, 18, 19, 20] 2 (by simp; rfl) ?_
        replace hvv3 := bnd hvv3; obtain ⟨y5, hy5, hvv3⟩ := hvv3
        refine kcall [2, 3, 18, 21] [] (fallback_Hold_ok hy5) rfl rfl rfl Try.call40 (by simp) (by simp; rfl) ?_
        refine ko [2, 3, 23] 2 (by simp; rfl) ?_
        refine tops_nil ?_
        cases hvv3
        exact ⟨_, rfl, wk (by simp [weak_iff])⟩
set_option maxHeartbeats 1000000 in
theorem top_TopRotation_ok {a0 : List Int} {r : Bool} (h0 : top_TopRotation a0 = some r) : FnOK Try.prog 3 [] [.d (.slice (rowsF (iRow .i64) a0))] (.d (.bool r)) [] := by
  unfold top_TopRotation at h0
  refine fn_ok (nt := 208) (rs := [.tmp 2]) Try.func3 rfl Try.ntmps3 rfl (by simp) (by decide) rfl fun K => ?_
  refine kr [0] (by simp; rfl) ?_
  refine tr_seq ?_
  refine kr [0, 31] (by simp; rfl) ?_
  refine tr_cond (b := (decide (400 < ((a0).length : Int)))) (by simp) (fun c1 => ?_) (fun c1 => ?_)
  · rw [if_pos c1] at h0
    refine kc ?_
    replace h0 := bnd h0; obtain ⟨y1, hy1, h0⟩ := h0
    refine kcall [32] [] (top_awake39_ok hy1) rfl rfl rfl Try.call4 (by simp) (by simp; rfl) ?_
    refine ko [2] 1 (by simp; rfl) ?_
    refine tops_nil ?_
    cases h0
    exact tr_ret ⟨[], by simp, rfl, by simp⟩
  · rw [if_neg (by rw [c1]; decide)] at h0
    refine tr_skip ?_
    refine kr [3] (by simp; rfl) ?_
    refine kc ?_
    refine ko [3, 36] 1 (by simp; rfl) ?_
    replace h0 := bnd h0; obtain ⟨y2, hy2, h0⟩ := h0
    refine kcall [3, 37] [35] (make_Fleet_ok hy2) rfl rfl rfl Try.call5 (by simp) (by simp; rfl) ?_
    refine ko [3, 4] 2 (by simp; rfl) ?_
    refine tops_nil ?_
    refine kc ?_
    refine ko [3, 4, 39] 1 (by simp; rfl) ?_
    replace h0 := bnd h0; obtain ⟨y3, hy3, h0⟩ := h0
    refine kcall [3, 4, 40] [] (fleet_Start_ok hy3) rfl rfl rfl Try.call6 (by simp) (by simp; rfl) ?_
    refine ko [3, 4, 5, 6] 6 (by simp; rfl) ?_
    refine tops_nil ?_
    refine kc ?_
    refine ko [3, 4, 5, 6, 44] 1 (by simp; rfl) ?_
    replace h0 := bnd h0; obtain ⟨y4, hy4, h0⟩ := h0
    refine kcall [3, 4, 5, 6, 45] [] (plan_Make_ok hy4) rfl rfl rfl Try.call7 (by simp) (by simp; rfl) ?_
    refine ko [3, 4, 5, 6, 7, 8] 5 (by simp; rfl) ?_
    refine tops_nil ?_
    refine tr_seq ?_
    refine kr [3, 4, 5, 7, 8, 49] (by simp; rfl) ?_
    refine tr_cond (b := (y3.2 != 0)) (by simp) (fun c2 => ?_) (fun c2 => ?_)
    · rw [if_pos c2] at h0
      refine kr [2] (by simp; rfl) ?_
      cases h0
      exact tr_ret ⟨[], by simp, rfl, by simp⟩
    · rw [if_neg (by rw [c2]; decide)] at h0
      refine tr_skip ?_
      refine tr_seq ?_
      refine kc ?_
      refine ko [3, 4, 5, 7, 8, 51] 1 (by simp; rfl) ?_
      replace h0 := bnd h0; obtain ⟨y5, hy5, h0⟩ := h0
      refine kcall [3, 4, 5, 7, 8, 52] [] (plan_Why_ok hy5) rfl rfl rfl Try.call8 (by simp) (by simp; rfl) ?_
      refine ko [3, 4, 5, 7, 8, 9, 10] 6 (by simp; rfl) ?_
      refine tops_nil ?_
      refine kr [3, 4, 5, 7, 8, 9, 55] (by simp; rfl) ?_
      refine tr_cond (b := y5.2) (by simp) (fun c3 => ?_) (fun c3 => ?_)
      · rw [if_pos c3] at h0
        refine tr_seq ?_
        replace h0 := bnd h0; obtain ⟨v6, hvv6, h0⟩ := h0
        refine sjv (fun v6_ : Bool => ({ nt := 208, env := [(4, .ptr 4 0), (5, .ptr 5 0), (8, .d (.int .i64 y4.2)), (9, .ptr 9 0), (69, .d (.bool v6_))], box := [(4, [.d (.int .i64 y2.1.Slots), .d (.slice (rowsF api_Consumer_row y2.1.Consumers))]), (5, [.d (.int .i64 y3.1.Known), .d (.int .i64 y3.1.Valid), .d (.slice (rowsF api_Unit_row y3.1.Units))]), (9, [.d (.int .i64 y5.1.Pool)])], vec := [] } : St)) (fun v6_ => v6 = v6_) (fun v6_ e => ?_) ?_
        · subst e
          refine tr_cond (b := v6) (by simp) (fun c8 => ?_) (fun c8 => ?_)
          · rw [if_pos c8] at h0
            replace h0 := bnd h0; obtain ⟨v7, hvv7, h0⟩ := h0
            refine sjv (fun v7_ : Bool => ({ nt := 208, env := [(2, .d (.bool v7_))], box := [], vec := [] } : St)) (fun v7_ => v7 = v7_) (fun v7_ e => ?_) ?_
            · subst e
              cases h0
              exact tr_ret ⟨[], by simp, rfl, by simp⟩
            · refine kc1 ?_
              refine ko [4, 9, 72] 3 (by simp; rfl) ?_
              refine tops_split 72 (y4.2 == 38) (by simp) (fun c13 => ?_) (fun c13 => ?_)
              · rw [if_pos c13] at hvv7
                refine ko [72, 73, 75] 3 (by simp; rfl) ?_
                replace hvv7 := bnd hvv7; obtain ⟨y8, hy8, hvv7⟩ := hvv7
                refine kcall [72, 76] [] (plan_Fit_ok hy8) rfl rfl rfl Try.call9 (by simp) (by simp; rfl) ?_
                refine ko [79] 3 (by simp; rfl) ?_
                refine tops_split 79 (!y8) (by simp) (fun c14 => ?_) (fun c14 => ?_)
                · rw [if_pos c14] at hvv7
                  replace hvv7 := bnd hvv7; obtain ⟨y9, hy9, hvv7⟩ := hvv7
                  refine kcall [79, 80] [] (top_awake39_ok hy9) rfl rfl rfl Try.call4 (by simp) (by simp; rfl) ?_
                  refine ko [2] 2 (by simp; rfl) ?_
                  refine tops_nil ?_
                  cases hvv7
                  exact ⟨_, rfl, wk (by simp [weak_iff])⟩
                · rw [if_neg (by rw [c14]; decide)] at hvv7
                  refine ko [2] 3 (by simp; rfl) ?_
                  refine tops_nil ?_
                  cases hvv7
                  exact ⟨_, rfl, wk (by simp [weak_iff])⟩
              · rw [if_neg (by rw [c13]; decide)] at hvv7
                refine kskip 5 [] (by kernel_rfl) ?_
                refine ko [2] 5 (by simp; rfl) ?_
                refine tops_nil ?_
                cases hvv7
                exact ⟨_, rfl, wk (by simp [weak_iff])⟩
          · rw [if_neg (by rw [c8]; decide)] at h0
            refine tr_skip ?_
            refine kc ?_
            refine ko [83, 84] 2 (by simp; rfl) ?_
            replace h0 := bnd h0; obtain ⟨y10, hy10, h0⟩ := h0
            refine kcall [85] [] (search_Distance_ok hy10) rfl rfl rfl Try.call10 (by simp) (by simp; rfl) ?_
            refine ko [12, 13] 7 (by simp; rfl) ?_
            refine tops_nil ?_
            replace h0 := bnd h0; obtain ⟨v11, hvv11, h0⟩ := h0
            refine sjv (fun v11_ : Bool => ({ nt := 208, env := [(2, .d (.bool v11_))], box := [], vec := [] } : St)) (fun v11_ => v11 = v11_) (fun v11_ e => ?_) ?_
            · subst e
              cases h0
              exact tr_ret ⟨[], by simp, rfl, by simp⟩
            · refine kc1 ?_
              refine ko [12, 91] 3 (by simp; rfl) ?_
              refine tops_split 91 (y10.2.2 == 0) (by simp) (fun c19 => ?_) (fun c19 => ?_)
              · rw [if_pos c19] at hvv11
                refine ko [95] 4 (by simp; rfl) ?_
                refine tops_split 95 (!y10.2.1) (by simp) (fun c20 => ?_) (fun c20 => ?_)
                · rw [if_pos c20] at hvv11
                  replace hvv11 := bnd hvv11; obtain ⟨y12, hy12, hvv11⟩ := hvv11
                  refine kcall [95, 96] [] (top_awake39_ok hy12) rfl rfl rfl Try.call4 (by simp) (by simp; rfl) ?_
                  refine ko [2] 2 (by simp; rfl) ?_
                  refine tops_nil ?_
                  cases hvv11
                  exact ⟨_, rfl, wk (by simp [weak_iff])⟩
                · rw [if_neg (by rw [c20]; decide)] at hvv11
                  refine ko [2] 3 (by simp; rfl) ?_
                  refine tops_nil ?_
                  cases hvv11
                  exact ⟨_, rfl, wk (by simp [weak_iff])⟩
              · rw [if_neg (by rw [c19]; decide)] at hvv11
                refine ko [2] 7 (by simp; rfl) ?_
                refine tops_nil ?_
                cases hvv11
                exact ⟨_, rfl, wk (by simp [weak_iff])⟩
        · refine kc1 ?_
          refine ko [4, 5, 8, 9, 58] 3 (by simp; rfl) ?_
          refine tops_split 58 (y4.2 != 38) (by simp) (fun c21 => ?_) (fun c21 => ?_)
          · rw [if_pos c21] at hvv6
            refine kskip 4 [] (by kernel_rfl) ?_
            refine ko [4, 5, 8, 9, 64] 2 (by simp; rfl) ?_
            refine kskip 4 [] (by kernel_rfl) ?_
            refine ko [4, 5, 8, 9, 69] 1 (by simp; rfl) ?_
            refine tops_nil ?_
            cases hvv6
            exact ⟨_, rfl, wk (by simp [weak_iff])⟩
          · rw [if_neg (by rw [c21]; decide)] at hvv6
            refine ko [4, 5, 8, 9, 58, 59, 61] 3 (by simp; rfl) ?_
            replace hvv6 := bnd hvv6; obtain ⟨y13, hy13, hvv6⟩ := hvv6
            refine kcall [4, 5, 8, 9, 58, 62] [] (plan_Fit_ok hy13) rfl rfl rfl Try.call9 (by simp) (by simp; rfl) ?_
            refine ko [4, 5, 8, 9, 64] 2 (by simp; rfl) ?_
            refine tops_split 64 y13 (by simp) (fun c22 => ?_) (fun c22 => ?_)
            · rw [if_pos c22] at hvv6
              refine kskip 4 [] (by kernel_rfl) ?_
              refine ko [4, 5, 8, 9, 69] 1 (by simp; rfl) ?_
              refine tops_nil ?_
              cases hvv6
              exact ⟨_, rfl, wk (by simp [weak_iff])⟩
            · rw [if_neg (by rw [c22]; decide)] at hvv6
              refine ko [4, 5, 8, 9, 69] 5 (by simp; rfl) ?_
              refine tops_nil ?_
              cases hvv6
              exact ⟨_, rfl, wk (by simp [weak_iff])⟩
      · rw [if_neg (by rw [c3]; decide)] at h0
        refine tr_skip ?_
        refine kc ?_
        refine ko [4, 5, 7, 8, 98] 1 (by simp; rfl) ?_
        replace h0 := bnd h0; obtain ⟨y14, hy14, h0⟩ := h0
        refine kcall [4, 5, 7, 8, 99] [35] (make_Outcomes_ok hy14) rfl rfl rfl Try.call11 (by simp) (by simp; rfl) ?_
        refine ko [4, 5, 7, 8, 14] 1 (by simp; rfl) ?_
        refine tops_nil ?_
        refine kc ?_
        refine ko [4, 5, 7, 8, 14, 101, 102, 103, 104] 4 (by simp; rfl) ?_
        replace h0 := bnd h0; obtain ⟨y15, hy15, h0⟩ := h0
        refine kcall [4, 5, 7, 8, 14, 105] [] (runner_Run_ok hy15) rfl rfl rfl Try.call12 (by simp) (by simp; rfl) ?_
        refine ko [4, 5, 7, 8, 14, 15, 16, 17] 8 (by simp; rfl) ?_
        refine tops_nil ?_
        refine kc ?_
        refine ko [4, 5, 7, 8, 15, 16, 17, 110, 111, 112, 113] 4 (by simp; rfl) ?_
        replace h0 := bnd h0; obtain ⟨y16, hy16, h0⟩ := h0
        refine kcall [4, 5, 7, 8, 15, 16, 17, 114] [] (runner_States_ok hy16) rfl rfl rfl Try.call13 (by simp) (by simp; rfl) ?_
        refine ko [4, 5, 7, 8, 15, 16, 17, 18, 19] 5 (by simp; rfl) ?_
        refine tops_nil ?_
        refine tr_seq ?_
        replace h0 := bnd h0; obtain ⟨v17, hvv17, h0⟩ := h0
        refine sjv (fun v17_ : Bool => ({ nt := 208, env := [(4, .ptr 4 0), (5, .ptr 5 0), (7, .d (.slice (rowsF api_Step_row y4.1))), (15, .ptr 15 0), (16, .d (.slice (rowsF api_Attempt_row y15.2.1))), (17, .d (.int .i64 y15.2.2)), (18, .d (.slice (rowsF api_Rotation_row y16.1))), (123, .d (.bool v17_))], box := [(4, [.d (.int .i64 y2.1.Slots), .d (.slice (rowsF api_Consumer_row y2.1.Consumers))]), (5, [.d (.int .i64 y3.1.Known), .d (.int .i64 y3.1.Valid), .d (.slice (rowsF api_Unit_row y3.1.Units))]), (15, [.d (.int .i64 y15.1.Known), .d (.int .i64 y15.1.Valid), .d (.slice (rowsF api_Unit_row y15.1.Units))])], vec := [] } : St)) (fun v17_ => v17 = v17_) (fun v17_ e => ?_) ?_
        · subst e
          refine tr_cond (b := v17) (by simp) (fun c25 => ?_) (fun c25 => ?_)
          · rw [if_pos c25] at h0
            refine kr [2] (by simp; rfl) ?_
            cases h0
            exact tr_ret ⟨[], by simp, rfl, by simp⟩
          · rw [if_neg (by rw [c25]; decide)] at h0
            refine tr_skip ?_
            refine tr_seq ?_
            refine kr [4, 5, 7, 15, 16, 17, 124, 125, 126] (by simp; rfl) ?_
            replace h0 := bnd h0; obtain ⟨e1, hI1, h0⟩ := h0
            refine tjv (fun v18 : Unit => ({ nt := 208, env := [(4, .ptr 4 0), (5, .ptr 5 0), (7, .d (.slice (rowsF api_Step_row y4.1))), (15, .ptr 15 0), (16, .d (.slice (rowsF api_Attempt_row y15.2.1))), (17, .d (.int .i64 y15.2.2))], box := [(4, [.d (.int .i64 y2.1.Slots), .d (.slice (rowsF api_Consumer_row y2.1.Consumers))]), (5, [.d (.int .i64 y3.1.Known), .d (.int .i64 y3.1.Valid), .d (.slice (rowsF api_Unit_row y3.1.Units))]), (15, [.d (.int .i64 y15.1.Known), .d (.int .i64 y15.1.Valid), .d (.slice (rowsF api_Unit_row y15.1.Units))])], vec := [] } : St)) (fun v18 => .inl v18 = e1) (fun v18 hI1e _ W1 => ?_) ?_
            · subst hI1e
              dsimp only at h0
              refine tr_wk W1 ?_
              refine tr_seq ?_
              refine kr [4, 5, 7, 15, 16, 17, 147] (by simp; rfl) ?_
              refine tr_cond (b := (y15.2.2 == 0)) (by simp) (fun c36 => ?_) (fun c36 => ?_)
              · rw [if_pos c36] at h0
                replace h0 := bnd h0; obtain ⟨v19, hvv19, h0⟩ := h0
                refine sjv (fun v19_ : Bool => ({ nt := 208, env := [(2, .d (.bool v19_))], box := [], vec := [] } : St)) (fun v19_ => v19 = v19_) (fun v19_ e => ?_) ?_
                · subst e
                  cases h0
                  exact tr_ret ⟨[], by simp, rfl, by simp⟩
                · refine kc1 ?_
                  refine ko [4, 5, 7, 148, 149] 2 (by simp; rfl) ?_
                  replace hvv19 := bnd hvv19; obtain ⟨y20, hy20, hvv19⟩ := hvv19
                  refine kcall [4, 5, 7, 150] [] (fleet_Ended_ok hy20) rfl rfl rfl Try.call17 (by simp) (by simp; rfl) ?_
                  refine ko [4, 5, 7, 151] 1 (by simp; rfl) ?_
                  refine tops_split 151 y20 (by simp) (fun c41 => ?_) (fun c41 => ?_)
                  · rw [if_pos c41] at hvv19
                    refine ko [151, 152, 153, 154] 3 (by simp; rfl) ?_
                    replace hvv19 := bnd hvv19; obtain ⟨y21, hy21, hvv19⟩ := hvv19
                    refine kcall [151, 155] [] (plan_Check_ok hy21) rfl rfl rfl Try.call18 (by simp) (by simp; rfl) ?_
                    refine ko [157] 2 (by simp; rfl) ?_
                    refine tops_split 157 y21 (by simp) (fun c42 => ?_) (fun c42 => ?_)
                    · rw [if_pos c42] at hvv19
                      replace hvv19 := bnd hvv19; obtain ⟨y22, hy22, hvv19⟩ := hvv19
                      refine kcall [157, 158] [] (top_awake39_ok hy22) rfl rfl rfl Try.call4 (by simp) (by simp; rfl) ?_
                      refine ko [2] 2 (by simp; rfl) ?_
                      refine tops_nil ?_
                      cases hvv19
                      exact ⟨_, rfl, wk (by simp [weak_iff])⟩
                    · rw [if_neg (by rw [c42]; decide)] at hvv19
                      refine ko [2] 3 (by simp; rfl) ?_
                      refine tops_nil ?_
                      cases hvv19
                      exact ⟨_, rfl, wk (by simp [weak_iff])⟩
                  · rw [if_neg (by rw [c41]; decide)] at hvv19
                    refine kskip 4 [] (by kernel_rfl) ?_
                    refine ko [2] 5 (by simp; rfl) ?_
                    refine tops_nil ?_
                    cases hvv19
                    exact ⟨_, rfl, wk (by simp [weak_iff])⟩
              · rw [if_neg (by rw [c36]; decide)] at h0
                refine tr_skip ?_
                refine kc ?_
                refine ko [4, 15, 17, 161, 162] 2 (by simp; rfl) ?_
                replace h0 := bnd h0; obtain ⟨y23, hy23, h0⟩ := h0
                refine kcall [4, 15, 17, 163] [] (runner_Left_ok hy23) rfl rfl rfl Try.call19 (by simp) (by simp; rfl) ?_
                refine ko [4, 15, 17, 22, 23] 5 (by simp; rfl) ?_
                refine tops_nil ?_
                refine kc ?_
                refine ko [4, 15, 17, 23, 167, 168, 169] 3 (by simp; rfl) ?_
                replace h0 := bnd h0; obtain ⟨y24, hy24, h0⟩ := h0
                refine kcall [4, 15, 17, 23, 170] [] (runner_Run_ok hy24) rfl rfl rfl Try.call12 (by simp) (by simp; rfl) ?_
                refine ko [4, 15, 17, 23, 24, 26] 8 (by simp; rfl) ?_
                refine tops_nil ?_
                refine kc ?_
                refine ko [4, 15, 17, 23, 24, 26, 175, 176] 2 (by simp; rfl) ?_
                replace h0 := bnd h0; obtain ⟨y25, hy25, h0⟩ := h0
                refine kcall [4, 15, 17, 23, 24, 26, 177] [] (fallback_Make_ok hy25) rfl rfl rfl Try.call20 (by simp) (by simp; rfl) ?_
                refine ko [4, 15, 17, 23, 24, 26, 27, 28] 5 (by simp; rfl) ?_
                refine tops_nil ?_
                replace h0 := bnd h0; obtain ⟨v26, hvv26, h0⟩ := h0
                refine sjv (fun v26_ : Bool => ({ nt := 208, env := [(2, .d (.bool v26_))], box := [], vec := [] } : St)) (fun v26_ => v26 = v26_) (fun v26_ e => ?_) ?_
                · subst e
                  cases h0
                  exact tr_ret ⟨[], by simp, rfl, by simp⟩
                · refine kc1 ?_
                  refine ko [4, 15, 23, 24, 26, 27, 28, 182] 3 (by simp; rfl) ?_
                  refine tops_split 182 (y15.2.2 == 40) (by simp) (fun c55 => ?_) (fun c55 => ?_)
                  · rw [if_pos c55] at hvv26
                    refine ko [4, 15, 24, 26, 27, 28, 186] 4 (by simp; rfl) ?_
                    refine tops_split 186 (y23.2 == 0) (by simp) (fun c56 => ?_) (fun c56 => ?_)
                    · rw [if_pos c56] at hvv26
                      refine ko [4, 15, 24, 27, 28, 190] 4 (by simp; rfl) ?_
                      refine tops_split 190 (y24.2.2 == 0) (by simp) (fun c57 => ?_) (fun c57 => ?_)
                      · rw [if_pos c57] at hvv26
                        refine ko [4, 15, 27, 28, 190, 191, 192] 2 (by simp; rfl) ?_
                        replace hvv26 := bnd hvv26; obtain ⟨y27, hy27, hvv26⟩ := hvv26
                        refine kcall [4, 15, 27, 28, 190, 193] [] (fleet_Ended_ok hy27) rfl rfl rfl Try.call17 (by simp) (by simp; rfl) ?_
                        refine ko [4, 15, 27, 28, 195] 2 (by simp; rfl) ?_
                        refine tops_split 195 y27 (by simp) (fun c58 => ?_) (fun c58 => ?_)
                        · rw [if_pos c58] at hvv26
                          refine ko [4, 15, 27, 199] 4 (by simp; rfl) ?_
                          refine tops_split 199 (y25.2 == 0) (by simp) (fun c59 => ?_) (fun c59 => ?_)
                          · rw [if_pos c59] at hvv26
                            refine ko [199, 200, 201, 202] 3 (by simp; rfl) ?_
                            replace hvv26 := bnd hvv26; obtain ⟨y28, hy28, hvv26⟩ := hvv26
                            refine kcall [199, 203] [] (plan_Check_ok hy28) rfl rfl rfl Try.call18 (by simp) (by simp; rfl) ?_
                            refine ko [205] 2 (by simp; rfl) ?_
                            refine tops_split 205 y28 (by simp) (fun c60 => ?_) (fun c60 => ?_)
                            · rw [if_pos c60] at hvv26
                              replace hvv26 := bnd hvv26; obtain ⟨y29, hy29, hvv26⟩ := hvv26
                              refine kcall [205, 206] [] (top_awake39_ok hy29) rfl rfl rfl Try.call4 (by simp) (by simp; rfl) ?_
                              refine ko [2] 2 (by simp; rfl) ?_
                              refine tops_nil ?_
                              cases hvv26
                              exact ⟨_, rfl, wk (by simp [weak_iff])⟩
                            · rw [if_neg (by rw [c60]; decide)] at hvv26
                              refine ko [2] 3 (by simp; rfl) ?_
                              refine tops_nil ?_
                              cases hvv26
                              exact ⟨_, rfl, wk (by simp [weak_iff])⟩
                          · rw [if_neg (by rw [c59]; decide)] at hvv26
                            refine kskip 4 [] (by kernel_rfl) ?_
                            refine ko [2] 5 (by simp; rfl) ?_
                            refine tops_nil ?_
                            cases hvv26
                            exact ⟨_, rfl, wk (by simp [weak_iff])⟩
                        · rw [if_neg (by rw [c58]; decide)] at hvv26
                          refine ko [4, 15, 27, 199] 4 (by simp; rfl) ?_
                          refine kskip 4 [] (by kernel_rfl) ?_
                          refine ko [2] 5 (by simp; rfl) ?_
                          refine tops_nil ?_
                          cases hvv26
                          exact ⟨_, rfl, wk (by simp [weak_iff])⟩
                      · rw [if_neg (by rw [c57]; decide)] at hvv26
                        refine kskip 3 [] (by kernel_rfl) ?_
                        refine ko [4, 15, 27, 199] 6 (by simp; rfl) ?_
                        refine kskip 4 [] (by kernel_rfl) ?_
                        refine ko [2] 5 (by simp; rfl) ?_
                        refine tops_nil ?_
                        cases hvv26
                        exact ⟨_, rfl, wk (by simp [weak_iff])⟩
                    · rw [if_neg (by rw [c56]; decide)] at hvv26
                      refine ko [4, 15, 24, 27, 28, 190] 4 (by simp; rfl) ?_
                      refine kskip 3 [] (by kernel_rfl) ?_
                      refine ko [4, 15, 27, 199] 6 (by simp; rfl) ?_
                      refine kskip 4 [] (by kernel_rfl) ?_
                      refine ko [2] 5 (by simp; rfl) ?_
                      refine tops_nil ?_
                      cases hvv26
                      exact ⟨_, rfl, wk (by simp [weak_iff])⟩
                  · rw [if_neg (by rw [c55]; decide)] at hvv26
                    refine ko [4, 15, 24, 27, 28, 190] 8 (by simp; rfl) ?_
                    refine kskip 3 [] (by kernel_rfl) ?_
                    refine ko [4, 15, 27, 199] 6 (by simp; rfl) ?_
                    refine kskip 4 [] (by kernel_rfl) ?_
                    refine ko [2] 5 (by simp; rfl) ?_
                    refine tops_nil ?_
                    cases hvv26
                    exact ⟨_, rfl, wk (by simp [weak_iff])⟩
            · refine tr_block (tr_iter (fun s30 : Int => ({ nt := 208, env := [(4, .ptr 4 0), (5, .ptr 5 0), (7, .d (.slice (rowsF api_Step_row y4.1))), (15, .ptr 15 0), (16, .d (.slice (rowsF api_Attempt_row y15.2.1))), (17, .d (.int .i64 y15.2.2)), (124, .d (.slice (rowsF api_Rotation_row y16.1))), (125, .d (.int .i64 ((y16.1).length : Int))), (126, .d (.int .i64 s30))], box := [(4, [.d (.int .i64 y2.1.Slots), .d (.slice (rowsF api_Consumer_row y2.1.Consumers))]), (5, [.d (.int .i64 y3.1.Known), .d (.int .i64 y3.1.Valid), .d (.slice (rowsF api_Unit_row y3.1.Units))]), (15, [.d (.int .i64 y15.1.Known), .d (.int .i64 y15.1.Valid), .d (.slice (rowsF api_Unit_row y15.1.Units))])], vec := [] } : St)) hI1 (wk (by simp [weak_iff])) fun G1 s30 o1 h1 hg1 he1 => ?_)
              unfold top_TopRotation_l0 at h1
              refine kr [4, 5, 7, 15, 16, 17, 124, 125, 126, 127] (by simp; rfl) ?_
              refine tr_seq ?_
              refine tr_cond (b := (decide (s30 < ((y16.1).length : Int)))) (by simp) (fun c61 => ?_) (fun c61 => ?_)
              · rw [if_pos c61] at h1
                refine tr_skip ?_
                refine tr_seq ?_
                refine tr_block ?_
                replace h1 := bnd h1; obtain ⟨x31, p3, h1⟩ := h1
                replace p3 := idx_some p3
                have p3' := p3; try simp at p3'
                refine kr [4, 5, 7, 15, 16, 17, 21, 124, 125, 126] (by simp [p3, p3']; rfl) ?_
                replace h1 := bnd h1; obtain ⟨v32, hvv32, h1⟩ := h1
                refine sjv (fun v32_ : Bool => ({ nt := 208, env := [(4, .ptr 4 0), (5, .ptr 5 0), (7, .d (.slice (rowsF api_Step_row y4.1))), (15, .ptr 15 0), (16, .d (.slice (rowsF api_Attempt_row y15.2.1))), (17, .d (.int .i64 y15.2.2)), (124, .d (.slice (rowsF api_Rotation_row y16.1))), (125, .d (.int .i64 ((y16.1).length : Int))), (126, .d (.int .i64 s30)), (144, .d (.bool v32_))], box := [(4, [.d (.int .i64 y2.1.Slots), .d (.slice (rowsF api_Consumer_row y2.1.Consumers))]), (5, [.d (.int .i64 y3.1.Known), .d (.int .i64 y3.1.Valid), .d (.slice (rowsF api_Unit_row y3.1.Units))]), (15, [.d (.int .i64 y15.1.Known), .d (.int .i64 y15.1.Valid), .d (.slice (rowsF api_Unit_row y15.1.Units))])], vec := [] } : St)) (fun v32_ => v32 = v32_) (fun v32_ e => ?_) ?_
                · subst e
                  refine tr_cond (b := v32) (by simp) (fun c68 => ?_) (fun c68 => ?_)
                  · rw [if_pos c68] at h1
                    refine kr [2] (by simp; rfl) ?_
                    have k1 := he1 _ (Option.some.inj h1)
                    subst k1
                    dsimp only at h0
                    cases h0
                    exact tr_ret ⟨[], by simp, rfl, by simp⟩
                  · rw [if_neg (by rw [c68]; decide)] at h1
                    refine tr_skip ?_
                    refine lr (by simp; rfl) ?_
                    exact ⟨_, hg1 _ (Option.some.inj h1), wk (by simp [weak_iff])⟩
                · refine kd1 [[], [], [0, 1], [2], [], [4], [5], [3, 6], [3, 6, 7], [3, 6, 8], [3, 6, 8], [3, 6, 8], [3, 6, 8, 9, 10, 11], [3, 6, 8, 12], [3, 6, 8, 13]] [] [] none [] 15 fol (by decide +kernel) (by simp) ?_
                  refine dr_go 0 2 rfl (by simp (maxSteps := 1000000); rfl) ?_
                  replace hvv32 := bnd hvv32; obtain ⟨y33, hy33, hvv32⟩ := hvv32
                  refine dr_call 2 [] (fleet_Served_ok hy33) rfl rfl rfl rfl rfl Try.call14 (by simp) ?_
                  refine dr_go 3 2 rfl (by simp (maxSteps := 1000000); rfl) ?_
                  replace hvv32 := bnd hvv32; obtain ⟨y34, hy34, hvv32⟩ := hvv32
                  refine dr_call 5 [] (fleet_Pools_ok hy34) rfl rfl rfl rfl rfl Try.call15 (by simp) ?_
                  refine dr_go 6 2 rfl (by simp (maxSteps := 1000000); rfl) ?_
                  refine dr_go 8 1 rfl (by simp (maxSteps := 1000000); rfl) ?_
                  refine dr_split 8 138 (((y33).length : Int) != ((y34).length : Int)) (by simp) (fun c71 => ?_) (fun c71 => ?_)
                  · rw [if_pos c71] at hvv32
                    refine dr_skip 9 208 [some 139, some 140, some 141, some 142, some 143] rfl rfl (by decide) (by kernel_rfl) (by simp only [skEf, List.map_cons, List.map_nil, List.cons_append, List.nil_append]; rfl) ?_
                    refine dr_go 14 1 rfl (by simp (maxSteps := 1000000); rfl) ?_
                    refine dr_end rfl (tops_nil ?_)
                    cases hvv32
                    exact ⟨_, rfl, wk (by simp [weak_iff])⟩
                  · rw [if_neg (by rw [c71]; decide)] at hvv32
                    refine dr_go 9 2 rfl (by simp (maxSteps := 1000000); rfl) ?_
                    refine dr_go 11 1 rfl (by simp (maxSteps := 1000000); rfl) ?_
                    replace hvv32 := bnd hvv32; obtain ⟨y35, hy35, hvv32⟩ := hvv32
                    refine dr_call 12 [] (fallback_Forward_ok hy35) rfl rfl rfl rfl rfl Try.call16 (by simp) ?_
                    refine dr_go 13 2 rfl (by simp (maxSteps := 1000000); rfl) ?_
                    refine dr_end rfl (tops_nil ?_)
                    cases hvv32
                    exact ⟨_, rfl, wk (by simp [weak_iff])⟩
              · rw [if_neg (by rw [c61]; decide)] at h1
                refine tr_exit ?_
                exact ⟨_, he1 _ (Option.some.inj h1), wk (by simp [weak_iff])⟩
        · refine kc1 ?_
          refine ko [4, 5, 7, 15, 16, 17, 18, 19, 119] 3 (by simp; rfl) ?_
          refine tops_split 119 (y4.2 != 0) (by simp) (fun c72 => ?_) (fun c72 => ?_)
          · rw [c72] at hvv17
            refine kskip 3 [] (by kernel_rfl) ?_
            refine ko [4, 5, 7, 15, 16, 17, 18, 123] 1 (by simp; rfl) ?_
            refine tops_nil ?_
            cases hvv17
            exact ⟨_, rfl, wk (by simp [weak_iff])⟩
          · rw [c72] at hvv17
            refine ko [4, 5, 7, 15, 16, 17, 18, 123] 4 (by simp; rfl) ?_
            refine tops_nil ?_
            cases hvv17
            exact ⟨_, rfl, wk (by simp [weak_iff])⟩
end Go.Vl
