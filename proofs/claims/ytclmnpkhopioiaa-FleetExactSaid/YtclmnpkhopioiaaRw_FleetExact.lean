/- Walks: each function of the given program computes what its mirror says. Conditions: none. -/
import Derived.Test.YtclmnpkhopioiaaRw2
set_option linter.unusedSimpArgs false
set_option linter.unusedVariables false
namespace Go.Vl
open Go Go.Proofs
set_option maxHeartbeats 1000000 in
theorem ref32_Check_ok {a0 : api_Fleet} {r : Int} (h0 : ref32_Check a0 = some r) : FnOK Try.prog 29 [] [.agg (api_Fleet_av a0)] (.d (.int .i64 r)) [] := by
  unfold ref32_Check at h0
  refine fn_ok (nt := 6) (rs := [.tmp 2]) Try.func29 rfl Try.ntmps29 rfl (by simp) (by decide) rfl fun K => ?_
  refine kr [1] (by simp; rfl) ?_
  refine tr_seq ?_
  refine kc ?_
  refine ko [3] 1 (by simp; rfl) ?_
  replace h0 := bnd h0; obtain ⟨y1, hy1, h0⟩ := h0
  refine kcall [4] [] (ref32_Valid_ok hy1) rfl rfl rfl Try.call73 (by simp) (by simp; rfl) ?_
  refine ko [5] 1 (by simp; rfl) ?_
  refine tops_nil ?_
  refine tr_cond (b := (!y1)) (by simp) (fun c1 => ?_) (fun c1 => ?_)
  · rw [if_pos c1] at h0
    refine kr [2] (by simp; rfl) ?_
    cases h0
    exact tr_ret ⟨[], by simp, rfl, by simp⟩
  · rw [if_neg (by rw [c1]; decide)] at h0
    refine tr_skip ?_
    refine kr [2] (by simp; rfl) ?_
    cases h0
    exact tr_ret ⟨[], by simp, rfl, by simp⟩
set_option maxHeartbeats 1000000 in
theorem ref32_Same_ok {a0 : api_Rotation} {a1 : api_Rotation} {r : Bool} (h0 : ref32_Same a0 a1 = some r) : FnOK Try.prog 30 [] [.agg (api_Rotation_av a0), .agg (api_Rotation_av a1)] (.d (.bool r)) [] := by
  unfold ref32_Same at h0
  refine fn_ok (nt := 45) (rs := [.tmp 4]) Try.func30 rfl Try.ntmps30 rfl (by simp) (by decide) rfl fun K => ?_
  refine kr [2, 3] (by simp; rfl) ?_
  refine tr_seq ?_
  replace h0 := bnd h0; obtain ⟨v1, hvv1, h0⟩ := h0
  refine sjv (fun v1_ : Bool => ({ nt := 45, env := [(2, .ptr 2 0), (3, .ptr 3 0), (26, .d (.bool v1_))], box := [(2, [.d (.int .i64 a0.Known), .d (.int .i64 a0.Valid), .d (.slice (rowsF api_Unit_row a0.Units))]), (3, [.d (.int .i64 a1.Known), .d (.int .i64 a1.Valid), .d (.slice (rowsF api_Unit_row a1.Units))])], vec := [] } : St)) (fun v1_ => v1 = v1_) (fun v1_ e => ?_) ?_
  · subst e
    refine tr_cond (b := v1) (by simp) (fun c5 => ?_) (fun c5 => ?_)
    · rw [if_pos c5] at h0
      refine kr [4] (by simp; rfl) ?_
      cases h0
      exact tr_ret ⟨[], by simp, rfl, by simp⟩
    · rw [if_neg (by rw [c5]; decide)] at h0
      refine tr_skip ?_
      refine tr_seq ?_
      refine kr [2, 3, 29, 30] (by simp; rfl) ?_
      replace h0 := bnd h0; obtain ⟨e1, hI1, h0⟩ := h0
      refine tjv (fun v2 : Unit => ({ nt := 45, env := [], box := [], vec := [] } : St)) (fun v2 => .inl v2 = e1) (fun v2 hI1e _ W1 => ?_) ?_
      · subst hI1e
        dsimp only at h0
        refine tr_wk W1 ?_
        refine kr [4] (by simp; rfl) ?_
        cases h0
        exact tr_ret ⟨[], by simp, rfl, by simp⟩
      · refine tr_block (tr_iter (fun s3 : Int => ({ nt := 45, env := [(2, .ptr 2 0), (3, .ptr 3 0), (29, .d (.int .i64 ((a0.Units).length : Int))), (30, .d (.int .i64 s3))], box := [(2, [.d (.int .i64 a0.Known), .d (.int .i64 a0.Valid), .d (.slice (rowsF api_Unit_row a0.Units))]), (3, [.d (.int .i64 a1.Known), .d (.int .i64 a1.Valid), .d (.slice (rowsF api_Unit_row a1.Units))])], vec := [] } : St)) hI1 (wk (by simp [weak_iff])) fun G1 s3 o1 h1 hg1 he1 => ?_)
        unfold ref32_Same_l0 at h1
        refine kr [2, 3, 29, 30, 31] (by simp; rfl) ?_
        refine tr_seq ?_
        refine tr_cond (b := (decide (s3 < ((a0.Units).length : Int)))) (by simp) (fun c10 => ?_) (fun c10 => ?_)
        · rw [if_pos c10] at h1
          refine tr_skip ?_
          refine tr_seq ?_
          refine tr_block ?_
          refine kr [2, 3, 5, 29, 30] (by simp; rfl) ?_
          refine kd [[], [0], [], [1, 2], [3], [], [5], [], [6, 7], [8], [4, 9]] [] [] none [] 11 fol (by decide +kernel) (by simp) ?_
          replace h1 := bnd h1; obtain ⟨x4, p17, h1⟩ := h1
          replace p17 := idx_some p17
          have p17' := p17; try simp at p17'
          replace h1 := bnd h1; obtain ⟨x5, p18, h1⟩ := h1
          replace p18 := idx_some p18
          have p18' := p18; try simp at p18'
          refine dr_go 0 2 rfl (by simp (maxSteps := 1000000) [p17, p18, p17', p18']; rfl) ?_
          refine dr_go 2 2 rfl (by simp (maxSteps := 1000000) [p17, p18, p17', p18']; rfl) ?_
          refine dr_go 4 2 rfl (by simp (maxSteps := 1000000) [p17, p18, p17', p18']; rfl) ?_
          refine dr_go 6 2 rfl (by simp (maxSteps := 1000000) [p17, p18, p17', p18']; rfl) ?_
          refine dr_go 8 2 rfl (by simp (maxSteps := 1000000) [p17, p18, p17', p18']; rfl) ?_
          refine dr_go 10 1 rfl (by simp (maxSteps := 1000000) [p17, p18, p17', p18']; rfl) ?_
          refine dr_end rfl (tops_nil ?_)
          refine tr_cond (b := (!((x4.Up == x5.Up) && ((x4.Stored == x5.Stored) && (x4.Used == x5.Used))))) (by simp) (fun c11 => ?_) (fun c11 => ?_)
          · rw [if_pos c11] at h1
            refine kr [4] (by simp; rfl) ?_
            have k1 := he1 _ (Option.some.inj h1)
            subst k1
            dsimp only at h0
            cases h0
            exact tr_ret ⟨[], by simp, rfl, by simp⟩
          · rw [if_neg (by rw [c11]; decide)] at h1
            refine tr_skip ?_
            refine lr (by simp; rfl) ?_
            exact ⟨_, hg1 _ (Option.some.inj h1), wk (by simp [weak_iff])⟩
        · rw [if_neg (by rw [c10]; decide)] at h1
          refine tr_exit ?_
          exact ⟨_, he1 _ (Option.some.inj h1), wk (by simp [weak_iff])⟩
  · refine kc1 ?_
    refine ko [2, 3, 11] 6 (by simp; rfl) ?_
    refine tops_split 11 (a0.Known != a1.Known) (by simp) (fun c12 => ?_) (fun c12 => ?_)
    · rw [c12] at hvv1
      refine kskip 5 [] (by kernel_rfl) ?_
      refine ko [2, 3, 18] 2 (by simp; rfl) ?_
      refine kskip 7 [] (by kernel_rfl) ?_
      refine ko [2, 3, 26] 1 (by simp; rfl) ?_
      refine tops_nil ?_
      cases hvv1
      exact ⟨_, rfl, wk (by simp [weak_iff])⟩
    · rw [c12] at hvv1
      refine ko [2, 3, 18] 7 (by simp; rfl) ?_
      refine tops_split 18 (a0.Valid != a1.Valid) (by simp) (fun c13 => ?_) (fun c13 => ?_)
      · rw [c13] at hvv1
        refine kskip 7 [] (by kernel_rfl) ?_
        refine ko [2, 3, 26] 1 (by simp; rfl) ?_
        refine tops_nil ?_
        cases hvv1
        exact ⟨_, rfl, wk (by simp [weak_iff])⟩
      · rw [c13] at hvv1
        refine ko [2, 3, 26] 8 (by simp; rfl) ?_
        refine tops_nil ?_
        cases hvv1
        exact ⟨_, rfl, wk (by simp [weak_iff])⟩
set_option maxHeartbeats 1000000 in
theorem ref32_Units_ok {a0 : api_Fleet} {a1 : Int} {r : (List Int)} (h0 : ref32_Units a0 a1 = some r) : FnOK Try.prog 40 [] [.agg (api_Fleet_av a0), .d (.int .i64 a1)] (.d (.slice (rowsF (iRow .i64) r))) [] := by
  unfold ref32_Units at h0
  refine fn_ok (nt := 29) (rs := [.tmp 4]) Try.func40 rfl Try.ntmps40 rfl (by simp) (by decide) rfl fun K => ?_
  refine kr [1, 2] (by simp; rfl) ?_
  refine tr_seq ?_
  refine kc ?_
  refine ko [1, 2, 8] 1 (by simp; rfl) ?_
  replace h0 := bnd h0; obtain ⟨y1, hy1, h0⟩ := h0
  refine kcall [1, 2, 9] [] (ref32_Valid_ok hy1) rfl rfl rfl Try.call73 (by simp) (by simp; rfl) ?_
  refine ko [1, 2, 10] 1 (by simp; rfl) ?_
  refine tops_nil ?_
  refine tr_cond (b := (!y1)) (by simp) (fun c1 => ?_) (fun c1 => ?_)
  · rw [if_pos c1] at h0
    refine kr [4] (by simp; rfl) ?_
    cases h0
    exact tr_ret ⟨[], by simp, rfl, by simp⟩
  · rw [if_neg (by rw [c1]; decide)] at h0
    refine tr_skip ?_
    refine kr [1, 2, 5] (by simp; rfl) ?_
    refine tr_seq ?_
    refine kr [1, 5, 12, 13, 14] (by simp; rfl) ?_
    refine tr_wk (wk_own 5 26 3 1 (by simp) (by simp)) ?_
    replace h0 := bnd h0; obtain ⟨e1, hI1, h0⟩ := h0
    refine tjv (fun v2 : (List Int) => ({ nt := 29, env := [(5, .vec 26)], box := [], vec := [(26, ⟨3, 1, rowsF (iRow .i64) v2⟩)] } : St)) (fun v2 => v2 = e1) (fun v2 hI1e _ W1 => ?_) ?_
    · subst hI1e
      refine tr_wk W1 ?_
      refine kr [4] (by simp; rfl) ?_
      cases h0
      exact tr_ret ⟨[26], by simp, rfl, by simp⟩
    · refine tr_block (tr_iter (fun s3 : Int × (List Int) => ({ nt := 29, env := [(1, .d (.int .i64 a1)), (5, .vec 26), (12, .d (.slice (rowsF api_Consumer_row a0.Consumers))), (13, .d (.int .i64 ((a0.Consumers).length : Int))), (14, .d (.int .i64 s3.1))], box := [], vec := [(26, ⟨3, 1, rowsF (iRow .i64) s3.2⟩)] } : St)) hI1 (wk (by simp [weak_iff])) fun G1 s3 o1 h1 hg1 he1 => ?_)
      unfold ref32_Units_l0 at h1
      refine kr [1, 5, 12, 13, 14, 15] (by simp; rfl) ?_
      refine tr_seq ?_
      refine tr_cond (b := (decide (s3.1 < ((a0.Consumers).length : Int)))) (by simp) (fun c8 => ?_) (fun c8 => ?_)
      · rw [if_pos c8] at h1
        refine tr_skip ?_
        refine tr_seq ?_
        refine tr_block ?_
        replace h1 := bnd h1; obtain ⟨x4, p6, h1⟩ := h1
        replace p6 := idx_some p6
        have p6' := p6; try simp at p6'
        refine kr [1, 5, 6, 7, 12, 13, 14] (by simp [p6, p6']; rfl) ?_
        refine kr [1, 5, 6, 12, 13, 14, 22] (by simp; rfl) ?_
        refine tr_cond (b := (x4.Pool == a1)) (by simp) (fun c9 => ?_) (fun c9 => ?_)
        · rw [if_pos c9] at h1
          replace h1 := bnd h1; obtain ⟨_, p7, h1⟩ := h1
          replace p7 := ck_some p7
          have p7' := p7; try simp at p7'
          refine lr (by simp [p7, p7']; rfl) ?_
          refine lr (by simp; rfl) ?_
          exact ⟨_, hg1 _ (Option.some.inj h1), wk (by simp [weak_iff])⟩
        · rw [if_neg (by rw [c9]; decide)] at h1
          refine tr_skip ?_
          refine lr (by simp; rfl) ?_
          exact ⟨_, hg1 _ (Option.some.inj h1), wk (by simp [weak_iff])⟩
      · rw [if_neg (by rw [c8]; decide)] at h1
        refine tr_exit ?_
        exact ⟨_, he1 _ (Option.some.inj h1), wk (by simp [weak_iff])⟩
set_option maxHeartbeats 1000000 in
theorem ref32_Pools_ok {a0 : api_Fleet} {r : (List Int)} (h0 : ref32_Pools a0 = some r) : FnOK Try.prog 33 [] [.agg (api_Fleet_av a0)] (.d (.slice (rowsF (iRow .i64) r))) [] := by
  unfold ref32_Pools at h0
  refine fn_ok (nt := 19) (rs := [.tmp 2]) Try.func33 rfl Try.ntmps33 rfl (by simp) (by decide) rfl fun K => ?_
  refine kr [1] (by simp; rfl) ?_
  refine kr [1, 3] (by simp; rfl) ?_
  refine tr_seq ?_
  refine kr [1, 3, 4] (by simp; rfl) ?_
  refine tr_wk (wk_own 3 17 3 1 (by simp) (by simp)) ?_
  replace h0 := bnd h0; obtain ⟨e1, hI1, h0⟩ := h0
  refine tjv (fun v1 : (List Int) => ({ nt := 19, env := [(3, .vec 17)], box := [], vec := [(17, ⟨3, 1, rowsF (iRow .i64) v1⟩)] } : St)) (fun v1 => v1 = e1) (fun v1 hI1e _ W1 => ?_) ?_
  · subst hI1e
    refine tr_wk W1 ?_
    refine kr [2] (by simp; rfl) ?_
    cases h0
    exact tr_ret ⟨[17], by simp, rfl, by simp⟩
  · refine tr_block (tr_iter (fun s2 : Int × (List Int) => ({ nt := 19, env := [(1, .ptr 1 0), (3, .vec 17), (4, .d (.int .i64 s2.1))], box := [(1, [.d (.int .i64 a0.Slots), .d (.slice (rowsF api_Consumer_row a0.Consumers))])], vec := [(17, ⟨3, 1, rowsF (iRow .i64) s2.2⟩)] } : St)) hI1 (wk (by simp [weak_iff])) fun G1 s2 o1 h1 hg1 he1 => ?_)
    unfold ref32_Pools_l0 at h1
    refine tr_seq ?_
    refine kr [1, 3, 4, 6] (by simp; rfl) ?_
    refine tr_cond (b := (decide (s2.1 ≤ 7))) (by simp) (fun c7 => ?_) (fun c7 => ?_)
    · rw [if_pos c7] at h1
      refine tr_skip ?_
      refine tr_seq ?_
      refine tr_block ?_
      refine kc ?_
      refine ko [1, 3, 4, 9, 10] 2 (by simp; rfl) ?_
      replace h1 := bnd h1; obtain ⟨y3, hy3, h1⟩ := h1
      refine kcall [1, 3, 4, 11] [] (ref32_Units_ok hy3) rfl rfl rfl Try.call40 (by simp) (by simp; rfl) ?_
      refine ko [1, 3, 4, 13] 2 (by simp; rfl) ?_
      refine tops_nil ?_
      refine tr_cond (b := (decide (0 < ((y3).length : Int)))) (by simp) (fun c8 => ?_) (fun c8 => ?_)
      · rw [if_pos c8] at h1
        replace h1 := bnd h1; obtain ⟨_, p3, h1⟩ := h1
        replace p3 := ck_some p3
        have p3' := p3; try simp at p3'
        refine lr (by simp [p3, p3']; rfl) ?_
        refine lr (by simp; rfl) ?_
        exact ⟨_, hg1 _ (Option.some.inj h1), wk (by simp [weak_iff])⟩
      · rw [if_neg (by rw [c8]; decide)] at h1
        refine tr_skip ?_
        refine lr (by simp; rfl) ?_
        exact ⟨_, hg1 _ (Option.some.inj h1), wk (by simp [weak_iff])⟩
    · rw [if_neg (by rw [c7]; decide)] at h1
      refine tr_exit ?_
      exact ⟨_, he1 _ (Option.some.inj h1), wk (by simp [weak_iff])⟩
set_option maxHeartbeats 1000000 in
theorem law32_bend_ok {a0 : make_Tape} {a1 : api_Rotation} {r : api_Rotation × make_Tape} (h0 : law32_bend a0 a1 = some r) : FnOK Try.prog 34 [make_Tape_av a0] [.ptr (InO 0) 0, .agg (api_Rotation_av a1)] (.agg (api_Rotation_av r.1)) [make_Tape_av r.2] := by
  unfold law32_bend at h0
  refine fn_ok (nt := 65) (rs := [.cell 4 33]) Try.func34 rfl Try.ntmps34 rfl (by simp) (by decide) rfl fun K => ?_
  refine kr [0, 3, 4] (by simp; rfl) ?_
  refine kc ?_
  refine ko [0, 3, 4, 6] 1 (by simp; rfl) ?_
  replace h0 := bnd h0; obtain ⟨y1, hy1, h0⟩ := h0
  refine kcallV [0, 3, 4, 7] [] [] [600028] (ref32_Copy_own2_ok hy1) rfl rfl rfl Try.call20 (by simp) (by simp; rfl) ?_
  refine ko [0, 3, 4] 1 (by simp; rfl) ?_
  refine tops_nil ?_
  refine tr_seq ?_
  refine kc ?_
  refine ko [0, 3, 4, 8] 1 (by simp; rfl) ?_
  replace h0 := bnd h0; obtain ⟨y2, hy2, h0⟩ := h0
  refine kcall [0, 3, 4, 9] [1000000] (make_Tape_Next_ok hy2) rfl rfl rfl Try.call38 (by simp) (by simp; rfl) ?_
  refine tops_nil ?_
  refine tr_block ?_
  refine kr [0, 3, 4, 9, 46] (by simp; rfl) ?_
  refine tr_cond (b := (y2.1 == 0)) (by simp) (fun c1 => ?_) (fun c1 => ?_)
  · rw [if_pos c1] at h0
    refine kc1 ?_
    refine ko [3, 4, 48] 1 (by simp; rfl) ?_
    replace h0 := bnd h0; obtain ⟨y3, hy3, h0⟩ := h0
    refine kcall [3, 4, 49] [1000000] (make_Tape_Next_ok hy3) rfl rfl rfl Try.call38 (by simp) (by simp; rfl) ?_
    refine ko [3, 4] 2 (by simp; rfl) ?_
    refine tops_nil ?_
    refine kr [4] (by simp; rfl) ?_
    cases h0
    exact tr_ret ⟨[600028], by simp, rfl, by simp⟩
  · rw [if_neg (by rw [c1]; decide)] at h0
    refine kr [0, 3, 4, 9, 51] (by simp; rfl) ?_
    refine tr_cond (b := (y2.1 == 1)) (by simp) (fun c2 => ?_) (fun c2 => ?_)
    · rw [if_pos c2] at h0
      refine kc1 ?_
      refine ko [3, 4, 53] 1 (by simp; rfl) ?_
      replace h0 := bnd h0; obtain ⟨y4, hy4, h0⟩ := h0
      refine kcall [3, 4, 54] [1000000] (make_Tape_Between_ok hy4) rfl rfl rfl Try.call25 (by simp) (by simp; rfl) ?_
      refine ko [3, 4] 2 (by simp; rfl) ?_
      refine tops_nil ?_
      refine kr [4] (by simp; rfl) ?_
      cases h0
      exact tr_ret ⟨[600028], by simp, rfl, by simp⟩
    · rw [if_neg (by rw [c2]; decide)] at h0
      refine kr [0, 3, 4, 56] (by simp; rfl) ?_
      refine tr_cond (b := (y2.1 == 2)) (by simp) (fun c3 => ?_) (fun c3 => ?_)
      · rw [if_pos c3] at h0
        replace h0 := bnd h0; obtain ⟨_, p1, h0⟩ := h0
        replace p1 := ck_some p1
        have p1' := p1; try simp at p1'
        refine lr (by simp [p1, p1']; rfl) ?_
        refine kr [4] (by simp; rfl) ?_
        cases h0
        exact tr_ret ⟨[62], by simp, rfl, by simp⟩
      · rw [if_neg (by rw [c3]; decide)] at h0
        refine kr [0, 3, 4, 13] (by simp; rfl) ?_
        refine tr_cond (b := (decide (0 < ((y1.Units).length : Int)))) (by simp) (fun c4 => ?_) (fun c4 => ?_)
        · rw [if_pos c4] at h0
          refine kd [[], [0], [], [], [3], [4], [2, 5], [1, 5, 6], [5, 7]] [6] [(1000000, [6])] none [] 9 fol (by decide +kernel) (by simp) ?_
          refine dr_go 0 2 rfl (by simp (maxSteps := 1000000); rfl) ?_
          refine dr_go 2 2 rfl (by simp (maxSteps := 1000000); rfl) ?_
          refine dr_go 4 2 rfl (by simp (maxSteps := 1000000); rfl) ?_
          replace h0 := bnd h0; obtain ⟨y5, hy5, h0⟩ := h0
          refine dr_call 6 [1000000] (make_Tape_Next_ok hy5) rfl rfl rfl rfl rfl Try.call38 (by simp) ?_
          replace h0 := bnd h0; obtain ⟨_, p4, h0⟩ := h0
          replace p4 := ck_some p4
          have p4' := p4; try simp at p4'
          have p4o : y5.1 < (((y1.Units)).length : Int) := by omega
          refine dr_go 7 2 rfl (by simp (maxSteps := 1000000) [p4, p4o, p4']; rfl) ?_
          refine dr_end rfl (tops_nil ?_)
          refine kc ?_
          refine ko [0, 3, 4, 5, 22] 1 (by simp; rfl) ?_
          replace h0 := bnd h0; obtain ⟨y6, hy6, h0⟩ := h0
          refine kcall [0, 3, 4, 5, 23] [1000000] (make_Tape_Next_ok hy6) rfl rfl rfl Try.call38 (by simp) (by simp; rfl) ?_
          refine tops_nil ?_
          refine tr_block ?_
          refine kr [0, 3, 4, 5, 23, 29] (by simp; rfl) ?_
          refine tr_cond (b := (y6.1 == 0)) (by simp) (fun c5 => ?_) (fun c5 => ?_)
          · rw [if_pos c5] at h0
            replace h0 := bnd h0; obtain ⟨x7, p5, h0⟩ := h0
            replace p5 := idx_some p5
            have p5' := p5; try simp at p5'
            refine lr (by simp [-getElem?_pos, List.getElem?_cons_zero, List.getElem?_cons_succ, p5, (List.getElem?_eq_some_iff.1 p5.2).1, p5']; rfl) ?_
            refine kr [4] (by simp; rfl) ?_
            cases h0
            exact tr_ret ⟨[600028], by simp, rfl, by simp⟩
          · rw [if_neg (by rw [c5]; decide)] at h0
            refine kr [0, 3, 4, 5, 39] (by simp; rfl) ?_
            refine tr_cond (b := (y6.1 == 1)) (by simp) (fun c6 => ?_) (fun c6 => ?_)
            · rw [if_pos c6] at h0
              refine kc1 ?_
              refine ko [3, 4, 41, 42] 2 (by simp; rfl) ?_
              replace h0 := bnd h0; obtain ⟨y8, hy8, h0⟩ := h0
              refine kcall [3, 4, 41, 43] [1000000] (make_Tape_Next_ok hy8) rfl rfl rfl Try.call38 (by simp) (by simp; rfl) ?_
              replace h0 := bnd h0; obtain ⟨x9, p6, h0⟩ := h0
              replace p6 := idx_some p6
              have p6' := p6; try simp at p6'
              refine ko [3, 4] 3 (by simp [-getElem?_pos, List.getElem?_cons_zero, List.getElem?_cons_succ, p6, (List.getElem?_eq_some_iff.1 p6.2).1, p6']; rfl) ?_
              refine tops_nil ?_
              refine kr [4] (by simp; rfl) ?_
              cases h0
              exact tr_ret ⟨[600028], by simp, rfl, by simp⟩
            · rw [if_neg (by rw [c6]; decide)] at h0
              refine kc1 ?_
              refine ko [3, 4, 24, 25] 2 (by simp; rfl) ?_
              replace h0 := bnd h0; obtain ⟨y10, hy10, h0⟩ := h0
              refine kcall [3, 4, 24, 26] [1000000] (make_Tape_Next_ok hy10) rfl rfl rfl Try.call38 (by simp) (by simp; rfl) ?_
              replace h0 := bnd h0; obtain ⟨x11, p7, h0⟩ := h0
              replace p7 := idx_some p7
              have p7' := p7; try simp at p7'
              refine ko [3, 4] 3 (by simp [-getElem?_pos, List.getElem?_cons_zero, List.getElem?_cons_succ, p7, (List.getElem?_eq_some_iff.1 p7.2).1, p7']; rfl) ?_
              refine tops_nil ?_
              refine kr [4] (by simp; rfl) ?_
              cases h0
              exact tr_ret ⟨[600028], by simp, rfl, by simp⟩
        · rw [if_neg (by rw [c4]; decide)] at h0
          refine tr_skip ?_
          refine kr [4] (by simp; rfl) ?_
          cases h0
          exact tr_ret ⟨[600028], by simp, rfl, by simp⟩
set_option maxHeartbeats 1000000 in
theorem ref32_Ended_ok {a0 : api_Fleet} {a1 : api_Rotation} {r : Bool} (h0 : ref32_Ended a0 a1 = some r) : FnOK Try.prog 36 [] [.agg (api_Fleet_av a0), .agg (api_Rotation_av a1)] (.d (.bool r)) [] := by
  unfold ref32_Ended at h0
  refine fn_ok (nt := 37) (rs := [.tmp 4]) Try.func36 rfl Try.ntmps36 rfl (by simp) (by decide) rfl fun K => ?_
  refine kr [2, 3] (by simp; rfl) ?_
  refine tr_seq ?_
  replace h0 := bnd h0; obtain ⟨v1, hvv1, h0⟩ := h0
  refine sjv (fun v1_ : Bool => ({ nt := 37, env := [(3, .ptr 3 0), (15, .d (.bool v1_))], box := [(3, [.d (.int .i64 a1.Known), .d (.int .i64 a1.Valid), .d (.slice (rowsF api_Unit_row a1.Units))])], vec := [] } : St)) (fun v1_ => v1 = v1_) (fun v1_ e => ?_) ?_
  · subst e
    refine tr_cond (b := v1) (by simp) (fun c3 => ?_) (fun c3 => ?_)
    · rw [if_pos c3] at h0
      refine kr [4] (by simp; rfl) ?_
      cases h0
      exact tr_ret ⟨[], by simp, rfl, by simp⟩
    · rw [if_neg (by rw [c3]; decide)] at h0
      refine tr_skip ?_
      refine tr_seq ?_
      refine kr [17, 18, 19] (by simp; rfl) ?_
      replace h0 := bnd h0; obtain ⟨e1, hI1, h0⟩ := h0
      refine tjv (fun v2 : Unit => ({ nt := 37, env := [], box := [], vec := [] } : St)) (fun v2 => .inl v2 = e1) (fun v2 hI1e _ W1 => ?_) ?_
      · subst hI1e
        dsimp only at h0
        refine tr_wk W1 ?_
        refine kr [4] (by simp; rfl) ?_
        cases h0
        exact tr_ret ⟨[], by simp, rfl, by simp⟩
      · refine tr_block (tr_iter (fun s3 : Int => ({ nt := 37, env := [(17, .d (.slice (rowsF api_Unit_row a1.Units))), (18, .d (.int .i64 ((a1.Units).length : Int))), (19, .d (.int .i64 s3))], box := [], vec := [] } : St)) hI1 (wk (by simp [weak_iff])) fun G1 s3 o1 h1 hg1 he1 => ?_)
        unfold ref32_Ended_l0 at h1
        refine kr [17, 18, 19, 20] (by simp; rfl) ?_
        refine tr_seq ?_
        refine tr_cond (b := (decide (s3 < ((a1.Units).length : Int)))) (by simp) (fun c12 => ?_) (fun c12 => ?_)
        · rw [if_pos c12] at h1
          refine tr_skip ?_
          refine tr_seq ?_
          refine tr_block ?_
          replace h1 := bnd h1; obtain ⟨x4, p3, h1⟩ := h1
          replace p3 := idx_some p3
          have p3' := p3; try simp at p3'
          refine kr [6, 17, 18, 19] (by simp [p3, p3']; rfl) ?_
          replace h1 := bnd h1; obtain ⟨v5, hvv5, h1⟩ := h1
          refine sjv (fun v5_ : Bool => ({ nt := 37, env := [(17, .d (.slice (rowsF api_Unit_row a1.Units))), (18, .d (.int .i64 ((a1.Units).length : Int))), (19, .d (.int .i64 s3)), (35, .d (.bool v5_))], box := [], vec := [] } : St)) (fun v5_ => v5 = v5_) (fun v5_ e => ?_) ?_
          · subst e
            refine tr_cond (b := v5) (by simp) (fun c17 => ?_) (fun c17 => ?_)
            · rw [if_pos c17] at h1
              refine kr [4] (by simp; rfl) ?_
              have k1 := he1 _ (Option.some.inj h1)
              subst k1
              dsimp only at h0
              cases h0
              exact tr_ret ⟨[], by simp, rfl, by simp⟩
            · rw [if_neg (by rw [c17]; decide)] at h1
              refine tr_skip ?_
              refine lr (by simp; rfl) ?_
              exact ⟨_, hg1 _ (Option.some.inj h1), wk (by simp [weak_iff])⟩
          · refine kc1 ?_
            refine ko [6, 17, 18, 19, 26] 4 (by simp; rfl) ?_
            refine tops_split 26 (!x4.Up) (by simp) (fun c18 => ?_) (fun c18 => ?_)
            · rw [c18] at hvv5
              refine kskip 3 [] (by kernel_rfl) ?_
              refine ko [6, 17, 18, 19, 31] 2 (by simp; rfl) ?_
              refine kskip 3 [] (by kernel_rfl) ?_
              refine ko [17, 18, 19, 35] 1 (by simp; rfl) ?_
              refine tops_nil ?_
              cases hvv5
              exact ⟨_, rfl, wk (by simp [weak_iff])⟩
            · rw [c18] at hvv5
              refine ko [6, 17, 18, 19, 27, 28, 29, 31] 5 (by simp; rfl) ?_
              refine tops_split 31 (x4.Stored != 2) (by simp) (fun c19 => ?_) (fun c19 => ?_)
              · rw [c19] at hvv5
                refine kskip 3 [] (by kernel_rfl) ?_
                refine ko [17, 18, 19, 27, 28, 29, 35] 1 (by simp; rfl) ?_
                refine tops_nil ?_
                cases hvv5
                exact ⟨_, rfl, wk (by simp [weak_iff])⟩
              · rw [c19] at hvv5
                refine ko [17, 18, 19, 27, 28, 29, 32, 33, 34, 35] 4 (by simp; rfl) ?_
                refine tops_nil ?_
                cases hvv5
                exact ⟨_, rfl, wk (by simp [weak_iff])⟩
        · rw [if_neg (by rw [c12]; decide)] at h1
          refine tr_exit ?_
          exact ⟨_, he1 _ (Option.some.inj h1), wk (by simp [weak_iff])⟩
  · refine kc1 ?_
    refine ko [3, 7, 8] 2 (by simp; rfl) ?_
    replace hvv1 := bnd hvv1; obtain ⟨y8, hy8, hvv1⟩ := hvv1
    refine kcall [3, 9] [] (ref32_Right_ok hy8) rfl rfl rfl Try.call22 (by simp) (by simp; rfl) ?_
    refine ko [3, 11] 2 (by simp; rfl) ?_
    refine tops_split 11 (!y8) (by simp) (fun c20 => ?_) (fun c20 => ?_)
    · rw [if_pos c20] at hvv1
      refine kskip 3 [] (by kernel_rfl) ?_
      refine ko [3, 15] 1 (by simp; rfl) ?_
      refine tops_nil ?_
      cases hvv1
      exact ⟨_, rfl, wk (by simp [weak_iff])⟩
    · rw [if_neg (by rw [c20]; decide)] at hvv1
      refine ko [3, 15] 4 (by simp; rfl) ?_
      refine tops_nil ?_
      cases hvv1
      exact ⟨_, rfl, wk (by simp [weak_iff])⟩
set_option maxHeartbeats 1000000 in
theorem ref32_Serves_ok {a0 : api_Fleet} {a1 : api_Rotation} {a2 : Int} {r : Bool} (h0 : ref32_Serves a0 a1 a2 = some r) : FnOK Try.prog 41 [] [.agg (api_Fleet_av a0), .agg (api_Rotation_av a1), .d (.int .i64 a2)] (.d (.bool r)) [] := by
  unfold ref32_Serves at h0
  refine fn_ok (nt := 38) (rs := [.tmp 6]) Try.func41 rfl Try.ntmps41 rfl (by simp) (by decide) rfl fun K => ?_
  refine kr [2, 3, 4] (by simp; rfl) ?_
  replace h0 := bnd h0; obtain ⟨v1, hvv1, h0⟩ := h0
  refine sjv (fun v1_ : Bool => ({ nt := 38, env := [(6, .d (.bool v1_))], box := [], vec := [] } : St)) (fun v1_ => v1 = v1_) (fun v1_ e => ?_) ?_
  · subst e
    cases h0
    exact tr_ret ⟨[], by simp, rfl, by simp⟩
  · refine kd1 [[], [], [0, 1], [2], [3], [3], [3, 5], [3, 6], [3, 7], [3, 4, 7, 8], [3, 7, 9], [7, 10], [7, 11], [7, 11, 12], [7, 11], [7, 11, 13, 14], [7, 11, 15], [7, 11, 16], [7, 11, 17], [7, 18], [7, 19], [7, 19, 20], [7, 19], [7, 19, 21, 22], [7, 19, 23], [7, 19, 24], [7, 19], [7, 19, 26], [7, 19, 25, 27], [7, 19, 28], [7, 19, 29], [7, 30]] [] [] none [] 32 fol (by decide +kernel) (by simp) ?_
    refine dr_go 0 2 rfl (by simp (maxSteps := 1000000); rfl) ?_
    replace hvv1 := bnd hvv1; obtain ⟨y2, hy2, hvv1⟩ := hvv1
    refine dr_call 2 [] (ref32_Right_ok hy2) rfl rfl rfl rfl rfl Try.call22 (by simp) ?_
    refine dr_go 3 1 rfl (by simp (maxSteps := 1000000); rfl) ?_
    refine dr_split 3 10 y2 (by simp) (fun c25 => ?_) (fun c25 => ?_)
    · rw [if_pos c25] at hvv1
      refine dr_go 4 2 rfl (by simp (maxSteps := 1000000); rfl) ?_
      refine dr_go 6 2 rfl (by simp (maxSteps := 1000000); rfl) ?_
      refine dr_go 8 1 rfl (by simp (maxSteps := 1000000); rfl) ?_
      replace hvv1 := bnd hvv1; obtain ⟨y3, hy3, hvv1⟩ := hvv1
      refine dr_call 9 [] (ref32_in_ok hy3) rfl rfl rfl rfl rfl Try.call74 (by simp) ?_
      refine dr_go 10 2 rfl (by simp (maxSteps := 1000000); rfl) ?_
      refine dr_split 11 18 y3 (by simp) (fun c26 => ?_) (fun c26 => ?_)
      · rw [if_pos c26] at hvv1
        replace hvv1 := bnd hvv1; obtain ⟨x4, p9, hvv1⟩ := hvv1
        replace p9 := idx_some p9
        have p9' := p9; try simp at p9'
        refine dr_go 12 2 rfl (by simp (maxSteps := 1000000) [p9, p9']; rfl) ?_
        refine dr_go 14 2 rfl (by simp (maxSteps := 1000000) [p9, p9']; rfl) ?_
        refine dr_go 16 2 rfl (by simp (maxSteps := 1000000) [p9, p9']; rfl) ?_
        refine dr_go 18 2 rfl (by simp (maxSteps := 1000000) [p9, p9']; rfl) ?_
        refine dr_split 19 26 x4.Up (by simp) (fun c27 => ?_) (fun c27 => ?_)
        · rw [if_pos c27] at hvv1
          refine dr_go 20 2 rfl (by simp (maxSteps := 1000000) [p9, p9']; rfl) ?_
          refine dr_go 22 2 rfl (by simp (maxSteps := 1000000) [p9, p9']; rfl) ?_
          refine dr_go 24 2 rfl (by simp (maxSteps := 1000000) [p9, p9']; rfl) ?_
          refine dr_go 26 2 rfl (by simp (maxSteps := 1000000) [p9, p9']; rfl) ?_
          refine dr_go 28 2 rfl (by simp (maxSteps := 1000000) [p9, p9']; rfl) ?_
          refine dr_go 30 2 rfl (by simp (maxSteps := 1000000) [p9, p9']; rfl) ?_
          refine dr_end rfl (tops_nil ?_)
          cases hvv1
          exact ⟨_, rfl, wk (by simp [weak_iff])⟩
        · rw [if_neg (by rw [c27]; decide)] at hvv1
          refine dr_skip 20 38 [some 27, some 28, some 29, some 30, some 31, some 32, some 33, some 34, some 35, some 36] rfl rfl (by decide) (by kernel_rfl) (by simp only [skEf, List.map_cons, List.map_nil, List.cons_append, List.nil_append]; rfl) ?_
          refine dr_go 30 2 rfl (by simp (maxSteps := 1000000); rfl) ?_
          refine dr_end rfl (tops_nil ?_)
          cases hvv1
          exact ⟨_, rfl, wk (by simp [weak_iff])⟩
      · rw [if_neg (by rw [c26]; decide)] at hvv1
        refine dr_skip 12 38 [some 19, some 20, some 21, some 22, some 23, some 24] rfl rfl (by decide) (by kernel_rfl) (by simp only [skEf, List.map_cons, List.map_nil, List.cons_append, List.nil_append]; rfl) ?_
        refine dr_go 18 2 rfl (by simp (maxSteps := 1000000); rfl) ?_
        refine dr_skip 20 38 [some 27, some 28, some 29, some 30, some 31, some 32, some 33, some 34, some 35, some 36] rfl rfl (by decide) (by kernel_rfl) (by simp only [skEf, List.map_cons, List.map_nil, List.cons_append, List.nil_append]; rfl) ?_
        refine dr_go 30 2 rfl (by simp (maxSteps := 1000000); rfl) ?_
        refine dr_end rfl (tops_nil ?_)
        cases hvv1
        exact ⟨_, rfl, wk (by simp [weak_iff])⟩
    · rw [if_neg (by rw [c25]; decide)] at hvv1
      refine dr_skip 4 38 [some 11, some 12, some 13, some 14, some 15, some 16] rfl rfl (by decide) (by kernel_rfl) (by simp only [skEf, List.map_cons, List.map_nil, List.cons_append, List.nil_append]; rfl) ?_
      refine dr_go 10 2 rfl (by simp (maxSteps := 1000000); rfl) ?_
      refine dr_skip 12 38 [some 19, some 20, some 21, some 22, some 23, some 24] rfl rfl (by decide) (by kernel_rfl) (by simp only [skEf, List.map_cons, List.map_nil, List.cons_append, List.nil_append]; rfl) ?_
      refine dr_go 18 2 rfl (by simp (maxSteps := 1000000); rfl) ?_
      refine dr_skip 20 38 [some 27, some 28, some 29, some 30, some 31, some 32, some 33, some 34, some 35, some 36] rfl rfl (by decide) (by kernel_rfl) (by simp only [skEf, List.map_cons, List.map_nil, List.cons_append, List.nil_append]; rfl) ?_
      refine dr_go 30 2 rfl (by simp (maxSteps := 1000000); rfl) ?_
      refine dr_end rfl (tops_nil ?_)
      cases hvv1
      exact ⟨_, rfl, wk (by simp [weak_iff])⟩
set_option maxHeartbeats 1000000 in
theorem ref32_Served_ok {a0 : api_Fleet} {a1 : api_Rotation} {r : (List Int)} (h0 : ref32_Served a0 a1 = some r) : FnOK Try.prog 37 [] [.agg (api_Fleet_av a0), .agg (api_Rotation_av a1)] (.d (.slice (rowsF (iRow .i64) r))) [] := by
  unfold ref32_Served at h0
  refine fn_ok (nt := 36) (rs := [.tmp 4]) Try.func37 rfl Try.ntmps37 rfl (by simp) (by decide) rfl fun K => ?_
  refine kr [2, 3] (by simp; rfl) ?_
  refine kr [2, 3, 5] (by simp; rfl) ?_
  refine tr_seq ?_
  refine kc ?_
  refine ko [2, 3, 5, 10] 1 (by simp; rfl) ?_
  replace h0 := bnd h0; obtain ⟨y1, hy1, h0⟩ := h0
  refine kcall [2, 3, 5, 11] [] (ref32_Pools_ok hy1) rfl rfl rfl Try.call33 (by simp) (by simp; rfl) ?_
  refine ko [2, 3, 5, 11, 12, 13] 2 (by simp; rfl) ?_
  refine tops_nil ?_
  refine tr_wk (wk_own 5 32 3 1 (by simp) (by simp)) ?_
  replace h0 := bnd h0; obtain ⟨e1, hI1, h0⟩ := h0
  refine tjv (fun v2 : (List Int) => ({ nt := 36, env := [(5, .vec 32)], box := [], vec := [(32, ⟨3, 1, rowsF (iRow .i64) v2⟩)] } : St)) (fun v2 => v2 = e1) (fun v2 hI1e _ W1 => ?_) ?_
  · subst hI1e
    refine tr_wk W1 ?_
    refine kr [4] (by simp; rfl) ?_
    cases h0
    exact tr_ret ⟨[32], by simp, rfl, by simp⟩
  · refine tr_block (tr_iter (fun s3 : Int × (List Int) => ({ nt := 36, env := [(2, .ptr 2 0), (3, .ptr 3 0), (5, .vec 32), (11, .d (.slice (rowsF (iRow .i64) y1))), (12, .d (.int .i64 ((y1).length : Int))), (13, .d (.int .i64 s3.1))], box := [(2, [.d (.int .i64 a0.Slots), .d (.slice (rowsF api_Consumer_row a0.Consumers))]), (3, [.d (.int .i64 a1.Known), .d (.int .i64 a1.Valid), .d (.slice (rowsF api_Unit_row a1.Units))])], vec := [(32, ⟨3, 1, rowsF (iRow .i64) s3.2⟩)] } : St)) hI1 (wk (by simp [weak_iff])) fun G1 s3 o1 h1 hg1 he1 => ?_)
    unfold ref32_Served_l0 at h1
    refine kr [2, 3, 5, 11, 12, 13, 14] (by simp; rfl) ?_
    refine tr_seq ?_
    refine tr_cond (b := (decide (s3.1 < ((y1).length : Int)))) (by simp) (fun c20 => ?_) (fun c20 => ?_)
    · rw [if_pos c20] at h1
      refine tr_skip ?_
      refine tr_seq ?_
      refine tr_block ?_
      replace h1 := bnd h1; obtain ⟨x4, p18, h1⟩ := h1
      replace p18 := idx_some p18
      have p18' := p18; try simp at p18'
      refine kr [2, 3, 5, 7, 11, 12, 13] (by simp [p18, p18']; rfl) ?_
      refine kc ?_
      refine ko [2, 3, 5, 7, 11, 12, 13, 17, 18] 2 (by simp; rfl) ?_
      replace h1 := bnd h1; obtain ⟨y5, hy5, h1⟩ := h1
      refine kcall [2, 3, 5, 7, 11, 12, 13, 19] [] (ref32_Units_ok hy5) rfl rfl rfl Try.call40 (by simp) (by simp; rfl) ?_
      refine ko [2, 3, 5, 7, 11, 12, 13, 19, 20, 21] 2 (by simp; rfl) ?_
      refine tops_nil ?_
      replace h1 := bnd h1; obtain ⟨e2, hI2, h1⟩ := h1
      refine tjv (fun v6 : (List Int) => ({ nt := 36, env := [(2, .ptr 2 0), (3, .ptr 3 0), (5, .vec 32), (11, .d (.slice (rowsF (iRow .i64) y1))), (12, .d (.int .i64 ((y1).length : Int))), (13, .d (.int .i64 s3.1))], box := [(2, [.d (.int .i64 a0.Slots), .d (.slice (rowsF api_Consumer_row a0.Consumers))]), (3, [.d (.int .i64 a1.Known), .d (.int .i64 a1.Valid), .d (.slice (rowsF api_Unit_row a1.Units))])], vec := [(32, ⟨3, 1, rowsF (iRow .i64) v6⟩)] } : St)) (fun v6 => v6 = e2) (fun v6 hI2e _ W2 => ?_) ?_
      · subst hI2e
        refine tr_wk W2 ?_
        refine lr (by simp; rfl) ?_
        exact ⟨_, hg1 _ (Option.some.inj h1), wk (by simp [weak_iff])⟩
      · refine tr_block (tr_iter (fun s7 : Int => ({ nt := 36, env := [(2, .ptr 2 0), (3, .ptr 3 0), (5, .vec 32), (7, .d (.int .i64 x4)), (11, .d (.slice (rowsF (iRow .i64) y1))), (12, .d (.int .i64 ((y1).length : Int))), (13, .d (.int .i64 s3.1)), (19, .d (.slice (rowsF (iRow .i64) y5))), (20, .d (.int .i64 ((y5).length : Int))), (21, .d (.int .i64 s7))], box := [(2, [.d (.int .i64 a0.Slots), .d (.slice (rowsF api_Consumer_row a0.Consumers))]), (3, [.d (.int .i64 a1.Known), .d (.int .i64 a1.Valid), .d (.slice (rowsF api_Unit_row a1.Units))])], vec := [(32, ⟨3, 1, rowsF (iRow .i64) s3.2⟩)] } : St)) hI2 (wk (by simp [weak_iff])) fun G2 s7 o2 h2 hg2 he2 => ?_)
        unfold ref32_Served_l1 at h2
        refine kr [2, 3, 5, 7, 11, 12, 13, 19, 20, 21, 22] (by simp; rfl) ?_
        refine tr_seq ?_
        refine tr_cond (b := (decide (s7 < ((y5).length : Int)))) (by simp) (fun c25 => ?_) (fun c25 => ?_)
        · rw [if_pos c25] at h2
          refine tr_skip ?_
          refine tr_seq ?_
          refine tr_block ?_
          replace h2 := bnd h2; obtain ⟨x8, p23, h2⟩ := h2
          replace p23 := idx_some p23
          have p23' := p23; try simp at p23'
          refine kr [2, 3, 5, 7, 9, 11, 12, 13, 19, 20, 21] (by simp [p23, p23']; rfl) ?_
          refine kc ?_
          refine ko [2, 3, 5, 7, 11, 12, 13, 19, 20, 21, 25, 26, 27] 3 (by simp; rfl) ?_
          replace h2 := bnd h2; obtain ⟨y9, hy9, h2⟩ := h2
          refine kcall [2, 3, 5, 7, 11, 12, 13, 19, 20, 21, 28] [] (ref32_Serves_ok hy9) rfl rfl rfl Try.call41 (by simp) (by simp; rfl) ?_
          refine tops_nil ?_
          refine tr_cond (b := y9) (by simp) (fun c26 => ?_) (fun c26 => ?_)
          · rw [if_pos c26] at h2
            replace h2 := bnd h2; obtain ⟨_, p24, h2⟩ := h2
            replace p24 := ck_some p24
            have p24' := p24; try simp at p24'
            refine kr [2, 3, 5, 11, 12, 13] (by simp [p24, p24']; rfl) ?_
            refine tr_exit ?_
            exact ⟨_, he2 _ (Option.some.inj h2), wk (by simp [weak_iff])⟩
          · rw [if_neg (by rw [c26]; decide)] at h2
            refine tr_skip ?_
            refine lr (by simp; rfl) ?_
            exact ⟨_, hg2 _ (Option.some.inj h2), wk (by simp [weak_iff])⟩
        · rw [if_neg (by rw [c25]; decide)] at h2
          refine tr_exit ?_
          exact ⟨_, he2 _ (Option.some.inj h2), wk (by simp [weak_iff])⟩
    · rw [if_neg (by rw [c20]; decide)] at h1
      refine tr_exit ?_
      exact ⟨_, he1 _ (Option.some.inj h1), wk (by simp [weak_iff])⟩
set_option maxHeartbeats 1000000 in
theorem law32_FleetExact_ok {a0 : List Int} {a1 : api_Fleet} {a2 : api_Rotation} {a3 : Int} {a4 : Int} {r : Bool} (h0 : law32_FleetExact a0 a1 a2 a3 a4 = some r) : FnOK Try.prog 4 [] [.d (.slice (rowsF (iRow .i64) a0)), .agg (api_Fleet_av a1), .agg (api_Rotation_av a2), .d (.int .i64 a3), .d (.int .i64 a4)] (.d (.bool r)) [] := by
  unfold law32_FleetExact at h0
  refine fn_ok (nt := 169) (rs := [.tmp 10]) Try.func4 rfl Try.ntmps4 rfl (by simp) (by decide) rfl fun K => ?_
  refine kr [0, 3, 4, 6, 7] (by simp; rfl) ?_
  refine tr_seq ?_
  replace h0 := bnd h0; obtain ⟨v1, hvv1, h0⟩ := h0
  refine sjv (fun v1_ : Bool => ({ nt := 169, env := [(0, .d (.slice (rowsF (iRow .i64) a0))), (3, .d (.int .i64 a3)), (4, .d (.int .i64 a4)), (6, .ptr 6 0), (7, .ptr 7 0), (39, .d (.bool v1_))], box := [(6, [.d (.int .i64 a1.Slots), .d (.slice (rowsF api_Consumer_row a1.Consumers))]), (7, [.d (.int .i64 a2.Known), .d (.int .i64 a2.Valid), .d (.slice (rowsF api_Unit_row a2.Units))])], vec := [] } : St)) (fun v1_ => v1 = v1_) (fun v1_ e => ?_) ?_
  · subst e
    refine tr_cond (b := v1) (by simp) (fun c5 => ?_) (fun c5 => ?_)
    · rw [if_pos c5] at h0
      refine kc ?_
      replace h0 := bnd h0; obtain ⟨y2, hy2, h0⟩ := h0
      refine kcall [40] [] (law32_awake_ok hy2) rfl rfl rfl Try.call17 (by simp) (by simp; rfl) ?_
      refine ko [10] 1 (by simp; rfl) ?_
      refine tops_nil ?_
      cases h0
      exact tr_ret ⟨[], by simp, rfl, by simp⟩
    · rw [if_neg (by rw [c5]; decide)] at h0
      refine tr_skip ?_
      refine kr [3, 4, 6, 7, 11] (by simp; rfl) ?_
      refine kc ?_
      refine ko [3, 4, 6, 7, 11, 44] 1 (by simp; rfl) ?_
      replace h0 := bnd h0; obtain ⟨y3, hy3, h0⟩ := h0
      refine kcall [3, 4, 6, 7, 11, 45] [43] (make_Fleet_ok hy3) rfl rfl rfl Try.call18 (by simp) (by simp; rfl) ?_
      refine ko [3, 4, 6, 7, 11, 12] 2 (by simp; rfl) ?_
      refine tops_nil ?_
      refine kr [3, 4, 6, 7, 11, 12, 13] (by simp; rfl) ?_
      refine kc ?_
      refine ko [3, 4, 6, 7, 11, 12, 13, 47] 1 (by simp; rfl) ?_
      replace h0 := bnd h0; obtain ⟨y4, hy4, h0⟩ := h0
      refine kcall [3, 4, 6, 7, 11, 12, 13, 48] [43] (make_Tape_Between_ok hy4) rfl rfl rfl Try.call25 (by simp) (by simp; rfl) ?_
      refine ko [3, 4, 6, 7, 11, 12, 13] 2 (by simp; rfl) ?_
      refine tops_nil ?_
      refine kc ?_
      refine ko [3, 4, 6, 7, 11, 12, 13, 50, 51] 2 (by simp; rfl) ?_
      replace h0 := bnd h0; obtain ⟨y5, hy5, h0⟩ := h0
      refine kcall [3, 4, 6, 7, 11, 12, 13, 52] [43] (make_State_ok hy5) rfl rfl rfl Try.call19 (by simp) (by simp; rfl) ?_
      refine ko [3, 4, 6, 7, 11, 12, 13, 14] 2 (by simp; rfl) ?_
      refine tops_nil ?_
      refine tr_seq ?_
      refine kr [3, 4, 7, 11, 14, 56, 57] (by simp; rfl) ?_
      replace h0 := bnd h0; obtain ⟨l6, hl6, h0⟩ := h0
      replace hl6 := Option.some.inj hl6
      replace h0 := bnd h0; obtain ⟨e1, hI1, h0⟩ := h0
      refine tjv (fun v7 : Unit => ({ nt := 169, env := [], box := [], vec := [] } : St)) (fun v7 => .inl v7 = e1) (fun v7 hI1e _ W1 => ?_) ?_
      · subst hI1e
        dsimp only at h0
        refine tr_wk W1 ?_
        refine kc ?_
        replace h0 := bnd h0; obtain ⟨y8, hy8, h0⟩ := h0
        refine kcall [168] [] (law32_awake_ok hy8) rfl rfl rfl Try.call17 (by simp) (by simp; rfl) ?_
        refine ko [10] 1 (by simp; rfl) ?_
        refine tops_nil ?_
        cases h0
        exact tr_ret ⟨[], by simp, rfl, by simp⟩
      · refine tr_block (tr_iter (fun s9 : Int × (List Int) × Int => ({ nt := 169, env := [(3, .d (.int .i64 a3)), (4, .d (.int .i64 a4)), (7, .ptr 7 0), (11, .ptr 43 0), (14, .ptr 14 0), (56, .agg (arC api_Fleet_row l6)), (57, .d (.int .i64 s9.1))], box := [(7, [.d (.int .i64 a2.Known), .d (.int .i64 a2.Valid), .d (.slice (rowsF api_Unit_row a2.Units))]), (14, [.d (.int .i64 y5.1.Known), .d (.int .i64 y5.1.Valid), .d (.slice (rowsF api_Unit_row y5.1.Units))]), (43, [.d (.slice (rowsF (iRow .i64) s9.2.1)), .d (.int .i64 s9.2.2)])], vec := [] } : St)) hI1 (wk (by subst hl6; simp [weak_iff])) fun G1 s9 o1 h1 hg1 he1 => ?_)
        unfold law32_FleetExact_l0 at h1
        refine kr [3, 4, 7, 11, 14, 56, 57, 58] (by simp; rfl) ?_
        refine tr_seq ?_
        refine tr_cond (b := (decide (s9.1 < 3))) (by simp) (fun c100 => ?_) (fun c100 => ?_)
        · rw [if_pos c100] at h1
          refine tr_skip ?_
          refine tr_seq ?_
          refine tr_block ?_
          replace h1 := bnd h1; obtain ⟨_, p43, h1⟩ := h1
          replace p43 := ck_some p43
          have p43' := p43; try simp at p43'
          replace h1 := bnd h1; obtain ⟨x10, p44, h1⟩ := h1
          replace p44 := idx_some p44
          have p44' := p44; try simp at p44'
          have ix45 : indexVA Try.prog 43 (.agg (arC api_Fleet_row l6)) s9.1 = some (.agg [.d (.int .i64 x10.Slots), .d (.slice (rowsF api_Consumer_row x10.Consumers))]) := indexVA_arC Try.underlying43 sz29 p44.1 p43 p44.2 (by simp) (by simp)
          refine kr [3, 4, 7, 11, 14, 16, 56, 57] (by simp [p43, p44, ix45, -indexVA, p43', p44']; rfl) ?_
          refine kc ?_
          refine ko [3, 4, 7, 11, 14, 16, 56, 57, 61] 1 (by simp; rfl) ?_
          replace h1 := bnd h1; obtain ⟨y11, hy11, h1⟩ := h1
          refine kcall [3, 4, 7, 11, 14, 16, 56, 57, 62] [] (fleet_Start_ok hy11) rfl rfl rfl Try.call26 (by simp) (by simp; rfl) ?_
          refine ko [3, 4, 7, 11, 14, 16, 17, 18, 56, 57] 6 (by simp; rfl) ?_
          refine tops_nil ?_
          refine kc ?_
          refine ko [3, 4, 7, 11, 14, 16, 17, 18, 56, 57, 66] 1 (by simp; rfl) ?_
          replace h1 := bnd h1; obtain ⟨y12, hy12, h1⟩ := h1
          refine kcall [3, 4, 7, 11, 14, 16, 17, 18, 56, 57, 67] [] (ref32_Start_ok hy12) rfl rfl rfl Try.call27 (by simp) (by simp; rfl) ?_
          refine ko [3, 4, 7, 11, 14, 16, 17, 18, 19, 20, 56, 57] 6 (by simp; rfl) ?_
          refine tops_nil ?_
          refine tr_seq ?_
          replace h1 := bnd h1; obtain ⟨v13, hvv13, h1⟩ := h1
          refine sjv (fun v13_ : Bool => ({ nt := 169, env := [(3, .d (.int .i64 a3)), (4, .d (.int .i64 a4)), (7, .ptr 7 0), (11, .ptr 43 0), (14, .ptr 14 0), (16, .ptr 16 0), (19, .ptr 19 0), (56, .agg (arC api_Fleet_row l6)), (57, .d (.int .i64 s9.1)), (93, .d (.bool v13_))], box := [(7, [.d (.int .i64 a2.Known), .d (.int .i64 a2.Valid), .d (.slice (rowsF api_Unit_row a2.Units))]), (14, [.d (.int .i64 y5.1.Known), .d (.int .i64 y5.1.Valid), .d (.slice (rowsF api_Unit_row y5.1.Units))]), (16, [.d (.int .i64 x10.Slots), .d (.slice (rowsF api_Consumer_row x10.Consumers))]), (19, [.d (.int .i64 y12.1.Known), .d (.int .i64 y12.1.Valid), .d (.slice (rowsF api_Unit_row y12.1.Units))]), (43, [.d (.slice (rowsF (iRow .i64) s9.2.1)), .d (.int .i64 s9.2.2)])], vec := [] } : St)) (fun v13_ => v13 = v13_) (fun v13_ e => ?_) ?_
          · subst e
            refine tr_cond (b := v13) (by simp) (fun c119 => ?_) (fun c119 => ?_)
            · rw [if_pos c119] at h1
              refine kr [10] (by simp; rfl) ?_
              have k1 := he1 _ (Option.some.inj h1)
              subst k1
              dsimp only at h0
              cases h0
              exact tr_ret ⟨[], by simp, rfl, by simp⟩
            · rw [if_neg (by rw [c119]; decide)] at h1
              refine tr_skip ?_
              refine kd [[], [], [], [1, 2], [], [], [0, 3, 4, 5], []] [3] [(43, [3])] none [] 8 fol (by decide +kernel) (by simp) ?_
              refine dr_go 0 2 rfl (by simp (maxSteps := 1000000); rfl) ?_
              refine dr_go 2 1 rfl (by simp (maxSteps := 1000000); rfl) ?_
              replace h1 := bnd h1; obtain ⟨y14, hy14, h1⟩ := h1
              refine dr_call 3 [43] (law32_bend_ok hy14) rfl rfl rfl rfl rfl Try.call34 (by simp) ?_
              refine dr_go 4 2 rfl (by simp (maxSteps := 1000000); rfl) ?_
              refine dr_go 6 2 rfl (by simp (maxSteps := 1000000); rfl) ?_
              refine dr_end rfl (tops_nil ?_)
              replace h1 := bnd h1; obtain ⟨l15, hl15, h1⟩ := h1
              replace hl15 := Option.some.inj hl15
              replace h1 := bnd h1; obtain ⟨e2, hI2, h1⟩ := h1
              refine tjv (fun v16 : (List Int) × Int => ({ nt := 169, env := [(3, .d (.int .i64 a3)), (4, .d (.int .i64 a4)), (7, .ptr 7 0), (11, .ptr 43 0), (14, .ptr 14 0), (56, .agg (arC api_Fleet_row l6)), (57, .d (.int .i64 s9.1))], box := [(7, [.d (.int .i64 a2.Known), .d (.int .i64 a2.Valid), .d (.slice (rowsF api_Unit_row a2.Units))]), (14, [.d (.int .i64 y5.1.Known), .d (.int .i64 y5.1.Valid), .d (.slice (rowsF api_Unit_row y5.1.Units))]), (43, [.d (.slice (rowsF (iRow .i64) v16.1)), .d (.int .i64 v16.2)])], vec := [] } : St)) (fun v16 => .inl v16 = e2) (fun v16 hI2e _ W2 => ?_) ?_
              · subst hI2e
                dsimp only at h1
                refine tr_wk W2 ?_
                refine lr (by simp; rfl) ?_
                exact ⟨_, hg1 _ (Option.some.inj h1), wk (by simp [weak_iff])⟩
              · refine tr_block (tr_iter (fun s17 : Int × (List Int) × Int => ({ nt := 169, env := [(3, .d (.int .i64 a3)), (4, .d (.int .i64 a4)), (7, .ptr 7 0), (11, .ptr 43 0), (14, .ptr 14 0), (16, .ptr 16 0), (56, .agg (arC api_Fleet_row l6)), (57, .d (.int .i64 s9.1)), (100, .agg (arC api_Rotation_row l15)), (101, .d (.int .i64 s17.1))], box := [(7, [.d (.int .i64 a2.Known), .d (.int .i64 a2.Valid), .d (.slice (rowsF api_Unit_row a2.Units))]), (14, [.d (.int .i64 y5.1.Known), .d (.int .i64 y5.1.Valid), .d (.slice (rowsF api_Unit_row y5.1.Units))]), (16, [.d (.int .i64 x10.Slots), .d (.slice (rowsF api_Consumer_row x10.Consumers))]), (43, [.d (.slice (rowsF (iRow .i64) s17.2.1)), .d (.int .i64 s17.2.2)])], vec := [] } : St)) hI2 (wk (by subst hl15; simp [weak_iff])) fun G2 s17 o2 h2 hg2 he2 => ?_)
                unfold law32_FleetExact_l1 at h2
                refine kr [3, 4, 7, 11, 14, 16, 56, 57, 100, 101, 102] (by simp; rfl) ?_
                refine tr_seq ?_
                refine tr_cond (b := (decide (s17.1 < 4))) (by simp) (fun c156 => ?_) (fun c156 => ?_)
                · rw [if_pos c156] at h2
                  refine tr_skip ?_
                  refine tr_seq ?_
                  refine tr_block ?_
                  replace h2 := bnd h2; obtain ⟨_, p64, h2⟩ := h2
                  replace p64 := ck_some p64
                  have p64' := p64; try simp at p64'
                  replace h2 := bnd h2; obtain ⟨x18, p65, h2⟩ := h2
                  replace p65 := idx_some p65
                  have p65' := p65; try simp at p65'
                  have ix66 : indexVA Try.prog 52 (.agg (arC api_Rotation_row l15)) s17.1 = some (.agg [.d (.int .i64 x18.Known), .d (.int .i64 x18.Valid), .d (.slice (rowsF api_Unit_row x18.Units))]) := indexVA_arC Try.underlying52 sz33 p65.1 p64 p65.2 (by simp) (by simp)
                  refine kr [3, 4, 7, 11, 14, 16, 22, 56, 57, 100, 101] (by simp [p64, p65, ix66, -indexVA, p64', p65']; rfl) ?_
                  refine tr_seq ?_
                  replace h2 := bnd h2; obtain ⟨v19, hvv19, h2⟩ := h2
                  refine sjv (fun v19_ : Bool => ({ nt := 169, env := [(3, .d (.int .i64 a3)), (4, .d (.int .i64 a4)), (7, .ptr 7 0), (11, .ptr 43 0), (14, .ptr 14 0), (16, .ptr 16 0), (22, .ptr 22 0), (56, .agg (arC api_Fleet_row l6)), (57, .d (.int .i64 s9.1)), (100, .agg (arC api_Rotation_row l15)), (101, .d (.int .i64 s17.1)), (129, .d (.bool v19_))], box := [(7, [.d (.int .i64 a2.Known), .d (.int .i64 a2.Valid), .d (.slice (rowsF api_Unit_row a2.Units))]), (14, [.d (.int .i64 y5.1.Known), .d (.int .i64 y5.1.Valid), .d (.slice (rowsF api_Unit_row y5.1.Units))]), (16, [.d (.int .i64 x10.Slots), .d (.slice (rowsF api_Consumer_row x10.Consumers))]), (22, [.d (.int .i64 x18.Known), .d (.int .i64 x18.Valid), .d (.slice (rowsF api_Unit_row x18.Units))]), (43, [.d (.slice (rowsF (iRow .i64) s17.2.1)), .d (.int .i64 s17.2.2)])], vec := [] } : St)) (fun v19_ => v19 = v19_) (fun v19_ e => ?_) ?_
                  · subst e
                    refine tr_cond (b := v19) (by simp) (fun c169 => ?_) (fun c169 => ?_)
                    · rw [if_pos c169] at h2
                      refine kr [10] (by simp; rfl) ?_
                      have k2 := he2 _ (Option.some.inj h2)
                      subst k2
                      dsimp only at h1
                      have k1 := he1 _ (Option.some.inj h1)
                      subst k1
                      dsimp only at h0
                      cases h0
                      exact tr_ret ⟨[], by simp, rfl, by simp⟩
                    · rw [if_neg (by rw [c169]; decide)] at h2
                      refine tr_skip ?_
                      refine kc ?_
                      refine ko [3, 4, 7, 11, 14, 16, 22, 56, 57, 100, 101, 132, 133] 4 (by simp; rfl) ?_
                      replace h2 := bnd h2; obtain ⟨y20, hy20, h2⟩ := h2
                      refine kcall [3, 4, 7, 11, 14, 16, 22, 56, 57, 100, 101, 132, 134] [43] (make_Tape_Next_ok hy20) rfl rfl rfl Try.call38 (by simp) (by simp; rfl) ?_
                      refine ko [3, 4, 7, 11, 14, 16, 22, 56, 57, 100, 101, 132, 134, 135] 1 (by simp; rfl) ?_
                      replace h2 := bnd h2; obtain ⟨y21, hy21, h2⟩ := h2
                      refine kcall [3, 4, 7, 11, 14, 16, 22, 56, 57, 100, 101, 132, 134, 136] [43] (make_Tape_Between_ok hy21) rfl rfl rfl Try.call25 (by simp) (by simp; rfl) ?_
                      refine ko [3, 4, 7, 11, 14, 16, 22, 56, 57, 100, 101, 138, 139] 3 (by simp; rfl) ?_
                      refine tops_nil ?_
                      replace h2 := bnd h2; obtain ⟨l22, hl22, h2⟩ := h2
                      replace hl22 := Option.some.inj hl22
                      replace h2 := bnd h2; obtain ⟨e3, hI3, h2⟩ := h2
                      refine tjv (fun v23 : Unit => ({ nt := 169, env := [(3, .d (.int .i64 a3)), (4, .d (.int .i64 a4)), (7, .ptr 7 0), (11, .ptr 43 0), (14, .ptr 14 0), (16, .ptr 16 0), (56, .agg (arC api_Fleet_row l6)), (57, .d (.int .i64 s9.1)), (100, .agg (arC api_Rotation_row l15)), (101, .d (.int .i64 s17.1))], box := [(7, [.d (.int .i64 a2.Known), .d (.int .i64 a2.Valid), .d (.slice (rowsF api_Unit_row a2.Units))]), (14, [.d (.int .i64 y5.1.Known), .d (.int .i64 y5.1.Valid), .d (.slice (rowsF api_Unit_row y5.1.Units))]), (16, [.d (.int .i64 x10.Slots), .d (.slice (rowsF api_Consumer_row x10.Consumers))]), (43, [.d (.slice (rowsF (iRow .i64) y21.2.L)), .d (.int .i64 y21.2.at_)])], vec := [] } : St)) (fun v23 => .inl v23 = e3) (fun v23 hI3e _ W3 => ?_) ?_
                      · subst hI3e
                        dsimp only at h2
                        refine tr_wk W3 ?_
                        refine lr (by simp; rfl) ?_
                        exact ⟨_, hg2 _ (Option.some.inj h2), wk (by simp [weak_iff])⟩
                      · refine tr_block (tr_iter (fun s24 : Int => ({ nt := 169, env := [(3, .d (.int .i64 a3)), (4, .d (.int .i64 a4)), (7, .ptr 7 0), (11, .ptr 43 0), (14, .ptr 14 0), (16, .ptr 16 0), (22, .ptr 22 0), (56, .agg (arC api_Fleet_row l6)), (57, .d (.int .i64 s9.1)), (100, .agg (arC api_Rotation_row l15)), (101, .d (.int .i64 s17.1)), (138, .agg (arC (arRow 2 (iRow .i64)) l22)), (139, .d (.int .i64 s24))], box := [(7, [.d (.int .i64 a2.Known), .d (.int .i64 a2.Valid), .d (.slice (rowsF api_Unit_row a2.Units))]), (14, [.d (.int .i64 y5.1.Known), .d (.int .i64 y5.1.Valid), .d (.slice (rowsF api_Unit_row y5.1.Units))]), (16, [.d (.int .i64 x10.Slots), .d (.slice (rowsF api_Consumer_row x10.Consumers))]), (22, [.d (.int .i64 x18.Known), .d (.int .i64 x18.Valid), .d (.slice (rowsF api_Unit_row x18.Units))]), (43, [.d (.slice (rowsF (iRow .i64) y21.2.L)), .d (.int .i64 y21.2.at_)])], vec := [] } : St)) hI3 (wk (by subst hl22; simp [weak_iff])) fun G3 s24 o3 h3 hg3 he3 => ?_)
                        unfold law32_FleetExact_l2 at h3
                        refine kr [3, 4, 7, 11, 14, 16, 22, 56, 57, 100, 101, 138, 139, 140] (by simp; rfl) ?_
                        refine tr_seq ?_
                        refine tr_cond (b := (decide (s24 < 2))) (by simp) (fun c180 => ?_) (fun c180 => ?_)
                        · rw [if_pos c180] at h3
                          refine tr_skip ?_
                          refine tr_seq ?_
                          refine tr_block ?_
                          replace h3 := bnd h3; obtain ⟨_, p73, h3⟩ := h3
                          replace p73 := ck_some p73
                          have p73' := p73; try simp at p73'
                          replace h3 := bnd h3; obtain ⟨x25, p74, h3⟩ := h3
                          replace p74 := idx_some p74
                          have p74' := p74; try simp at p74'
                          have ix75 : indexVA Try.prog 55 (.agg (arC (arRow 2 (iRow .i64)) l22)) s24 = some (.agg [.d (.int .i64 (arD x25 0)), .d (.int .i64 (arD x25 1))]) := indexVA_arC Try.underlying55 sz53 p74.1 p73 p74.2 (by simp) (by simp)
                          refine kr [3, 4, 7, 11, 14, 16, 22, 24, 56, 57, 100, 101, 138, 139] (by simp [p73, p74, ix75, -indexVA, p73', p74']; rfl) ?_
                          replace h3 := bnd h3; obtain ⟨v26, hvv26, h3⟩ := h3
                          refine sjv (fun v26_ : Bool => ({ nt := 169, env := [(3, .d (.int .i64 a3)), (4, .d (.int .i64 a4)), (7, .ptr 7 0), (11, .ptr 43 0), (14, .ptr 14 0), (16, .ptr 16 0), (22, .ptr 22 0), (56, .agg (arC api_Fleet_row l6)), (57, .d (.int .i64 s9.1)), (100, .agg (arC api_Rotation_row l15)), (101, .d (.int .i64 s17.1)), (138, .agg (arC (arRow 2 (iRow .i64)) l22)), (139, .d (.int .i64 s24)), (164, .d (.bool v26_))], box := [(7, [.d (.int .i64 a2.Known), .d (.int .i64 a2.Valid), .d (.slice (rowsF api_Unit_row a2.Units))]), (14, [.d (.int .i64 y5.1.Known), .d (.int .i64 y5.1.Valid), .d (.slice (rowsF api_Unit_row y5.1.Units))]), (16, [.d (.int .i64 x10.Slots), .d (.slice (rowsF api_Consumer_row x10.Consumers))]), (22, [.d (.int .i64 x18.Known), .d (.int .i64 x18.Valid), .d (.slice (rowsF api_Unit_row x18.Units))]), (43, [.d (.slice (rowsF (iRow .i64) y21.2.L)), .d (.int .i64 y21.2.at_)])], vec := [] } : St)) (fun v26_ => v26 = v26_) (fun v26_ e => ?_) ?_
                          · subst e
                            refine tr_cond (b := v26) (by simp) (fun c187 => ?_) (fun c187 => ?_)
                            · rw [if_pos c187] at h3
                              refine kr [10] (by simp; rfl) ?_
                              have k3 := he3 _ (Option.some.inj h3)
                              subst k3
                              dsimp only at h2
                              have k2 := he2 _ (Option.some.inj h2)
                              subst k2
                              dsimp only at h1
                              have k1 := he1 _ (Option.some.inj h1)
                              subst k1
                              dsimp only at h0
                              cases h0
                              exact tr_ret ⟨[], by simp, rfl, by simp⟩
                            · rw [if_neg (by rw [c187]; decide)] at h3
                              refine tr_skip ?_
                              refine lr (by simp; rfl) ?_
                              exact ⟨_, hg3 _ (Option.some.inj h3), wk (by simp [weak_iff])⟩
                          · refine kd1 [[], [], [1], [0, 2], [], [], [5], [4, 6], [3, 7], [8], [9], [10], [10], [10], [10, 13], [10, 11, 12, 14], [10], [10], [10], [10, 18], [10, 16, 17, 19], [10, 15, 20], [10, 21]] [] [] none [] 23 fol (by decide +kernel) (by simp) ?_
                            refine dr_go 0 2 rfl (by simp (maxSteps := 1000000); rfl) ?_
                            refine dr_go 2 1 rfl (by simp (maxSteps := 1000000); rfl) ?_
                            replace hvv26 := bnd hvv26; obtain ⟨y27, hy27, hvv26⟩ := hvv26
                            refine dr_call 3 [] (fleet_Units_ok hy27) rfl rfl rfl rfl rfl Try.call39 (by simp) ?_
                            refine dr_go 4 2 rfl (by simp (maxSteps := 1000000); rfl) ?_
                            refine dr_go 6 1 rfl (by simp (maxSteps := 1000000); rfl) ?_
                            replace hvv26 := bnd hvv26; obtain ⟨y28, hy28, hvv26⟩ := hvv26
                            refine dr_call 7 [] (ref32_Units_ok hy28) rfl rfl rfl rfl rfl Try.call40 (by simp) ?_
                            replace hvv26 := bnd hvv26; obtain ⟨y29, hy29, hvv26⟩ := hvv26
                            refine dr_call 8 [] (ref23_Ints_ok hy29) rfl rfl rfl rfl rfl Try.call31 (by simp) ?_
                            refine dr_go 9 2 rfl (by simp (maxSteps := 1000000); rfl) ?_
                            refine dr_split 10 152 (!y29) (by simp) (fun c190 => ?_) (fun c190 => ?_)
                            · rw [if_pos c190] at hvv26
                              refine dr_skip 11 169 [some 153, some 154, some 155, some 156, some 157, some 158, some 159, some 160, some 161, some 162, some 163] rfl rfl (by decide) (by kernel_rfl) (by simp only [skEf, List.map_cons, List.map_nil, List.cons_append, List.nil_append]; rfl) ?_
                              refine dr_go 22 1 rfl (by simp (maxSteps := 1000000); rfl) ?_
                              refine dr_end rfl (tops_nil ?_)
                              cases hvv26
                              exact ⟨_, rfl, wk (by simp [weak_iff])⟩
                            · rw [if_neg (by rw [c190]; decide)] at hvv26
                              refine dr_go 11 2 rfl (by simp (maxSteps := 1000000); rfl) ?_
                              refine dr_go 13 2 rfl (by simp (maxSteps := 1000000); rfl) ?_
                              replace hvv26 := bnd hvv26; obtain ⟨y30, hy30, hvv26⟩ := hvv26
                              refine dr_call 15 [] (fleet_Serves_ok hy30) rfl rfl rfl rfl rfl Try.call24 (by simp) ?_
                              refine dr_go 16 2 rfl (by simp (maxSteps := 1000000); rfl) ?_
                              refine dr_go 18 2 rfl (by simp (maxSteps := 1000000); rfl) ?_
                              replace hvv26 := bnd hvv26; obtain ⟨y31, hy31, hvv26⟩ := hvv26
                              refine dr_call 20 [] (ref32_Serves_ok hy31) rfl rfl rfl rfl rfl Try.call41 (by simp) ?_
                              refine dr_go 21 2 rfl (by simp (maxSteps := 1000000); rfl) ?_
                              refine dr_end rfl (tops_nil ?_)
                              cases hvv26
                              exact ⟨_, rfl, wk (by simp [weak_iff])⟩
                        · rw [if_neg (by rw [c180]; decide)] at h3
                          refine tr_exit ?_
                          exact ⟨_, he3 _ (Option.some.inj h3), wk (by simp [weak_iff])⟩
                  · refine kd1 [[], [], [0, 1], [], [], [3, 4], [2, 5], [6], [7], [7], [7, 8, 9], [7], [7], [7, 11, 12], [7, 10, 13], [7, 14], [15], [16], [16], [16, 17, 18], [16], [16], [16, 20, 21], [16, 19, 22], [16, 23], [16, 24]] [] [] none [] 26 fol (by decide +kernel) (by simp) ?_
                    refine dr_go 0 2 rfl (by simp (maxSteps := 1000000); rfl) ?_
                    replace hvv19 := bnd hvv19; obtain ⟨y34, hy34, hvv19⟩ := hvv19
                    refine dr_call 2 [] (fleet_Right_ok hy34) rfl rfl rfl rfl rfl Try.call21 (by simp) ?_
                    refine dr_go 3 2 rfl (by simp (maxSteps := 1000000); rfl) ?_
                    replace hvv19 := bnd hvv19; obtain ⟨y35, hy35, hvv19⟩ := hvv19
                    refine dr_call 5 [] (ref32_Right_ok hy35) rfl rfl rfl rfl rfl Try.call22 (by simp) ?_
                    refine dr_go 6 2 rfl (by simp (maxSteps := 1000000); rfl) ?_
                    refine dr_split 7 111 (y34 != y35) (by simp) (fun c195 => ?_) (fun c195 => ?_)
                    · rw [if_pos c195] at hvv19
                      refine dr_skip 8 169 [some 112, some 113, some 114, some 115, some 116, some 117, some 118] rfl rfl (by decide) (by kernel_rfl) (by simp only [skEf, List.map_cons, List.map_nil, List.cons_append, List.nil_append]; rfl) ?_
                      refine dr_go 15 2 rfl (by simp (maxSteps := 1000000); rfl) ?_
                      refine dr_skip 17 169 [some 121, some 122, some 123, some 124, some 125, some 126, some 127, some 128] rfl rfl (by decide) (by kernel_rfl) (by simp only [skEf, List.map_cons, List.map_nil, List.cons_append, List.nil_append]; rfl) ?_
                      refine dr_go 25 1 rfl (by simp (maxSteps := 1000000); rfl) ?_
                      refine dr_end rfl (tops_nil ?_)
                      cases hvv19
                      exact ⟨_, rfl, wk (by simp [weak_iff])⟩
                    · rw [if_neg (by rw [c195]; decide)] at hvv19
                      refine dr_go 8 2 rfl (by simp (maxSteps := 1000000); rfl) ?_
                      replace hvv19 := bnd hvv19; obtain ⟨y36, hy36, hvv19⟩ := hvv19
                      refine dr_call 10 [] (fleet_Ended_ok hy36) rfl rfl rfl rfl rfl Try.call35 (by simp) ?_
                      refine dr_go 11 2 rfl (by simp (maxSteps := 1000000); rfl) ?_
                      replace hvv19 := bnd hvv19; obtain ⟨y37, hy37, hvv19⟩ := hvv19
                      refine dr_call 13 [] (ref32_Ended_ok hy37) rfl rfl rfl rfl rfl Try.call36 (by simp) ?_
                      refine dr_go 14 2 rfl (by simp (maxSteps := 1000000); rfl) ?_
                      refine dr_go 16 1 rfl (by simp (maxSteps := 1000000); rfl) ?_
                      refine dr_split 16 120 (y36 != y37) (by simp) (fun c196 => ?_) (fun c196 => ?_)
                      · rw [if_pos c196] at hvv19
                        refine dr_skip 17 169 [some 121, some 122, some 123, some 124, some 125, some 126, some 127, some 128] rfl rfl (by decide) (by kernel_rfl) (by simp only [skEf, List.map_cons, List.map_nil, List.cons_append, List.nil_append]; rfl) ?_
                        refine dr_go 25 1 rfl (by simp (maxSteps := 1000000); rfl) ?_
                        refine dr_end rfl (tops_nil ?_)
                        cases hvv19
                        exact ⟨_, rfl, wk (by simp [weak_iff])⟩
                      · rw [if_neg (by rw [c196]; decide)] at hvv19
                        refine dr_go 17 2 rfl (by simp (maxSteps := 1000000); rfl) ?_
                        replace hvv19 := bnd hvv19; obtain ⟨y38, hy38, hvv19⟩ := hvv19
                        refine dr_call 19 [] (fleet_Served_ok hy38) rfl rfl rfl rfl rfl Try.call23 (by simp) ?_
                        refine dr_go 20 2 rfl (by simp (maxSteps := 1000000); rfl) ?_
                        replace hvv19 := bnd hvv19; obtain ⟨y39, hy39, hvv19⟩ := hvv19
                        refine dr_call 22 [] (ref32_Served_ok hy39) rfl rfl rfl rfl rfl Try.call37 (by simp) ?_
                        replace hvv19 := bnd hvv19; obtain ⟨y40, hy40, hvv19⟩ := hvv19
                        refine dr_call 23 [] (ref23_Ints_ok hy40) rfl rfl rfl rfl rfl Try.call31 (by simp) ?_
                        refine dr_go 24 2 rfl (by simp (maxSteps := 1000000); rfl) ?_
                        refine dr_end rfl (tops_nil ?_)
                        cases hvv19
                        exact ⟨_, rfl, wk (by simp [weak_iff])⟩
                · rw [if_neg (by rw [c156]; decide)] at h2
                  refine tr_exit ?_
                  exact ⟨_, he2 _ (Option.some.inj h2), wk (by simp [weak_iff])⟩
          · refine kd1 [[], [0], [], [2], [1, 3], [4], [5], [5], [5, 6, 7], [5, 8], [9], [10], [10], [10, 11, 12], [10, 13], [10, 14], [15], [16], [16, 17], [16], [16, 19], [16, 18, 20], [16, 21], [16, 22]] [] [] none [] 24 fol (by decide +kernel) (by simp) ?_
            refine dr_go 0 1 rfl (by simp (maxSteps := 1000000); rfl) ?_
            replace hvv13 := bnd hvv13; obtain ⟨y43, hy43, hvv13⟩ := hvv13
            refine dr_call 1 [] (fleet_Check_ok hy43) rfl rfl rfl rfl rfl Try.call28 (by simp) ?_
            refine dr_go 2 1 rfl (by simp (maxSteps := 1000000); rfl) ?_
            replace hvv13 := bnd hvv13; obtain ⟨y44, hy44, hvv13⟩ := hvv13
            refine dr_call 3 [] (ref32_Check_ok hy44) rfl rfl rfl rfl rfl Try.call29 (by simp) ?_
            refine dr_go 4 2 rfl (by simp (maxSteps := 1000000); rfl) ?_
            refine dr_split 5 75 (y43 != y44) (by simp) (fun c203 => ?_) (fun c203 => ?_)
            · rw [if_pos c203] at hvv13
              refine dr_skip 6 169 [some 76, some 77, some 78] rfl rfl (by decide) (by kernel_rfl) (by simp only [skEf, List.map_cons, List.map_nil, List.cons_append, List.nil_append]; rfl) ?_
              refine dr_go 9 2 rfl (by simp (maxSteps := 1000000); rfl) ?_
              refine dr_skip 11 169 [some 81, some 82, some 83, some 84] rfl rfl (by decide) (by kernel_rfl) (by simp only [skEf, List.map_cons, List.map_nil, List.cons_append, List.nil_append]; rfl) ?_
              refine dr_go 15 2 rfl (by simp (maxSteps := 1000000); rfl) ?_
              refine dr_skip 17 169 [some 87, some 88, some 89, some 90, some 91, some 92] rfl rfl (by decide) (by kernel_rfl) (by simp only [skEf, List.map_cons, List.map_nil, List.cons_append, List.nil_append]; rfl) ?_
              refine dr_go 23 1 rfl (by simp (maxSteps := 1000000); rfl) ?_
              refine dr_end rfl (tops_nil ?_)
              cases hvv13
              exact ⟨_, rfl, wk (by simp [weak_iff])⟩
            · rw [if_neg (by rw [c203]; decide)] at hvv13
              refine dr_go 6 2 rfl (by simp (maxSteps := 1000000); rfl) ?_
              refine dr_go 8 2 rfl (by simp (maxSteps := 1000000); rfl) ?_
              refine dr_go 10 1 rfl (by simp (maxSteps := 1000000); rfl) ?_
              refine dr_split 10 80 (y11.2 != y12.2) (by simp) (fun c204 => ?_) (fun c204 => ?_)
              · rw [if_pos c204] at hvv13
                refine dr_skip 11 169 [some 81, some 82, some 83, some 84] rfl rfl (by decide) (by kernel_rfl) (by simp only [skEf, List.map_cons, List.map_nil, List.cons_append, List.nil_append]; rfl) ?_
                refine dr_go 15 2 rfl (by simp (maxSteps := 1000000); rfl) ?_
                refine dr_skip 17 169 [some 87, some 88, some 89, some 90, some 91, some 92] rfl rfl (by decide) (by kernel_rfl) (by simp only [skEf, List.map_cons, List.map_nil, List.cons_append, List.nil_append]; rfl) ?_
                refine dr_go 23 1 rfl (by simp (maxSteps := 1000000); rfl) ?_
                refine dr_end rfl (tops_nil ?_)
                cases hvv13
                exact ⟨_, rfl, wk (by simp [weak_iff])⟩
              · rw [if_neg (by rw [c204]; decide)] at hvv13
                refine dr_go 11 2 rfl (by simp (maxSteps := 1000000); rfl) ?_
                replace hvv13 := bnd hvv13; obtain ⟨y45, hy45, hvv13⟩ := hvv13
                refine dr_call 13 [] (ref32_Same_ok hy45) rfl rfl rfl rfl rfl Try.call30 (by simp) ?_
                refine dr_go 14 2 rfl (by simp (maxSteps := 1000000); rfl) ?_
                refine dr_go 16 1 rfl (by simp (maxSteps := 1000000); rfl) ?_
                refine dr_split 16 86 (!y45) (by simp) (fun c205 => ?_) (fun c205 => ?_)
                · rw [if_pos c205] at hvv13
                  refine dr_skip 17 169 [some 87, some 88, some 89, some 90, some 91, some 92] rfl rfl (by decide) (by kernel_rfl) (by simp only [skEf, List.map_cons, List.map_nil, List.cons_append, List.nil_append]; rfl) ?_
                  refine dr_go 23 1 rfl (by simp (maxSteps := 1000000); rfl) ?_
                  refine dr_end rfl (tops_nil ?_)
                  cases hvv13
                  exact ⟨_, rfl, wk (by simp [weak_iff])⟩
                · rw [if_neg (by rw [c205]; decide)] at hvv13
                  refine dr_go 17 1 rfl (by simp (maxSteps := 1000000); rfl) ?_
                  replace hvv13 := bnd hvv13; obtain ⟨y46, hy46, hvv13⟩ := hvv13
                  refine dr_call 18 [] (fleet_Pools_ok hy46) rfl rfl rfl rfl rfl Try.call32 (by simp) ?_
                  refine dr_go 19 1 rfl (by simp (maxSteps := 1000000); rfl) ?_
                  replace hvv13 := bnd hvv13; obtain ⟨y47, hy47, hvv13⟩ := hvv13
                  refine dr_call 20 [] (ref32_Pools_ok hy47) rfl rfl rfl rfl rfl Try.call33 (by simp) ?_
                  replace hvv13 := bnd hvv13; obtain ⟨y48, hy48, hvv13⟩ := hvv13
                  refine dr_call 21 [] (ref23_Ints_ok hy48) rfl rfl rfl rfl rfl Try.call31 (by simp) ?_
                  refine dr_go 22 2 rfl (by simp (maxSteps := 1000000); rfl) ?_
                  refine dr_end rfl (tops_nil ?_)
                  cases hvv13
                  exact ⟨_, rfl, wk (by simp [weak_iff])⟩
        · rw [if_neg (by rw [c100]; decide)] at h1
          refine tr_exit ?_
          exact ⟨_, he1 _ (Option.some.inj h1), wk (by simp [weak_iff])⟩
  · refine kc1 ?_
    refine ko [0, 3, 4, 6, 7, 28] 4 (by simp; rfl) ?_
    refine tops_split 28 (decide (300 < ((a0).length : Int))) (by simp) (fun c206 => ?_) (fun c206 => ?_)
    · rw [c206] at hvv1
      refine kskip 4 [] (by kernel_rfl) ?_
      refine ko [0, 3, 4, 6, 7, 34] 2 (by simp; rfl) ?_
      refine kskip 4 [] (by kernel_rfl) ?_
      refine ko [0, 3, 4, 6, 7, 39] 1 (by simp; rfl) ?_
      refine tops_nil ?_
      cases hvv1
      exact ⟨_, rfl, wk (by simp [weak_iff])⟩
    · rw [c206] at hvv1
      refine ko [0, 3, 4, 6, 7, 34] 6 (by simp; rfl) ?_
      refine tops_split 34 (decide (12 < ((a1.Consumers).length : Int))) (by simp) (fun c207 => ?_) (fun c207 => ?_)
      · rw [c207] at hvv1
        refine kskip 4 [] (by kernel_rfl) ?_
        refine ko [0, 3, 4, 6, 7, 39] 1 (by simp; rfl) ?_
        refine tops_nil ?_
        cases hvv1
        exact ⟨_, rfl, wk (by simp [weak_iff])⟩
      · rw [c207] at hvv1
        refine ko [0, 3, 4, 6, 7, 39] 5 (by simp; rfl) ?_
        refine tops_nil ?_
        cases hvv1
        exact ⟨_, rfl, wk (by simp [weak_iff])⟩
end Go.Vl
