/- Walks: each function of the given program computes what its mirror says. Conditions: none. -/
import Derived.Test.YtclmnpkhopioiaaRw2
set_option linter.unusedSimpArgs false
set_option linter.unusedVariables false
namespace Go.Vl
open Go Go.Proofs
set_option maxHeartbeats 1000000 in
theorem runner_Left_ok {a0 : List api_Step} {a1 : List api_Attempt} {r : (List api_Step) × Int} (h0 : runner_Left a0 a1 = some r) : FnOK Try.prog 66 [] [.d (.slice (rowsF api_Step_row a0)), .d (.slice (rowsF api_Attempt_row a1))] (.tup [.d (.slice (rowsF api_Step_row r.1)), .d (.int .i64 r.2)]) [] := by
  unfold runner_Left at h0
  refine fn_ok (nt := 58) (rs := [.tmp 4, .tmp 5]) Try.func66 rfl Try.ntmps66 rfl (by simp) (by decide) rfl fun K => ?_
  refine kr [0, 1] (by simp; rfl) ?_
  refine tr_seq ?_
  refine kr [0, 1, 11, 12, 13] (by simp; rfl) ?_
  replace h0 := bnd h0; obtain ⟨e1, hI1, h0⟩ := h0
  refine tjv (fun v1 : Unit => ({ nt := 58, env := [(0, .d (.slice (rowsF api_Step_row a0))), (1, .d (.slice (rowsF api_Attempt_row a1)))], box := [], vec := [] } : St)) (fun v1 => .inl v1 = e1) (fun v1 hI1e _ W1 => ?_) ?_
  · subst hI1e
    dsimp only at h0
    refine tr_wk W1 ?_
    refine kr [0, 1, 8] (by simp; rfl) ?_
    refine tr_seq ?_
    refine kr [0, 8, 30, 31, 32] (by simp; rfl) ?_
    replace h0 := bnd h0; obtain ⟨e2, hI2, h0⟩ := h0
    refine tjv (fun v2 : Int => ({ nt := 58, env := [(0, .d (.slice (rowsF api_Step_row a0))), (8, .d (.int .i64 v2))], box := [], vec := [] } : St)) (fun v2 => .inl v2 = e2) (fun v2 hI2e _ W2 => ?_) ?_
    · subst hI2e
      dsimp only at h0
      refine tr_wk W2 ?_
      refine kc ?_
      replace h0 := bnd h0; obtain ⟨_, p9, h0⟩ := h0
      replace p9 := ck_some p9
      have p9' := p9; try simp at p9'
      refine ko [56] 3 (by simp [p9, p9']; rfl) ?_
      replace h0 := bnd h0; obtain ⟨y3, hy3, h0⟩ := h0
      refine kcall [57] [] (slices_Clone_api_Step_ok hy3) rfl rfl rfl Try.call93 (by simp) (by simp; rfl) ?_
      refine ko [4, 5] 2 (by simp; rfl) ?_
      refine tops_nil ?_
      cases h0
      exact tr_ret ⟨[], by simp, rfl, by simp⟩
    · refine tr_block (tr_iter (fun s4 : Int × Int => ({ nt := 58, env := [(0, .d (.slice (rowsF api_Step_row a0))), (8, .d (.int .i64 s4.1)), (30, .d (.slice (rowsF api_Attempt_row a1))), (31, .d (.int .i64 ((a1).length : Int))), (32, .d (.int .i64 s4.2))], box := [], vec := [] } : St)) hI2 (wk (by simp [weak_iff])) fun G2 s4 o2 h2 hg2 he2 => ?_)
      unfold runner_Left_l1 at h2
      refine kr [0, 8, 30, 31, 32, 33] (by simp; rfl) ?_
      refine tr_seq ?_
      refine tr_cond (b := (decide (s4.2 < ((a1).length : Int)))) (by simp) (fun c19 => ?_) (fun c19 => ?_)
      · rw [if_pos c19] at h2
        refine tr_skip ?_
        refine tr_seq ?_
        refine tr_block ?_
        replace h2 := bnd h2; obtain ⟨x5, p10, h2⟩ := h2
        replace p10 := idx_some p10
        have p10' := p10; try simp at p10'
        refine kr [0, 8, 10, 30, 31, 32] (by simp [p10, p10']; rfl) ?_
        refine tr_seq ?_
        replace h2 := bnd h2; obtain ⟨v6, hvv6, h2⟩ := h2
        refine sjv (fun v6_ : Bool => ({ nt := 58, env := [(0, .d (.slice (rowsF api_Step_row a0))), (8, .d (.int .i64 s4.1)), (10, .ptr 10 0), (30, .d (.slice (rowsF api_Attempt_row a1))), (31, .d (.int .i64 ((a1).length : Int))), (32, .d (.int .i64 s4.2)), (48, .d (.bool v6_))], box := [(10, [.d (.int .i64 x5.Step.Kind), .d (.int .i64 x5.Step.Unit), .d (.int .i64 x5.Outcome), .d (.bool x5.There)])], vec := [] } : St)) (fun v6_ => v6 = v6_) (fun v6_ e => ?_) ?_
        · subst e
          refine tr_cond (b := v6) (by simp) (fun c24 => ?_) (fun c24 => ?_)
          · rw [if_pos c24] at h2
            refine kr [4, 5] (by simp; rfl) ?_
            have k1 := he2 _ (Option.some.inj h2)
            subst k1
            dsimp only at h0
            cases h0
            exact tr_ret ⟨[], by simp, rfl, by simp⟩
          · rw [if_neg (by rw [c24]; decide)] at h2
            refine tr_skip ?_
            refine kr [0, 8, 30, 31, 32, 50] (by simp; rfl) ?_
            refine tr_cond (b := x5.There) (by simp) (fun c25 => ?_) (fun c25 => ?_)
            · rw [if_pos c25] at h2
              refine lr (by simp; rfl) ?_
              refine lr (by simp; rfl) ?_
              exact ⟨_, hg2 _ (Option.some.inj h2), wk (by simp [weak_iff])⟩
            · rw [if_neg (by rw [c25]; decide)] at h2
              refine tr_skip ?_
              refine lr (by simp; rfl) ?_
              exact ⟨_, hg2 _ (Option.some.inj h2), wk (by simp [weak_iff])⟩
        · refine kd1 [[], [], [1], [0, 2], [2, 3], [2, 4], [2, 4, 5], [2, 4], [2, 4], [2, 4, 7, 8], [2, 4, 9], [2, 4, 6, 10], [2, 4, 11]] [] [] none [] 13 fol (by decide +kernel) (by simp) ?_
          refine dr_go 0 2 rfl (by simp (maxSteps := 1000000); rfl) ?_
          refine dr_go 2 2 rfl (by simp (maxSteps := 1000000); rfl) ?_
          refine dr_go 4 1 rfl (by simp (maxSteps := 1000000); rfl) ?_
          refine dr_split 4 40 (decide (((a0).length : Int) ≤ s4.1)) (by simp) (fun c27 => ?_) (fun c27 => ?_)
          · rw [if_pos c27] at hvv6
            refine dr_skip 5 58 [some 41, some 42, some 43, some 44, some 45, some 46, some 47] rfl rfl (by decide) (by kernel_rfl) (by simp only [skEf, List.map_cons, List.map_nil, List.cons_append, List.nil_append]; rfl) ?_
            refine dr_go 12 1 rfl (by simp (maxSteps := 1000000); rfl) ?_
            refine dr_end rfl (tops_nil ?_)
            cases hvv6
            exact ⟨_, rfl, wk (by simp [weak_iff])⟩
          · rw [if_neg (by rw [c27]; decide)] at hvv6
            replace hvv6 := bnd hvv6; obtain ⟨x7, p16, hvv6⟩ := hvv6
            replace p16 := idx_some p16
            have p16' := p16; try simp at p16'
            refine dr_go 5 2 rfl (by simp (maxSteps := 1000000) [p16, p16']; rfl) ?_
            refine dr_go 7 2 rfl (by simp (maxSteps := 1000000) [p16, p16']; rfl) ?_
            refine dr_go 9 2 rfl (by simp (maxSteps := 1000000) [p16, p16']; rfl) ?_
            refine dr_go 11 2 rfl (by simp (maxSteps := 1000000) [p16, p16']; rfl) ?_
            refine dr_end rfl (tops_nil ?_)
            cases hvv6
            exact ⟨_, rfl, wk (by simp [weak_iff])⟩
      · rw [if_neg (by rw [c19]; decide)] at h2
        refine tr_exit ?_
        exact ⟨_, he2 _ (Option.some.inj h2), wk (by simp [weak_iff])⟩
  · refine tr_block (tr_iter (fun s10 : Int => ({ nt := 58, env := [(0, .d (.slice (rowsF api_Step_row a0))), (1, .d (.slice (rowsF api_Attempt_row a1))), (11, .d (.slice (rowsF api_Attempt_row a1))), (12, .d (.int .i64 ((a1).length : Int))), (13, .d (.int .i64 s10))], box := [], vec := [] } : St)) hI1 (wk (by simp [weak_iff])) fun G2 s10 o2 h2 hg2 he2 => ?_)
    unfold runner_Left_l0 at h2
    refine kr [0, 1, 11, 12, 13, 14] (by simp; rfl) ?_
    refine tr_seq ?_
    refine tr_cond (b := (decide (s10 < ((a1).length : Int)))) (by simp) (fun c28 => ?_) (fun c28 => ?_)
    · rw [if_pos c28] at h2
      refine tr_skip ?_
      refine tr_seq ?_
      refine tr_block ?_
      replace h2 := bnd h2; obtain ⟨x11, p17, h2⟩ := h2
      replace p17 := idx_some p17
      have p17' := p17; try simp at p17'
      refine kr [0, 1, 7, 11, 12, 13] (by simp [p17, p17']; rfl) ?_
      replace h2 := bnd h2; obtain ⟨v12, hvv12, h2⟩ := h2
      refine sjv (fun v12_ : Bool => ({ nt := 58, env := [(0, .d (.slice (rowsF api_Step_row a0))), (1, .d (.slice (rowsF api_Attempt_row a1))), (11, .d (.slice (rowsF api_Attempt_row a1))), (12, .d (.int .i64 ((a1).length : Int))), (13, .d (.int .i64 s10)), (28, .d (.bool v12_))], box := [], vec := [] } : St)) (fun v12_ => v12 = v12_) (fun v12_ e => ?_) ?_
      · subst e
        refine tr_cond (b := v12) (by simp) (fun c33 => ?_) (fun c33 => ?_)
        · rw [if_pos c33] at h2
          refine kr [4, 5] (by simp; rfl) ?_
          have k1 := he2 _ (Option.some.inj h2)
          subst k1
          dsimp only at h0
          cases h0
          exact tr_ret ⟨[], by simp, rfl, by simp⟩
        · rw [if_neg (by rw [c33]; decide)] at h2
          refine tr_skip ?_
          refine lr (by simp; rfl) ?_
          exact ⟨_, hg2 _ (Option.some.inj h2), wk (by simp [weak_iff])⟩
      · refine kd1 [[], [0], [1], [2], [3], [4], [4, 5], [4], [4, 7], [4, 8], [4, 6, 9], [4, 10]] [] [] none [] 12 fol (by decide +kernel) (by simp) ?_
        refine dr_go 0 2 rfl (by simp (maxSteps := 1000000); rfl) ?_
        replace hvv12 := bnd hvv12; obtain ⟨y13, hy13, hvv12⟩ := hvv12
        refine dr_call 2 [] (runner_outcome_ok hy13) rfl rfl rfl rfl rfl Try.call91 (by simp) ?_
        refine dr_go 3 2 rfl (by simp (maxSteps := 1000000); rfl) ?_
        refine dr_split 4 21 (!y13) (by simp) (fun c35 => ?_) (fun c35 => ?_)
        · rw [if_pos c35] at hvv12
          refine dr_skip 5 58 [some 22, some 23, some 24, some 25, some 26, some 27] rfl rfl (by decide) (by kernel_rfl) (by simp only [skEf, List.map_cons, List.map_nil, List.cons_append, List.nil_append]; rfl) ?_
          refine dr_go 11 1 rfl (by simp (maxSteps := 1000000); rfl) ?_
          refine dr_end rfl (tops_nil ?_)
          cases hvv12
          exact ⟨_, rfl, wk (by simp [weak_iff])⟩
        · rw [if_neg (by rw [c35]; decide)] at hvv12
          refine dr_go 5 2 rfl (by simp (maxSteps := 1000000); rfl) ?_
          refine dr_go 7 2 rfl (by simp (maxSteps := 1000000); rfl) ?_
          replace hvv12 := bnd hvv12; obtain ⟨y14, hy14, hvv12⟩ := hvv12
          refine dr_call 9 [] (runner_there_ok hy14) rfl rfl rfl rfl rfl Try.call92 (by simp) ?_
          refine dr_go 10 2 rfl (by simp (maxSteps := 1000000); rfl) ?_
          refine dr_end rfl (tops_nil ?_)
          cases hvv12
          exact ⟨_, rfl, wk (by simp [weak_iff])⟩
    · rw [if_neg (by rw [c28]; decide)] at h2
      refine tr_exit ?_
      exact ⟨_, he2 _ (Option.some.inj h2), wk (by simp [weak_iff])⟩
end Go.Vl
