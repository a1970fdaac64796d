/- Walks: each function of the given program computes what its mirror says. Conditions: none. -/
import Derived.Test.YtnhppgonpdddgaaZm
import Derived.Test.YtnhppgonpdddgaaVmLz
import Derived.Test.YtnhppgonpdddgaaTyZ
set_option linter.unusedSimpArgs false
set_option linter.unusedVariables false
namespace Go.Vl
open Go Go.Proofs
set_option maxHeartbeats 1000000 in
theorem make_Tape_Next_ok {a0 : make_Tape} {a1 : Int} {r : Int × make_Tape} (h0 : make_Tape_Next a0 a1 = some r) : FnOK Try.prog 14 [make_Tape_av a0] [.ptr (InO 0) 0, .d (.int .i64 a1)] (.d (.int .i64 r.1)) [make_Tape_av r.2] := by
  unfold make_Tape_Next at h0
  refine fn_ok (nt := 37) (rs := [.tmp 4]) Try.func14 rfl Try.ntmps14 rfl (by simp) (by decide) rfl fun K => ?_
  refine kr [0, 1] (by simp; rfl) ?_
  refine tr_seq ?_
  refine kd [[], [0], [1], [2], [], [4], [5], [6], [7], [3, 8]] [] [] none [] 10 fol (by decide +kernel) (by simp) ?_
  refine dr_go 0 2 rfl (by simp (maxSteps := 1000000); rfl) ?_
  refine dr_go 2 2 rfl (by simp (maxSteps := 1000000); rfl) ?_
  refine dr_go 4 2 rfl (by simp (maxSteps := 1000000); rfl) ?_
  refine dr_go 6 2 rfl (by simp (maxSteps := 1000000); rfl) ?_
  refine dr_go 8 2 rfl (by simp (maxSteps := 1000000); rfl) ?_
  refine dr_end rfl (tops_nil ?_)
  refine tr_cond (b := (decide (((a0.L).length : Int) ≤ a0.at_))) (by simp) (fun c1 => ?_) (fun c1 => ?_)
  · rw [if_pos c1] at h0
    refine kr [4] (by simp; rfl) ?_
    cases h0
    exact tr_ret ⟨[], by simp, rfl, by simp⟩
  · rw [if_neg (by rw [c1]; decide)] at h0
    refine tr_skip ?_
    refine kd [[], [0], [1], [2], [], [4], [5], [6], [3, 7], [8], [9], [10]] [] [] none [] 12 fol (by decide +kernel) (by simp) ?_
    replace h0 := bnd h0; obtain ⟨x1, p3, h0⟩ := h0
    replace p3 := idx_some p3
    have p3' := p3; try simp at p3'
    refine dr_go 0 2 rfl (by simp (maxSteps := 1000000) [p3, p3']; rfl) ?_
    refine dr_go 2 2 rfl (by simp (maxSteps := 1000000) [p3, p3']; rfl) ?_
    refine dr_go 4 2 rfl (by simp (maxSteps := 1000000) [p3, p3']; rfl) ?_
    refine dr_go 6 2 rfl (by simp (maxSteps := 1000000) [p3, p3']; rfl) ?_
    refine dr_go 8 2 rfl (by simp (maxSteps := 1000000) [p3, p3']; rfl) ?_
    refine dr_go 10 2 rfl (by simp (maxSteps := 1000000) [p3, p3']; rfl) ?_
    refine dr_end rfl (tops_nil ?_)
    refine kr [1, 5] (by simp; rfl) ?_
    replace h0 := bnd h0; obtain ⟨_, p4, h0⟩ := h0
    replace p4 := ck_some p4
    have p4' := p4; try simp at p4'
    refine kr [4] (by simp [p4, p4']; rfl) ?_
    cases h0
    exact tr_ret ⟨[], by simp, rfl, by simp⟩
set_option maxHeartbeats 1000000 in
theorem ledger_among_ok {a0 : Int} {a1 : Int} {a2 : Int} {r : Bool} (h0 : ledger_among a0 a1 a2 = some r) : FnOK Try.prog 37 [] [.d (.int .i64 a0), .d (.int .i64 a1), .d (.int .i64 a2)] (.d (.bool r)) [] := by
  unfold ledger_among at h0
  refine fn_ok (nt := 15) (rs := [.tmp 6]) Try.func37 rfl Try.ntmps37 rfl (by simp) (by decide) rfl fun K => ?_
  refine kr [0, 1, 2] (by simp; rfl) ?_
  replace h0 := bnd h0; obtain ⟨v1, hvv1, h0⟩ := h0
  refine sjv (fun v1_ : Bool => ({ nt := 15, env := [(6, .d (.bool v1_))], box := [], vec := [] } : St)) (fun v1_ => v1 = v1_) (fun v1_ e => ?_) ?_
  · subst e
    cases h0
    exact tr_ret ⟨[], by simp, rfl, by simp⟩
  · refine kc1 ?_
    refine ko [0, 2, 10] 4 (by simp; rfl) ?_
    refine tops_split 10 (decide (a1 ≤ a0)) (by simp) (fun c3 => ?_) (fun c3 => ?_)
    · rw [c3] at hvv1
      refine ko [6] 5 (by simp; rfl) ?_
      refine tops_nil ?_
      cases hvv1
      exact ⟨_, rfl, wk (by simp [weak_iff])⟩
    · rw [c3] at hvv1
      refine kskip 3 [] (by kernel_rfl) ?_
      refine ko [6] 2 (by simp; rfl) ?_
      refine tops_nil ?_
      cases hvv1
      exact ⟨_, rfl, wk (by simp [weak_iff])⟩
set_option maxHeartbeats 1000000 in
theorem ledger_Check_ok {a0 : List api_Record} {r : Int} (h0 : ledger_Check a0 = some r) : FnOK Try.prog 19 [] [.d (.slice (rowsF api_Record_row a0))] (.d (.int .i64 r)) [] := by
  unfold ledger_Check at h0
  refine fn_ok (nt := 41) (rs := [.tmp 2]) Try.func19 rfl Try.ntmps19 rfl (by simp) (by decide) rfl fun K => ?_
  refine kr [0] (by simp; rfl) ?_
  refine tr_seq ?_
  refine kr [0, 8] (by simp; rfl) ?_
  refine tr_cond (b := (decide (100 < ((a0).length : Int)))) (by simp) (fun c1 => ?_) (fun c1 => ?_)
  · rw [if_pos c1] at h0
    refine kr [2] (by simp; rfl) ?_
    cases h0
    exact tr_ret ⟨[], by simp, rfl, by simp⟩
  · rw [if_neg (by rw [c1]; decide)] at h0
    refine tr_skip ?_
    refine kr [0, 3] (by simp; rfl) ?_
    refine tr_seq ?_
    refine kr [3, 9, 10, 11] (by simp; rfl) ?_
    replace h0 := bnd h0; obtain ⟨e1, hI1, h0⟩ := h0
    refine tjv (fun v1 : Unit => ({ nt := 41, env := [], box := [], vec := [] } : St)) (fun v1 => .inl v1 = e1) (fun v1 hI1e _ W1 => ?_) ?_
    · subst hI1e
      dsimp only at h0
      refine tr_wk W1 ?_
      refine kr [2] (by simp; rfl) ?_
      cases h0
      exact tr_ret ⟨[], by simp, rfl, by simp⟩
    · refine tr_block (tr_iter (fun s2 : Int × Int => ({ nt := 41, env := [(3, .d (.int .i64 s2.1)), (9, .d (.slice (rowsF api_Record_row a0))), (10, .d (.int .i64 ((a0).length : Int))), (11, .d (.int .i64 s2.2))], box := [], vec := [] } : St)) hI1 (wk (by simp [weak_iff])) fun G1 s2 o1 h1 hg1 he1 => ?_)
      unfold ledger_Check_l0 at h1
      refine kr [3, 9, 10, 11, 12] (by simp; rfl) ?_
      refine tr_seq ?_
      refine tr_cond (b := (decide (s2.2 < ((a0).length : Int)))) (by simp) (fun c12 => ?_) (fun c12 => ?_)
      · rw [if_pos c12] at h1
        refine tr_skip ?_
        refine tr_seq ?_
        refine tr_block ?_
        replace h1 := bnd h1; obtain ⟨x3, p3, h1⟩ := h1
        replace p3 := idx_some p3
        have p3' := p3; try simp at p3'
        refine kr [3, 5, 9, 10, 11] (by simp [p3, p3']; rfl) ?_
        refine tr_seq ?_
        replace h1 := bnd h1; obtain ⟨v4, hvv4, h1⟩ := h1
        refine sjv (fun v4_ : Bool => ({ nt := 41, env := [(5, .ptr 5 0), (9, .d (.slice (rowsF api_Record_row a0))), (10, .d (.int .i64 ((a0).length : Int))), (11, .d (.int .i64 s2.2)), (37, .d (.bool v4_))], box := [(5, [.d (.int .i64 x3.Known), .d (.int .i64 x3.Since), .d (.int .i64 x3.Subject), .d (.int .i64 x3.Value)])], vec := [] } : St)) (fun v4_ => v4 = v4_) (fun v4_ e => ?_) ?_
        · subst e
          refine tr_cond (b := v4) (by simp) (fun c19 => ?_) (fun c19 => ?_)
          · rw [if_pos c19] at h1
            refine kr [2] (by simp; rfl) ?_
            have k1 := he1 _ (Option.some.inj h1)
            subst k1
            dsimp only at h0
            cases h0
            exact tr_ret ⟨[], by simp, rfl, by simp⟩
          · rw [if_neg (by rw [c19]; decide)] at h1
            refine tr_skip ?_
            refine lr (by simp; rfl) ?_
            refine lr (by simp; rfl) ?_
            exact ⟨_, hg1 _ (Option.some.inj h1), wk (by simp [weak_iff])⟩
        · refine kc1 ?_
          refine ko [5, 9, 10, 11, 16, 17] 3 (by simp; rfl) ?_
          replace hvv4 := bnd hvv4; obtain ⟨y5, hy5, hvv4⟩ := hvv4
          refine kcall [5, 9, 10, 11, 18] [] (ledger_among_ok hy5) rfl rfl rfl Try.call37 (by simp) (by simp; rfl) ?_
          refine ko [5, 9, 10, 11, 20] 2 (by simp; rfl) ?_
          refine tops_split 20 (!y5) (by simp) (fun c20 => ?_) (fun c20 => ?_)
          · rw [if_pos c20] at hvv4
            refine kskip 4 [] (by kernel_rfl) ?_
            refine ko [5, 9, 10, 11, 26] 2 (by simp; rfl) ?_
            refine kskip 4 [] (by kernel_rfl) ?_
            refine ko [5, 9, 10, 11, 32] 2 (by simp; rfl) ?_
            refine kskip 4 [] (by kernel_rfl) ?_
            refine ko [5, 9, 10, 11, 37] 1 (by simp; rfl) ?_
            refine tops_nil ?_
            cases hvv4
            exact ⟨_, rfl, wk (by simp [weak_iff])⟩
          · rw [if_neg (by rw [c20]; decide)] at hvv4
            refine ko [5, 9, 10, 11, 20, 21, 22] 2 (by simp; rfl) ?_
            replace hvv4 := bnd hvv4; obtain ⟨y6, hy6, hvv4⟩ := hvv4
            refine kcall [5, 9, 10, 11, 20, 21, 22, 23] [] (ledger_among_ok hy6) rfl rfl rfl Try.call37 (by simp) (by simp; rfl) ?_
            refine ko [5, 9, 10, 11, 21, 22, 23, 24, 26] 3 (by simp; rfl) ?_
            refine tops_split 26 (!y6) (by simp) (fun c21 => ?_) (fun c21 => ?_)
            · rw [if_pos c21] at hvv4
              refine kskip 4 [] (by kernel_rfl) ?_
              refine ko [5, 9, 10, 11, 21, 22, 23, 24, 32] 2 (by simp; rfl) ?_
              refine kskip 4 [] (by kernel_rfl) ?_
              refine ko [5, 9, 10, 11, 21, 22, 23, 24, 37] 1 (by simp; rfl) ?_
              refine tops_nil ?_
              cases hvv4
              exact ⟨_, rfl, wk (by simp [weak_iff])⟩
            · rw [if_neg (by rw [c21]; decide)] at hvv4
              refine ko [5, 9, 10, 11, 21, 22, 23, 24, 26, 27, 28] 2 (by simp; rfl) ?_
              replace hvv4 := bnd hvv4; obtain ⟨y7, hy7, hvv4⟩ := hvv4
              refine kcall [5, 9, 10, 11, 21, 22, 23, 24, 26, 27, 28, 29] [] (ledger_among_ok hy7) rfl rfl rfl Try.call37 (by simp) (by simp; rfl) ?_
              refine ko [5, 9, 10, 11, 21, 22, 23, 24, 27, 28, 29, 30, 32] 3 (by simp; rfl) ?_
              refine tops_split 32 (!y7) (by simp) (fun c22 => ?_) (fun c22 => ?_)
              · rw [if_pos c22] at hvv4
                refine kskip 4 [] (by kernel_rfl) ?_
                refine ko [5, 9, 10, 11, 21, 22, 23, 24, 27, 28, 29, 30, 37] 1 (by simp; rfl) ?_
                refine tops_nil ?_
                cases hvv4
                exact ⟨_, rfl, wk (by simp [weak_iff])⟩
              · rw [if_neg (by rw [c22]; decide)] at hvv4
                refine ko [5, 9, 10, 11, 21, 22, 23, 24, 27, 28, 29, 30, 32, 33, 34] 2 (by simp; rfl) ?_
                replace hvv4 := bnd hvv4; obtain ⟨y8, hy8, hvv4⟩ := hvv4
                refine kcall [5, 9, 10, 11, 21, 22, 23, 24, 27, 28, 29, 30, 32, 33, 34, 35] [] (ledger_among_ok hy8) rfl rfl rfl Try.call37 (by simp) (by simp; rfl) ?_
                refine ko [5, 9, 10, 11, 21, 22, 23, 24, 27, 28, 29, 30, 33, 34, 35, 36, 37] 2 (by simp; rfl) ?_
                refine tops_nil ?_
                cases hvv4
                exact ⟨_, rfl, wk (by simp [weak_iff])⟩
      · rw [if_neg (by rw [c12]; decide)] at h1
        refine tr_exit ?_
        exact ⟨_, he1 _ (Option.some.inj h1), wk (by simp [weak_iff])⟩
set_option maxHeartbeats 1000000 in
theorem ledger_believe_ok {a0 : List api_Record} {a1 : Int} {a2 : Int} {a3 : Int} {r : Int} (h0 : ledger_believe a0 a1 a2 a3 = some r) : FnOK Try.prog 34 [] [.d (.slice (rowsF api_Record_row a0)), .d (.int .i64 a1), .d (.int .i64 a2), .d (.int .i64 a3)] (.d (.int .i64 r)) [] := by
  unfold ledger_believe at h0
  refine fn_ok (nt := 52) (rs := [.tmp 8]) Try.func34 rfl Try.ntmps34 rfl (by simp) (by decide) rfl fun K => ?_
  refine kr [0, 1, 2, 3] (by simp; rfl) ?_
  refine kr [0, 1, 2, 3, 9] (by simp; rfl) ?_
  refine tr_seq ?_
  refine kr [0, 1, 2, 3, 9, 12, 13, 14] (by simp; rfl) ?_
  replace h0 := bnd h0; obtain ⟨e1, hI1, h0⟩ := h0
  refine tjv (fun v1 : Int => ({ nt := 52, env := [(9, .d (.int .i64 v1))], box := [], vec := [] } : St)) (fun v1 => v1 = e1) (fun v1 hI1e _ W1 => ?_) ?_
  · subst hI1e
    refine tr_wk W1 ?_
    refine kr [8] (by simp; rfl) ?_
    cases h0
    exact tr_ret ⟨[], by simp, rfl, by simp⟩
  · refine tr_block (tr_iter (fun s2 : Int × Int => ({ nt := 52, env := [(0, .d (.slice (rowsF api_Record_row a0))), (1, .d (.int .i64 a1)), (2, .d (.int .i64 a2)), (3, .d (.int .i64 a3)), (9, .d (.int .i64 s2.1)), (12, .d (.slice (rowsF api_Record_row a0))), (13, .d (.int .i64 ((a0).length : Int))), (14, .d (.int .i64 s2.2))], box := [], vec := [] } : St)) hI1 (wk (by simp [weak_iff])) fun G1 s2 o1 h1 hg1 he1 => ?_)
    unfold ledger_believe_l0 at h1
    refine kr [0, 1, 2, 3, 9, 12, 13, 14, 15] (by simp; rfl) ?_
    refine tr_seq ?_
    refine tr_cond (b := (decide (s2.2 < ((a0).length : Int)))) (by simp) (fun c29 => ?_) (fun c29 => ?_)
    · rw [if_pos c29] at h1
      refine tr_skip ?_
      refine tr_seq ?_
      refine tr_block ?_
      replace h1 := bnd h1; obtain ⟨x3, p9, h1⟩ := h1
      replace p9 := idx_some p9
      have p9' := p9; try simp at p9'
      refine kr [0, 1, 2, 3, 9, 10, 11, 12, 13, 14] (by simp [p9, p9']; rfl) ?_
      replace h1 := bnd h1; obtain ⟨v4, hvv4, h1⟩ := h1
      refine sjv (fun v4_ : Bool => ({ nt := 52, env := [(0, .d (.slice (rowsF api_Record_row a0))), (1, .d (.int .i64 a1)), (2, .d (.int .i64 a2)), (3, .d (.int .i64 a3)), (9, .d (.int .i64 s2.1)), (10, .d (.int .i64 s2.2)), (12, .d (.slice (rowsF api_Record_row a0))), (13, .d (.int .i64 ((a0).length : Int))), (14, .d (.int .i64 s2.2)), (48, .d (.bool v4_))], box := [], vec := [] } : St)) (fun v4_ => v4 = v4_) (fun v4_ e => ?_) ?_
      · subst e
        refine tr_cond (b := v4) (by simp) (fun c54 => ?_) (fun c54 => ?_)
        · rw [if_pos c54] at h1
          refine lr (by simp; rfl) ?_
          refine lr (by simp; rfl) ?_
          exact ⟨_, hg1 _ (Option.some.inj h1), wk (by simp [weak_iff])⟩
        · rw [if_neg (by rw [c54]; decide)] at h1
          refine tr_skip ?_
          refine lr (by simp; rfl) ?_
          exact ⟨_, hg1 _ (Option.some.inj h1), wk (by simp [weak_iff])⟩
      · refine kd1 [[], [0], [], [1, 2], [3], [4], [4, 5], [4], [4, 6, 7], [4, 8], [9], [10], [10, 11], [10], [10, 12, 13], [10, 14], [15], [16], [16, 17], [16, 18], [19], [19, 20], [19], [19], [19, 22, 23], [19, 24], [19, 25], [19, 21, 26], [16, 19, 27], [16, 28]] [] [] none [] 30 fol (by decide +kernel) (by simp) ?_
        refine dr_go 0 2 rfl (by simp (maxSteps := 1000000); rfl) ?_
        refine dr_go 2 2 rfl (by simp (maxSteps := 1000000); rfl) ?_
        refine dr_go 4 1 rfl (by simp (maxSteps := 1000000); rfl) ?_
        refine dr_split 4 23 (decide (x3.Known ≤ a1)) (by simp) (fun c63 => ?_) (fun c63 => ?_)
        · rw [if_pos c63] at hvv4
          refine dr_go 5 2 rfl (by simp (maxSteps := 1000000); rfl) ?_
          refine dr_go 7 2 rfl (by simp (maxSteps := 1000000); rfl) ?_
          refine dr_go 9 2 rfl (by simp (maxSteps := 1000000); rfl) ?_
          refine dr_split 10 29 (x3.Subject == a2) (by simp) (fun c64 => ?_) (fun c64 => ?_)
          · rw [if_pos c64] at hvv4
            refine dr_go 11 2 rfl (by simp (maxSteps := 1000000); rfl) ?_
            refine dr_go 13 2 rfl (by simp (maxSteps := 1000000); rfl) ?_
            refine dr_go 15 2 rfl (by simp (maxSteps := 1000000); rfl) ?_
            refine dr_split 16 35 (decide (x3.Since ≤ a3)) (by simp) (fun c65 => ?_) (fun c65 => ?_)
            · rw [if_pos c65] at hvv4
              refine dr_go 17 2 rfl (by simp (maxSteps := 1000000); rfl) ?_
              refine dr_go 19 1 rfl (by simp (maxSteps := 1000000); rfl) ?_
              refine dr_split 19 38 (s2.1 == (-1)) (by simp) (fun c66 => ?_) (fun c66 => ?_)
              · rw [if_pos c66] at hvv4
                refine dr_skip 20 52 [some 39, some 40, some 41, some 42, some 43, some 44, some 45, some 46] rfl rfl (by decide) (by kernel_rfl) (by simp only [skEf, List.map_cons, List.map_nil, List.cons_append, List.nil_append]; rfl) ?_
                refine dr_go 28 2 rfl (by simp (maxSteps := 1000000); rfl) ?_
                refine dr_end rfl (tops_nil ?_)
                cases hvv4
                exact ⟨_, rfl, wk (by simp [weak_iff])⟩
              · rw [if_neg (by rw [c66]; decide)] at hvv4
                replace hvv4 := bnd hvv4; obtain ⟨x5, p18, hvv4⟩ := hvv4
                replace p18 := idx_some p18
                have p18' := p18; try simp at p18'
                refine dr_go 20 2 rfl (by simp (maxSteps := 1000000) [p18, p18']; rfl) ?_
                refine dr_go 22 2 rfl (by simp (maxSteps := 1000000) [p18, p18']; rfl) ?_
                refine dr_go 24 2 rfl (by simp (maxSteps := 1000000) [p18, p18']; rfl) ?_
                refine dr_go 26 2 rfl (by simp (maxSteps := 1000000) [p18, p18']; rfl) ?_
                refine dr_go 28 2 rfl (by simp (maxSteps := 1000000) [p18, p18']; rfl) ?_
                refine dr_end rfl (tops_nil ?_)
                cases hvv4
                exact ⟨_, rfl, wk (by simp [weak_iff])⟩
            · rw [if_neg (by rw [c65]; decide)] at hvv4
              refine dr_skip 17 52 [some 36, some 37, some 38, some 39, some 40, some 41, some 42, some 43, some 44, some 45, some 46, some 47] rfl rfl (by decide) (by kernel_rfl) (by simp only [skEf, List.map_cons, List.map_nil, List.cons_append, List.nil_append]; rfl) ?_
              refine dr_go 29 1 rfl (by simp (maxSteps := 1000000); rfl) ?_
              refine dr_end rfl (tops_nil ?_)
              cases hvv4
              exact ⟨_, rfl, wk (by simp [weak_iff])⟩
          · rw [if_neg (by rw [c64]; decide)] at hvv4
            refine dr_skip 11 52 [some 30, some 31, some 32, some 33] rfl rfl (by decide) (by kernel_rfl) (by simp only [skEf, List.map_cons, List.map_nil, List.cons_append, List.nil_append]; rfl) ?_
            refine dr_go 15 2 rfl (by simp (maxSteps := 1000000); rfl) ?_
            refine dr_skip 17 52 [some 36, some 37, some 38, some 39, some 40, some 41, some 42, some 43, some 44, some 45, some 46, some 47] rfl rfl (by decide) (by kernel_rfl) (by simp only [skEf, List.map_cons, List.map_nil, List.cons_append, List.nil_append]; rfl) ?_
            refine dr_go 29 1 rfl (by simp (maxSteps := 1000000); rfl) ?_
            refine dr_end rfl (tops_nil ?_)
            cases hvv4
            exact ⟨_, rfl, wk (by simp [weak_iff])⟩
        · rw [if_neg (by rw [c63]; decide)] at hvv4
          refine dr_skip 5 52 [some 24, some 25, some 26, some 27] rfl rfl (by decide) (by kernel_rfl) (by simp only [skEf, List.map_cons, List.map_nil, List.cons_append, List.nil_append]; rfl) ?_
          refine dr_go 9 2 rfl (by simp (maxSteps := 1000000); rfl) ?_
          refine dr_skip 11 52 [some 30, some 31, some 32, some 33] rfl rfl (by decide) (by kernel_rfl) (by simp only [skEf, List.map_cons, List.map_nil, List.cons_append, List.nil_append]; rfl) ?_
          refine dr_go 15 2 rfl (by simp (maxSteps := 1000000); rfl) ?_
          refine dr_skip 17 52 [some 36, some 37, some 38, some 39, some 40, some 41, some 42, some 43, some 44, some 45, some 46, some 47] rfl rfl (by decide) (by kernel_rfl) (by simp only [skEf, List.map_cons, List.map_nil, List.cons_append, List.nil_append]; rfl) ?_
          refine dr_go 29 1 rfl (by simp (maxSteps := 1000000); rfl) ?_
          refine dr_end rfl (tops_nil ?_)
          cases hvv4
          exact ⟨_, rfl, wk (by simp [weak_iff])⟩
    · rw [if_neg (by rw [c29]; decide)] at h1
      refine tr_exit ?_
      exact ⟨_, he1 _ (Option.some.inj h1), wk (by simp [weak_iff])⟩
set_option maxHeartbeats 1000000 in
theorem ledger_Believe_ok {a0 : List api_Record} {a1 : Int} {a2 : Int} {a3 : Int} {r : api_Belief × Bool} (h0 : ledger_Believe a0 a1 a2 a3 = some r) : FnOK Try.prog 16 [] [.d (.slice (rowsF api_Record_row a0)), .d (.int .i64 a1), .d (.int .i64 a2), .d (.int .i64 a3)] (.tup [.agg (api_Belief_av r.1), .d (.bool r.2)]) [] := by
  unfold ledger_Believe at h0
  refine fn_ok (nt := 30) (rs := [.cell 8 38, .tmp 9]) Try.func16 rfl Try.ntmps16 rfl (by simp) (by decide) rfl fun K => ?_
  refine kr [0, 1, 2, 3, 8] (by simp; rfl) ?_
  refine tr_seq ?_
  refine kc ?_
  refine ko [0, 1, 2, 3, 8, 11] 1 (by simp; rfl) ?_
  replace h0 := bnd h0; obtain ⟨y1, hy1, h0⟩ := h0
  refine kcall [0, 1, 2, 3, 8, 12] [] (ledger_Check_ok hy1) rfl rfl rfl Try.call19 (by simp) (by simp; rfl) ?_
  refine ko [0, 1, 2, 3, 8, 13] 1 (by simp; rfl) ?_
  refine tops_nil ?_
  refine tr_cond (b := (y1 != 0)) (by simp) (fun c1 => ?_) (fun c1 => ?_)
  · rw [if_pos c1] at h0
    refine kr [8, 9] (by simp; rfl) ?_
    cases h0
    exact tr_ret ⟨[], by simp, rfl, by simp⟩
  · rw [if_neg (by rw [c1]; decide)] at h0
    refine tr_skip ?_
    refine kc ?_
    refine ko [0, 8, 15, 16, 17, 18] 4 (by simp; rfl) ?_
    replace h0 := bnd h0; obtain ⟨y2, hy2, h0⟩ := h0
    refine kcall [0, 8, 19] [] (ledger_believe_ok hy2) rfl rfl rfl Try.call34 (by simp) (by simp; rfl) ?_
    refine ko [0, 8, 10] 1 (by simp; rfl) ?_
    refine tops_nil ?_
    refine tr_seq ?_
    refine kr [0, 8, 10, 21] (by simp; rfl) ?_
    refine tr_cond (b := (y2 == (-1))) (by simp) (fun c2 => ?_) (fun c2 => ?_)
    · rw [if_pos c2] at h0
      refine kr [8, 9] (by simp; rfl) ?_
      cases h0
      exact tr_ret ⟨[], by simp, rfl, by simp⟩
    · rw [if_neg (by rw [c2]; decide)] at h0
      refine tr_skip ?_
      replace h0 := bnd h0; obtain ⟨x3, p1, h0⟩ := h0
      replace p1 := idx_some p1
      have p1' := p1; try simp at p1'
      refine kr [8, 9] (by simp [p1, p1']; rfl) ?_
      cases h0
      exact tr_ret ⟨[], by simp, rfl, by simp⟩
set_option maxHeartbeats 1000000 in
theorem law42_awake_ok  {r : Bool} (h0 : law42_awake = some r) : FnOK Try.prog 12 [] [] (.d (.bool r)) [] := by
  unfold law42_awake at h0
  refine fn_ok (nt := 49) (rs := [.tmp 0]) Try.func12 rfl Try.ntmps12 rfl (by simp) (by decide) rfl fun K => ?_
  refine kr [] (by simp; rfl) ?_
  refine kr [1] (by simp; rfl) ?_
  refine kc ?_
  refine ko [1, 12] 1 (by simp; rfl) ?_
  refine tops_wk (wk_frz 10) ?_
  replace h0 := bnd h0; obtain ⟨y1, hy1, h0⟩ := h0
  refine kcall [1, 13] [] (ledger_Believe_ok hy1) rfl rfl rfl Try.call16 (by simp) (by simp; rfl) ?_
  refine ko [1, 2, 3] 6 (by simp; rfl) ?_
  refine tops_nil ?_
  refine kc ?_
  refine ko [1, 2, 3, 17] 1 (by simp; rfl) ?_
  replace h0 := bnd h0; obtain ⟨y2, hy2, h0⟩ := h0
  refine kcall [1, 2, 3, 18] [] (ledger_Believe_ok hy2) rfl rfl rfl Try.call16 (by simp) (by simp; rfl) ?_
  refine ko [1, 2, 3, 4, 5] 6 (by simp; rfl) ?_
  refine tops_nil ?_
  refine kc ?_
  refine ko [1, 2, 3, 4, 5, 22] 1 (by simp; rfl) ?_
  replace h0 := bnd h0; obtain ⟨y3, hy3, h0⟩ := h0
  refine kcall [1, 2, 3, 4, 5, 23] [] (ledger_Believe_ok hy3) rfl rfl rfl Try.call16 (by simp) (by simp; rfl) ?_
  refine ko [1, 2, 3, 4, 5, 7] 6 (by simp; rfl) ?_
  refine tops_nil ?_
  replace h0 := bnd h0; obtain ⟨v4, hvv4, h0⟩ := h0
  refine sjv (fun v4_ : Bool => ({ nt := 49, env := [(0, .d (.bool v4_))], box := [], vec := [] } : St)) (fun v4_ => v4 = v4_) (fun v4_ e => ?_) ?_
  · subst e
    cases h0
    exact tr_ret ⟨[], by simp, rfl, by simp⟩
  · refine kc1 ?_
    refine ko [1, 2, 4, 5, 7, 27] 2 (by simp; rfl) ?_
    refine tops_split 27 y1.2 (by simp) (fun c11 => ?_) (fun c11 => ?_)
    · rw [if_pos c11] at hvv4
      refine ko [1, 2, 4, 7, 30] 3 (by simp; rfl) ?_
      refine tops_split 30 y2.2 (by simp) (fun c12 => ?_) (fun c12 => ?_)
      · rw [if_pos c12] at hvv4
        refine ko [1, 2, 4, 34] 4 (by simp; rfl) ?_
        refine tops_split 34 (!y3.2) (by simp) (fun c13 => ?_) (fun c13 => ?_)
        · rw [if_pos c13] at hvv4
          refine ko [1, 4, 39] 5 (by simp; rfl) ?_
          refine tops_split 39 (y1.1.Value == 1) (by simp) (fun c14 => ?_) (fun c14 => ?_)
          · rw [if_pos c14] at hvv4
            refine ko [1, 44] 5 (by simp; rfl) ?_
            refine tops_split 44 (y2.1.Value == 7) (by simp) (fun c15 => ?_) (fun c15 => ?_)
            · rw [if_pos c15] at hvv4
              refine ko [44, 45] 1 (by simp; rfl) ?_
              replace hvv4 := bnd hvv4; obtain ⟨y5, hy5, hvv4⟩ := hvv4
              refine kcall [44, 46] [] (ledger_Check_ok hy5) rfl rfl rfl Try.call19 (by simp) (by simp; rfl) ?_
              refine ko [0] 3 (by simp; rfl) ?_
              refine tops_nil ?_
              cases hvv4
              exact ⟨_, rfl, wk (by simp [weak_iff])⟩
            · rw [if_neg (by rw [c15]; decide)] at hvv4
              refine kskip 3 [] (by kernel_rfl) ?_
              refine ko [0] 2 (by simp; rfl) ?_
              refine tops_nil ?_
              cases hvv4
              exact ⟨_, rfl, wk (by simp [weak_iff])⟩
          · rw [if_neg (by rw [c14]; decide)] at hvv4
            refine kskip 3 [] (by kernel_rfl) ?_
            refine ko [1, 44] 2 (by simp; rfl) ?_
            refine kskip 3 [] (by kernel_rfl) ?_
            refine ko [0] 2 (by simp; rfl) ?_
            refine tops_nil ?_
            cases hvv4
            exact ⟨_, rfl, wk (by simp [weak_iff])⟩
        · rw [if_neg (by rw [c13]; decide)] at hvv4
          refine kskip 3 [] (by kernel_rfl) ?_
          refine ko [1, 4, 39] 2 (by simp; rfl) ?_
          refine kskip 3 [] (by kernel_rfl) ?_
          refine ko [1, 44] 2 (by simp; rfl) ?_
          refine kskip 3 [] (by kernel_rfl) ?_
          refine ko [0] 2 (by simp; rfl) ?_
          refine tops_nil ?_
          cases hvv4
          exact ⟨_, rfl, wk (by simp [weak_iff])⟩
      · rw [if_neg (by rw [c12]; decide)] at hvv4
        refine ko [1, 2, 4, 34] 4 (by simp; rfl) ?_
        refine kskip 3 [] (by kernel_rfl) ?_
        refine ko [1, 4, 39] 2 (by simp; rfl) ?_
        refine kskip 3 [] (by kernel_rfl) ?_
        refine ko [1, 44] 2 (by simp; rfl) ?_
        refine kskip 3 [] (by kernel_rfl) ?_
        refine ko [0] 2 (by simp; rfl) ?_
        refine tops_nil ?_
        cases hvv4
        exact ⟨_, rfl, wk (by simp [weak_iff])⟩
    · rw [if_neg (by rw [c11]; decide)] at hvv4
      refine ko [1, 2, 4, 34] 7 (by simp; rfl) ?_
      refine kskip 3 [] (by kernel_rfl) ?_
      refine ko [1, 4, 39] 2 (by simp; rfl) ?_
      refine kskip 3 [] (by kernel_rfl) ?_
      refine ko [1, 44] 2 (by simp; rfl) ?_
      refine kskip 3 [] (by kernel_rfl) ?_
      refine ko [0] 2 (by simp; rfl) ?_
      refine tops_nil ?_
      cases hvv4
      exact ⟨_, rfl, wk (by simp [weak_iff])⟩
set_option maxHeartbeats 1000000 in
theorem make_Clock_ok {a0 : make_Tape} {a1 : Int} {r : (List Int) × make_Tape} (h0 : make_Clock a0 a1 = some r) : FnOK Try.prog 33 [make_Tape_av a0] [.ptr (InO 0) 0, .d (.int .i64 a1)] (.d (.slice (rowsF (iRow .i64) r.1))) [make_Tape_av r.2] := by
  unfold make_Clock at h0
  refine fn_ok (nt := 24) (rs := [.tmp 4]) Try.func33 rfl Try.ntmps33 rfl (by simp) (by decide) rfl fun K => ?_
  refine kr [0, 1] (by simp; rfl) ?_
  refine kr [0, 1, 5] (by simp; rfl) ?_
  refine kc ?_
  refine ko [0, 1, 5, 8] 1 (by simp; rfl) ?_
  replace h0 := bnd h0; obtain ⟨y1, hy1, h0⟩ := h0
  refine kcall [0, 1, 5, 9] [1000000] (make_Tape_Next_ok hy1) rfl rfl rfl Try.call14 (by simp) (by simp; rfl) ?_
  refine ko [0, 1, 5, 6] 1 (by simp; rfl) ?_
  refine tops_nil ?_
  refine tr_seq ?_
  refine kr [0, 1, 5, 6, 7] (by simp; rfl) ?_
  refine tr_wk (wk_own 5 22 3 1 (by simp) (by simp)) ?_
  replace h0 := bnd h0; obtain ⟨e1, hI1, h0⟩ := h0
  refine tjv (fun v2 : (List Int) × Int × (List Int) => ({ nt := 24, env := [(5, .vec 22)], box := [(1000000, [.d (.slice (rowsF (iRow .i64) v2.1)), .d (.int .i64 v2.2.1)])], vec := [(22, ⟨3, 1, rowsF (iRow .i64) v2.2.2⟩)] } : St)) (fun v2 => v2 = e1) (fun v2 hI1e _ W1 => ?_) ?_
  · subst hI1e
    refine tr_wk W1 ?_
    refine kr [4] (by simp; rfl) ?_
    cases h0
    exact tr_ret ⟨[22], by simp, rfl, by simp⟩
  · refine tr_block (tr_iter (fun s3 : Int × Int × (List Int) × Int × (List Int) => ({ nt := 24, env := [(0, .ptr 1000000 0), (1, .d (.int .i64 a1)), (5, .vec 22), (6, .d (.int .i64 s3.1)), (7, .d (.int .i64 s3.2.1))], box := [(1000000, [.d (.slice (rowsF (iRow .i64) s3.2.2.1)), .d (.int .i64 s3.2.2.2.1)])], vec := [(22, ⟨3, 1, rowsF (iRow .i64) s3.2.2.2.2⟩)] } : St)) hI1 (wk (by simp [weak_iff])) fun G1 s3 o1 h1 hg1 he1 => ?_)
    unfold make_Clock_l0 at h1
    refine tr_seq ?_
    refine kr [0, 1, 5, 6, 7, 12] (by simp; rfl) ?_
    refine tr_cond (b := (decide (s3.2.1 < a1))) (by simp) (fun c4 => ?_) (fun c4 => ?_)
    · rw [if_pos c4] at h1
      refine tr_skip ?_
      refine tr_seq ?_
      refine tr_block ?_
      refine kc ?_
      refine ko [0, 1, 5, 7, 15, 16] 2 (by simp; rfl) ?_
      replace h1 := bnd h1; obtain ⟨y4, hy4, h1⟩ := h1
      refine kcall [0, 1, 5, 7, 15, 17] [1000000] (make_Tape_Next_ok hy4) rfl rfl rfl Try.call14 (by simp) (by simp; rfl) ?_
      refine ko [0, 1, 5, 6, 7] 2 (by simp; rfl) ?_
      refine tops_nil ?_
      replace h1 := bnd h1; obtain ⟨_, p3, h1⟩ := h1
      replace p3 := ck_some p3
      have p3' := p3; try simp at p3'
      refine lr (by simp [p3, p3']; rfl) ?_
      refine lr (by simp; rfl) ?_
      exact ⟨_, hg1 _ (Option.some.inj h1), wk (by simp [weak_iff])⟩
    · rw [if_neg (by rw [c4]; decide)] at h1
      refine tr_exit ?_
      exact ⟨_, he1 _ (Option.some.inj h1), wk (by simp [weak_iff])⟩
set_option maxHeartbeats 1000000 in
theorem make_Tape_Between_ok {a0 : make_Tape} {a1 : Int} {a2 : Int} {r : Int × make_Tape} (h0 : make_Tape_Between a0 a1 a2 = some r) : FnOK Try.prog 17 [make_Tape_av a0] [.ptr (InO 0) 0, .d (.int .i64 a1), .d (.int .i64 a2)] (.d (.int .i64 r.1)) [make_Tape_av r.2] := by
  unfold make_Tape_Between at h0
  refine fn_ok (nt := 15) (rs := [.tmp 6]) Try.func17 rfl Try.ntmps17 rfl (by simp) (by decide) rfl fun K => ?_
  refine kr [0, 1, 2] (by simp; rfl) ?_
  refine kc ?_
  refine ko [7, 8, 12] 6 (by simp; rfl) ?_
  replace h0 := bnd h0; obtain ⟨y1, hy1, h0⟩ := h0
  refine kcall [7, 13] [1000000] (make_Tape_Next_ok hy1) rfl rfl rfl Try.call14 (by simp) (by simp; rfl) ?_
  refine ko [6] 2 (by simp; rfl) ?_
  refine tops_nil ?_
  cases h0
  exact tr_ret ⟨[], by simp, rfl, by simp⟩
set_option maxHeartbeats 1000000 in
theorem make_Ledger_ok {a0 : make_Tape} {r : (List api_Record) × make_Tape} (h0 : make_Ledger a0 = some r) : FnOK Try.prog 13 [make_Tape_av a0] [.ptr (InO 0) 0] (.d (.slice (rowsF api_Record_row r.1))) [make_Tape_av r.2] := by
  unfold make_Ledger at h0
  refine fn_ok (nt := 28) (rs := [.tmp 2]) Try.func13 rfl Try.ntmps13 rfl (by simp) (by decide) rfl fun K => ?_
  refine kr [0] (by simp; rfl) ?_
  refine kr [0, 3] (by simp; rfl) ?_
  refine tr_seq ?_
  refine kc ?_
  refine ko [0, 3, 6, 7] 2 (by simp; rfl) ?_
  replace h0 := bnd h0; obtain ⟨y1, hy1, h0⟩ := h0
  refine kcall [0, 3, 6, 8] [1000000] (make_Tape_Next_ok hy1) rfl rfl rfl Try.call14 (by simp) (by simp; rfl) ?_
  replace h0 := bnd h0; obtain ⟨y2, hy2, h0⟩ := h0
  refine kcall [0, 3, 9] [1000000] (make_Clock_ok hy2) rfl rfl rfl Try.call33 (by simp) (by simp; rfl) ?_
  refine ko [0, 3, 9, 10, 11] 2 (by simp; rfl) ?_
  refine tops_nil ?_
  refine tr_wk (wk_own 3 25 42 4 (by simp) (by simp)) ?_
  replace h0 := bnd h0; obtain ⟨e1, hI1, h0⟩ := h0
  refine tjv (fun v3 : (List Int) × Int × (List api_Record) => ({ nt := 28, env := [(3, .vec 25)], box := [(1000000, [.d (.slice (rowsF (iRow .i64) v3.1)), .d (.int .i64 v3.2.1)])], vec := [(25, ⟨42, 4, rowsF api_Record_row v3.2.2⟩)] } : St)) (fun v3 => v3 = e1) (fun v3 hI1e _ W1 => ?_) ?_
  · subst hI1e
    refine tr_wk W1 ?_
    refine kr [2] (by simp; rfl) ?_
    cases h0
    exact tr_ret ⟨[25], by simp, rfl, by simp⟩
  · refine tr_block (tr_iter (fun s4 : Int × (List Int) × Int × (List api_Record) => ({ nt := 28, env := [(0, .ptr 1000000 0), (3, .vec 25), (9, .d (.slice (rowsF (iRow .i64) y2.1))), (10, .d (.int .i64 ((y2.1).length : Int))), (11, .d (.int .i64 s4.1))], box := [(1000000, [.d (.slice (rowsF (iRow .i64) s4.2.1)), .d (.int .i64 s4.2.2.1)])], vec := [(25, ⟨42, 4, rowsF api_Record_row s4.2.2.2⟩)] } : St)) hI1 (wk (by simp [weak_iff])) fun G1 s4 o1 h1 hg1 he1 => ?_)
    unfold make_Ledger_l0 at h1
    refine kr [0, 3, 9, 10, 11, 12] (by simp; rfl) ?_
    refine tr_seq ?_
    refine tr_cond (b := (decide (s4.1 < ((y2.1).length : Int)))) (by simp) (fun c4 => ?_) (fun c4 => ?_)
    · rw [if_pos c4] at h1
      refine tr_skip ?_
      refine tr_seq ?_
      refine tr_block ?_
      replace h1 := bnd h1; obtain ⟨x5, p6, h1⟩ := h1
      replace p6 := idx_some p6
      have p6' := p6; try simp at p6'
      refine kr [0, 3, 5, 9, 10, 11] (by simp [p6, p6']; rfl) ?_
      refine kc1 ?_
      refine ko [0, 9, 10, 11, 15, 16, 17] 3 (by simp; rfl) ?_
      replace h1 := bnd h1; obtain ⟨y6, hy6, h1⟩ := h1
      refine kcall [0, 9, 10, 11, 15, 16, 18] [1000000] (make_Tape_Next_ok hy6) rfl rfl rfl Try.call14 (by simp) (by simp; rfl) ?_
      refine ko [0, 9, 10, 11, 15, 16, 18, 19] 1 (by simp; rfl) ?_
      replace h1 := bnd h1; obtain ⟨y7, hy7, h1⟩ := h1
      refine kcall [0, 9, 10, 11, 15, 16, 18, 20] [1000000] (make_Tape_Next_ok hy7) rfl rfl rfl Try.call14 (by simp) (by simp; rfl) ?_
      refine ko [0, 9, 10, 11, 15, 16, 18, 20, 21] 1 (by simp; rfl) ?_
      replace h1 := bnd h1; obtain ⟨y8, hy8, h1⟩ := h1
      refine kcall [0, 9, 10, 11, 15, 16, 18, 20, 22] [1000000] (make_Tape_Between_ok hy8) rfl rfl rfl Try.call17 (by simp) (by simp; rfl) ?_
      replace h1 := bnd h1; obtain ⟨_, p7, h1⟩ := h1
      replace p7 := ck_some p7
      have p7' := p7; try simp at p7'
      refine ko [0, 3, 9, 10, 11] 4 (by simp [p7, p7']; rfl) ?_
      refine tops_nil ?_
      refine lr (by simp; rfl) ?_
      exact ⟨_, hg1 _ (Option.some.inj h1), wk (by simp [weak_iff])⟩
    · rw [if_neg (by rw [c4]; decide)] at h1
      refine tr_exit ?_
      exact ⟨_, he1 _ (Option.some.inj h1), wk (by simp [weak_iff])⟩
set_option maxHeartbeats 1000000 in
theorem ledger_Line_ok {a0 : List api_Record} {a1 : Int} {a2 : Int} {r : (List api_Record) × Int} (h0 : ledger_Line a0 a1 a2 = some r) : FnOK Try.prog 15 [] [.d (.slice (rowsF api_Record_row a0)), .d (.int .i64 a1), .d (.int .i64 a2)] (.tup [.d (.slice (rowsF api_Record_row r.1)), .d (.int .i64 r.2)]) [] := by
  unfold ledger_Line at h0
  refine fn_ok (nt := 40) (rs := [.tmp 6, .tmp 7]) Try.func15 rfl Try.ntmps15 rfl (by simp) (by decide) rfl fun K => ?_
  refine kr [0, 1, 2] (by simp; rfl) ?_
  refine tr_seq ?_
  refine kc ?_
  refine ko [0, 1, 2, 12] 1 (by simp; rfl) ?_
  replace h0 := bnd h0; obtain ⟨y1, hy1, h0⟩ := h0
  refine kcall [0, 1, 2, 13] [] (ledger_Check_ok hy1) rfl rfl rfl Try.call19 (by simp) (by simp; rfl) ?_
  refine ko [0, 1, 2, 8] 1 (by simp; rfl) ?_
  refine tops_nil ?_
  refine kr [0, 1, 2, 8, 15] (by simp; rfl) ?_
  refine tr_cond (b := (y1 != 0)) (by simp) (fun c1 => ?_) (fun c1 => ?_)
  · rw [if_pos c1] at h0
    refine kr [6, 7] (by simp; rfl) ?_
    cases h0
    exact tr_ret ⟨[], by simp, rfl, by simp⟩
  · rw [if_neg (by rw [c1]; decide)] at h0
    refine tr_skip ?_
    refine kr [0, 1, 2, 9] (by simp; rfl) ?_
    refine tr_seq ?_
    refine kr [0, 1, 2, 9, 17, 18, 19] (by simp; rfl) ?_
    refine tr_wk (wk_own 9 35 42 4 (by simp) (by simp)) ?_
    replace h0 := bnd h0; obtain ⟨e1, hI1, h0⟩ := h0
    refine tjv (fun v2 : (List api_Record) => ({ nt := 40, env := [(9, .vec 35)], box := [], vec := [(35, ⟨42, 4, rowsF api_Record_row v2⟩)] } : St)) (fun v2 => v2 = e1) (fun v2 hI1e _ W1 => ?_) ?_
    · subst hI1e
      refine tr_wk W1 ?_
      refine kc ?_
      refine ko [9, 37] 1 (by simp; rfl) ?_
      replace h0 := bnd h0; obtain ⟨y3, hy3, h0⟩ := h0
      refine kcallH [9] [] [35] [(9, 35), (37, 35)] (slices_SortFunc_api_Record_vec0_at_ledger_Line_1_ok hy3) rfl rfl rfl Try.call35 (by simp) (by simp; rfl) ?_
      refine tops_nil ?_
      refine kr [6, 7] (by simp; rfl) ?_
      cases h0
      exact tr_ret ⟨[35], by simp, rfl, by simp⟩
    · refine tr_block (tr_iter (fun s4 : Int × (List api_Record) => ({ nt := 40, env := [(0, .d (.slice (rowsF api_Record_row a0))), (1, .d (.int .i64 a1)), (2, .d (.int .i64 a2)), (9, .vec 35), (17, .d (.slice (rowsF api_Record_row a0))), (18, .d (.int .i64 ((a0).length : Int))), (19, .d (.int .i64 s4.1))], box := [], vec := [(35, ⟨42, 4, rowsF api_Record_row s4.2⟩)] } : St)) hI1 (wk (by simp [weak_iff])) fun G1 s4 o1 h1 hg1 he1 => ?_)
      unfold ledger_Line_l0 at h1
      refine kr [0, 1, 2, 9, 17, 18, 19, 20] (by simp; rfl) ?_
      refine tr_seq ?_
      refine tr_cond (b := (decide (s4.1 < ((a0).length : Int)))) (by simp) (fun c8 => ?_) (fun c8 => ?_)
      · rw [if_pos c8] at h1
        refine tr_skip ?_
        refine tr_seq ?_
        refine tr_block ?_
        replace h1 := bnd h1; obtain ⟨x5, p6, h1⟩ := h1
        replace p6 := idx_some p6
        have p6' := p6; try simp at p6'
        refine kr [0, 1, 2, 9, 10, 11, 17, 18, 19] (by simp [p6, p6']; rfl) ?_
        refine kc ?_
        refine ko [0, 1, 2, 9, 10, 11, 17, 18, 19, 24, 25, 26, 28] 5 (by simp; rfl) ?_
        replace h1 := bnd h1; obtain ⟨y6, hy6, h1⟩ := h1
        refine kcall [0, 1, 2, 9, 10, 11, 17, 18, 19, 29] [] (ledger_believe_ok hy6) rfl rfl rfl Try.call34 (by simp) (by simp; rfl) ?_
        refine ko [0, 1, 2, 9, 11, 17, 18, 19, 31] 2 (by simp; rfl) ?_
        refine tops_nil ?_
        refine tr_cond (b := (y6 == s4.1)) (by simp) (fun c9 => ?_) (fun c9 => ?_)
        · rw [if_pos c9] at h1
          replace h1 := bnd h1; obtain ⟨_, p7, h1⟩ := h1
          replace p7 := ck_some p7
          have p7' := p7; try simp at p7'
          refine lr (by simp [p7, p7']; rfl) ?_
          refine lr (by simp; rfl) ?_
          exact ⟨_, hg1 _ (Option.some.inj h1), wk (by simp [weak_iff])⟩
        · rw [if_neg (by rw [c9]; decide)] at h1
          refine tr_skip ?_
          refine lr (by simp; rfl) ?_
          exact ⟨_, hg1 _ (Option.some.inj h1), wk (by simp [weak_iff])⟩
      · rw [if_neg (by rw [c8]; decide)] at h1
        refine tr_exit ?_
        exact ⟨_, he1 _ (Option.some.inj h1), wk (by simp [weak_iff])⟩
end Go.Vl
