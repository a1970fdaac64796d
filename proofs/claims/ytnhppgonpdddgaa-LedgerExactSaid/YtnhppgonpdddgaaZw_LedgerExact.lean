/- Walks: each function of the given program computes what its mirror says. Conditions: none. -/
import Derived.Test.YtnhppgonpdddgaaVmQ
import Derived.Test.YtnhppgonpdddgaaZw1
set_option linter.unusedSimpArgs false
set_option linter.unusedVariables false
namespace Go.Vl
open Go Go.Proofs
set_option maxHeartbeats 1000000 in
theorem make_Pick_ok {a0 : make_Tape} {a1 : List Int} {r : Int × make_Tape} (h0 : make_Pick a0 a1 = some r) : FnOK Try.prog 18 [make_Tape_av a0] [.ptr (InO 0) 0, .d (.slice (rowsF (iRow .i64) a1))] (.d (.int .i64 r.1)) [make_Tape_av r.2] := by
  unfold make_Pick at h0
  refine fn_ok (nt := 12) (rs := [.tmp 4]) Try.func18 rfl Try.ntmps18 rfl (by simp) (by decide) rfl fun K => ?_
  refine kr [0, 1] (by simp; rfl) ?_
  refine kc ?_
  refine ko [5, 6, 8] 4 (by simp; rfl) ?_
  replace h0 := bnd h0; obtain ⟨y1, hy1, h0⟩ := h0
  refine kcall [5, 9] [1000000] (make_Tape_Next_ok hy1) rfl rfl rfl Try.call14 (by simp) (by simp; rfl) ?_
  replace h0 := bnd h0; obtain ⟨x2, p1, h0⟩ := h0
  replace p1 := idx_some p1
  have p1' := p1; try simp at p1'
  refine ko [4] 3 (by simp [p1, p1']; rfl) ?_
  refine tops_nil ?_
  cases h0
  exact tr_ret ⟨[], by simp, rfl, by simp⟩
set_option maxHeartbeats 1000000 in
theorem ref42_in_ok {a0 : Int} {a1 : Int} {a2 : Int} {r : Bool} (h0 : ref42_in a0 a1 a2 = some r) : FnOK Try.prog 43 [] [.d (.int .i64 a0), .d (.int .i64 a1), .d (.int .i64 a2)] (.d (.bool r)) [] := by
  unfold ref42_in at h0
  refine fn_ok (nt := 15) (rs := [.tmp 6]) Try.func43 rfl Try.ntmps43 rfl (by simp) (by decide) rfl fun K => ?_
  refine kr [0, 1, 2] (by simp; rfl) ?_
  replace h0 := bnd h0; obtain ⟨v1, hvv1, h0⟩ := h0
  refine sjv (fun v1_ : Bool => ({ nt := 15, env := [(6, .d (.bool v1_))], box := [], vec := [] } : St)) (fun v1_ => v1 = v1_) (fun v1_ e => ?_) ?_
  · subst e
    cases h0
    exact tr_ret ⟨[], by simp, rfl, by simp⟩
  · refine kc1 ?_
    refine ko [0, 2, 10] 4 (by simp; rfl) ?_
    refine tops_split 10 (decide (a1 ≤ a0)) (by simp) (fun c3 => ?_) (fun c3 => ?_)
    · rw [c3] at hvv1
      refine ko [6] 5 (by simp; rfl) ?_
      refine tops_nil ?_
      cases hvv1
      exact ⟨_, rfl, wk (by simp [weak_iff])⟩
    · rw [c3] at hvv1
      refine kskip 3 [] (by kernel_rfl) ?_
      refine ko [6] 2 (by simp; rfl) ?_
      refine tops_nil ?_
      cases hvv1
      exact ⟨_, rfl, wk (by simp [weak_iff])⟩
set_option maxHeartbeats 1000000 in
theorem ref42_Valid_ok {a0 : List api_Record} {r : Bool} (h0 : ref42_Valid a0 = some r) : FnOK Try.prog 38 [] [.d (.slice (rowsF api_Record_row a0))] (.d (.bool r)) [] := by
  unfold ref42_Valid at h0
  refine fn_ok (nt := 53) (rs := [.tmp 2]) Try.func38 rfl Try.ntmps38 rfl (by simp) (by decide) rfl fun K => ?_
  refine kr [0] (by simp; rfl) ?_
  refine tr_seq ?_
  refine kr [0, 7] (by simp; rfl) ?_
  refine tr_cond (b := (decide (100 < ((a0).length : Int)))) (by simp) (fun c1 => ?_) (fun c1 => ?_)
  · rw [if_pos c1] at h0
    refine kr [2] (by simp; rfl) ?_
    cases h0
    exact tr_ret ⟨[], by simp, rfl, by simp⟩
  · rw [if_neg (by rw [c1]; decide)] at h0
    refine tr_skip ?_
    refine tr_seq ?_
    refine kr [0, 8, 9, 10] (by simp; rfl) ?_
    replace h0 := bnd h0; obtain ⟨e1, hI1, h0⟩ := h0
    refine tjv (fun v1 : Unit => ({ nt := 53, env := [], box := [], vec := [] } : St)) (fun v1 => .inl v1 = e1) (fun v1 hI1e _ W1 => ?_) ?_
    · subst hI1e
      dsimp only at h0
      refine tr_wk W1 ?_
      refine kr [2] (by simp; rfl) ?_
      cases h0
      exact tr_ret ⟨[], by simp, rfl, by simp⟩
    · refine tr_block (tr_iter (fun s2 : Int => ({ nt := 53, env := [(0, .d (.slice (rowsF api_Record_row a0))), (8, .d (.slice (rowsF api_Record_row a0))), (9, .d (.int .i64 ((a0).length : Int))), (10, .d (.int .i64 s2))], box := [], vec := [] } : St)) hI1 (wk (by simp [weak_iff])) fun G1 s2 o1 h1 hg1 he1 => ?_)
      unfold ref42_Valid_l0 at h1
      refine kr [0, 8, 9, 10, 11] (by simp; rfl) ?_
      refine tr_seq ?_
      refine tr_cond (b := (decide (s2 < ((a0).length : Int)))) (by simp) (fun c48 => ?_) (fun c48 => ?_)
      · rw [if_pos c48] at h1
        refine tr_skip ?_
        refine tr_seq ?_
        refine tr_block ?_
        replace h1 := bnd h1; obtain ⟨x3, p9, h1⟩ := h1
        replace p9 := idx_some p9
        have p9' := p9; try simp at p9'
        refine kr [0, 3, 4, 8, 9, 10] (by simp [p9, p9']; rfl) ?_
        replace h1 := bnd h1; obtain ⟨v4, hvv4, h1⟩ := h1
        refine sjv (fun v4_ : Bool => ({ nt := 53, env := [(0, .d (.slice (rowsF api_Record_row a0))), (8, .d (.slice (rowsF api_Record_row a0))), (9, .d (.int .i64 ((a0).length : Int))), (10, .d (.int .i64 s2)), (51, .d (.bool v4_))], box := [], vec := [] } : St)) (fun v4_ => v4 = v4_) (fun v4_ e => ?_) ?_
        · subst e
          refine tr_cond (b := v4) (by simp) (fun c91 => ?_) (fun c91 => ?_)
          · rw [if_pos c91] at h1
            refine kr [2] (by simp; rfl) ?_
            have k1 := he1 _ (Option.some.inj h1)
            subst k1
            dsimp only at h0
            cases h0
            exact tr_ret ⟨[], by simp, rfl, by simp⟩
          · rw [if_neg (by rw [c91]; decide)] at h1
            refine tr_skip ?_
            refine lr (by simp; rfl) ?_
            exact ⟨_, hg1 _ (Option.some.inj h1), wk (by simp [weak_iff])⟩
        · refine kd1 [[], [0], [1], [2], [3], [4], [4, 5], [4, 6], [7], [7, 8], [7], [7], [7, 11], [7, 10, 12], [7, 13], [7, 14], [7, 9, 15], [4, 7, 16], [4, 17], [18], [19], [19, 20], [19, 21], [19, 22], [19, 23], [24], [25], [25, 26], [25, 27], [25, 28], [25, 29], [30], [31], [31, 32], [31, 33], [31, 34], [31, 35]] [] [] none [] 37 fol (by decide +kernel) (by simp) ?_
          refine dr_go 0 2 rfl (by simp (maxSteps := 1000000); rfl) ?_
          replace hvv4 := bnd hvv4; obtain ⟨y5, hy5, hvv4⟩ := hvv4
          refine dr_call 2 [] (ref42_in_ok hy5) rfl rfl rfl rfl rfl Try.call43 (by simp) ?_
          refine dr_go 3 2 rfl (by simp (maxSteps := 1000000); rfl) ?_
          refine dr_split 4 19 (!y5) (by simp) (fun c106 => ?_) (fun c106 => ?_)
          · rw [if_pos c106] at hvv4
            refine dr_skip 5 53 [some 20, some 21, some 22, some 23, some 24, some 25, some 26, some 27, some 28, some 29, some 30, some 31, some 32] rfl rfl (by decide) (by kernel_rfl) (by simp only [skEf, List.map_cons, List.map_nil, List.cons_append, List.nil_append]; rfl) ?_
            refine dr_go 18 2 rfl (by simp (maxSteps := 1000000); rfl) ?_
            refine dr_skip 20 53 [some 35, some 36, some 37, some 38] rfl rfl (by decide) (by kernel_rfl) (by simp only [skEf, List.map_cons, List.map_nil, List.cons_append, List.nil_append]; rfl) ?_
            refine dr_go 24 2 rfl (by simp (maxSteps := 1000000); rfl) ?_
            refine dr_skip 26 53 [some 41, some 42, some 43, some 44] rfl rfl (by decide) (by kernel_rfl) (by simp only [skEf, List.map_cons, List.map_nil, List.cons_append, List.nil_append]; rfl) ?_
            refine dr_go 30 2 rfl (by simp (maxSteps := 1000000); rfl) ?_
            refine dr_skip 32 53 [some 47, some 48, some 49, some 50] rfl rfl (by decide) (by kernel_rfl) (by simp only [skEf, List.map_cons, List.map_nil, List.cons_append, List.nil_append]; rfl) ?_
            refine dr_go 36 1 rfl (by simp (maxSteps := 1000000); rfl) ?_
            refine dr_end rfl (tops_nil ?_)
            cases hvv4
            exact ⟨_, rfl, wk (by simp [weak_iff])⟩
          · rw [if_neg (by rw [c106]; decide)] at hvv4
            refine dr_go 5 2 rfl (by simp (maxSteps := 1000000); rfl) ?_
            refine dr_go 7 1 rfl (by simp (maxSteps := 1000000); rfl) ?_
            refine dr_split 7 22 (decide (0 < s2)) (by simp) (fun c107 => ?_) (fun c107 => ?_)
            · rw [if_pos c107] at hvv4
              replace hvv4 := bnd hvv4; obtain ⟨x6, p18, hvv4⟩ := hvv4
              replace p18 := idx_some p18
              have p18' := p18; try simp at p18'
              refine dr_go 8 2 rfl (by simp (maxSteps := 1000000) [p18, p18']; rfl) ?_
              refine dr_go 10 2 rfl (by simp (maxSteps := 1000000) [p18, p18']; rfl) ?_
              refine dr_go 12 2 rfl (by simp (maxSteps := 1000000) [p18, p18']; rfl) ?_
              refine dr_go 14 2 rfl (by simp (maxSteps := 1000000) [p18, p18']; rfl) ?_
              refine dr_go 16 2 rfl (by simp (maxSteps := 1000000) [p18, p18']; rfl) ?_
              refine dr_go 18 2 rfl (by simp (maxSteps := 1000000) [p18, p18']; rfl) ?_
              refine dr_split 19 34 (decide (x3.Known < x6.Known)) (by simp) (fun c108 => ?_) (fun c108 => ?_)
              · rw [if_pos c108] at hvv4
                refine dr_skip 20 53 [some 35, some 36, some 37, some 38] rfl rfl (by decide) (by kernel_rfl) (by simp only [skEf, List.map_cons, List.map_nil, List.cons_append, List.nil_append]; rfl) ?_
                refine dr_go 24 2 rfl (by simp (maxSteps := 1000000); rfl) ?_
                refine dr_skip 26 53 [some 41, some 42, some 43, some 44] rfl rfl (by decide) (by kernel_rfl) (by simp only [skEf, List.map_cons, List.map_nil, List.cons_append, List.nil_append]; rfl) ?_
                refine dr_go 30 2 rfl (by simp (maxSteps := 1000000); rfl) ?_
                refine dr_skip 32 53 [some 47, some 48, some 49, some 50] rfl rfl (by decide) (by kernel_rfl) (by simp only [skEf, List.map_cons, List.map_nil, List.cons_append, List.nil_append]; rfl) ?_
                refine dr_go 36 1 rfl (by simp (maxSteps := 1000000); rfl) ?_
                refine dr_end rfl (tops_nil ?_)
                cases hvv4
                exact ⟨_, rfl, wk (by simp [weak_iff])⟩
              · rw [if_neg (by rw [c108]; decide)] at hvv4
                refine dr_go 20 2 rfl (by simp (maxSteps := 1000000); rfl) ?_
                replace hvv4 := bnd hvv4; obtain ⟨y7, hy7, hvv4⟩ := hvv4
                refine dr_call 22 [] (ref42_in_ok hy7) rfl rfl rfl rfl rfl Try.call43 (by simp) ?_
                refine dr_go 23 2 rfl (by simp (maxSteps := 1000000); rfl) ?_
                refine dr_go 25 1 rfl (by simp (maxSteps := 1000000); rfl) ?_
                refine dr_split 25 40 (!y7) (by simp) (fun c109 => ?_) (fun c109 => ?_)
                · rw [if_pos c109] at hvv4
                  refine dr_skip 26 53 [some 41, some 42, some 43, some 44] rfl rfl (by decide) (by kernel_rfl) (by simp only [skEf, List.map_cons, List.map_nil, List.cons_append, List.nil_append]; rfl) ?_
                  refine dr_go 30 2 rfl (by simp (maxSteps := 1000000); rfl) ?_
                  refine dr_skip 32 53 [some 47, some 48, some 49, some 50] rfl rfl (by decide) (by kernel_rfl) (by simp only [skEf, List.map_cons, List.map_nil, List.cons_append, List.nil_append]; rfl) ?_
                  refine dr_go 36 1 rfl (by simp (maxSteps := 1000000); rfl) ?_
                  refine dr_end rfl (tops_nil ?_)
                  cases hvv4
                  exact ⟨_, rfl, wk (by simp [weak_iff])⟩
                · rw [if_neg (by rw [c109]; decide)] at hvv4
                  refine dr_go 26 2 rfl (by simp (maxSteps := 1000000); rfl) ?_
                  replace hvv4 := bnd hvv4; obtain ⟨y8, hy8, hvv4⟩ := hvv4
                  refine dr_call 28 [] (ref42_in_ok hy8) rfl rfl rfl rfl rfl Try.call43 (by simp) ?_
                  refine dr_go 29 2 rfl (by simp (maxSteps := 1000000); rfl) ?_
                  refine dr_go 31 1 rfl (by simp (maxSteps := 1000000); rfl) ?_
                  refine dr_split 31 46 (!y8) (by simp) (fun c110 => ?_) (fun c110 => ?_)
                  · rw [if_pos c110] at hvv4
                    refine dr_skip 32 53 [some 47, some 48, some 49, some 50] rfl rfl (by decide) (by kernel_rfl) (by simp only [skEf, List.map_cons, List.map_nil, List.cons_append, List.nil_append]; rfl) ?_
                    refine dr_go 36 1 rfl (by simp (maxSteps := 1000000); rfl) ?_
                    refine dr_end rfl (tops_nil ?_)
                    cases hvv4
                    exact ⟨_, rfl, wk (by simp [weak_iff])⟩
                  · rw [if_neg (by rw [c110]; decide)] at hvv4
                    refine dr_go 32 2 rfl (by simp (maxSteps := 1000000); rfl) ?_
                    replace hvv4 := bnd hvv4; obtain ⟨y9, hy9, hvv4⟩ := hvv4
                    refine dr_call 34 [] (ref42_in_ok hy9) rfl rfl rfl rfl rfl Try.call43 (by simp) ?_
                    refine dr_go 35 2 rfl (by simp (maxSteps := 1000000); rfl) ?_
                    refine dr_end rfl (tops_nil ?_)
                    cases hvv4
                    exact ⟨_, rfl, wk (by simp [weak_iff])⟩
            · rw [if_neg (by rw [c107]; decide)] at hvv4
              refine dr_skip 8 53 [some 23, some 24, some 25, some 26, some 27, some 28, some 29, some 30, some 31] rfl rfl (by decide) (by kernel_rfl) (by simp only [skEf, List.map_cons, List.map_nil, List.cons_append, List.nil_append]; rfl) ?_
              refine dr_go 17 2 rfl (by simp (maxSteps := 1000000); rfl) ?_
              refine dr_go 19 2 rfl (by simp (maxSteps := 1000000); rfl) ?_
              refine dr_go 21 1 rfl (by simp (maxSteps := 1000000); rfl) ?_
              replace hvv4 := bnd hvv4; obtain ⟨y10, hy10, hvv4⟩ := hvv4
              refine dr_call 22 [] (ref42_in_ok hy10) rfl rfl rfl rfl rfl Try.call43 (by simp) ?_
              refine dr_go 23 2 rfl (by simp (maxSteps := 1000000); rfl) ?_
              refine dr_go 25 1 rfl (by simp (maxSteps := 1000000); rfl) ?_
              refine dr_split 25 40 (!y10) (by simp) (fun c111 => ?_) (fun c111 => ?_)
              · rw [if_pos c111] at hvv4
                refine dr_skip 26 53 [some 41, some 42, some 43, some 44] rfl rfl (by decide) (by kernel_rfl) (by simp only [skEf, List.map_cons, List.map_nil, List.cons_append, List.nil_append]; rfl) ?_
                refine dr_go 30 2 rfl (by simp (maxSteps := 1000000); rfl) ?_
                refine dr_skip 32 53 [some 47, some 48, some 49, some 50] rfl rfl (by decide) (by kernel_rfl) (by simp only [skEf, List.map_cons, List.map_nil, List.cons_append, List.nil_append]; rfl) ?_
                refine dr_go 36 1 rfl (by simp (maxSteps := 1000000); rfl) ?_
                refine dr_end rfl (tops_nil ?_)
                cases hvv4
                exact ⟨_, rfl, wk (by simp [weak_iff])⟩
              · rw [if_neg (by rw [c111]; decide)] at hvv4
                refine dr_go 26 2 rfl (by simp (maxSteps := 1000000); rfl) ?_
                replace hvv4 := bnd hvv4; obtain ⟨y11, hy11, hvv4⟩ := hvv4
                refine dr_call 28 [] (ref42_in_ok hy11) rfl rfl rfl rfl rfl Try.call43 (by simp) ?_
                refine dr_go 29 2 rfl (by simp (maxSteps := 1000000); rfl) ?_
                refine dr_go 31 1 rfl (by simp (maxSteps := 1000000); rfl) ?_
                refine dr_split 31 46 (!y11) (by simp) (fun c112 => ?_) (fun c112 => ?_)
                · rw [if_pos c112] at hvv4
                  refine dr_skip 32 53 [some 47, some 48, some 49, some 50] rfl rfl (by decide) (by kernel_rfl) (by simp only [skEf, List.map_cons, List.map_nil, List.cons_append, List.nil_append]; rfl) ?_
                  refine dr_go 36 1 rfl (by simp (maxSteps := 1000000); rfl) ?_
                  refine dr_end rfl (tops_nil ?_)
                  cases hvv4
                  exact ⟨_, rfl, wk (by simp [weak_iff])⟩
                · rw [if_neg (by rw [c112]; decide)] at hvv4
                  refine dr_go 32 2 rfl (by simp (maxSteps := 1000000); rfl) ?_
                  replace hvv4 := bnd hvv4; obtain ⟨y12, hy12, hvv4⟩ := hvv4
                  refine dr_call 34 [] (ref42_in_ok hy12) rfl rfl rfl rfl rfl Try.call43 (by simp) ?_
                  refine dr_go 35 2 rfl (by simp (maxSteps := 1000000); rfl) ?_
                  refine dr_end rfl (tops_nil ?_)
                  cases hvv4
                  exact ⟨_, rfl, wk (by simp [weak_iff])⟩
      · rw [if_neg (by rw [c48]; decide)] at h1
        refine tr_exit ?_
        exact ⟨_, he1 _ (Option.some.inj h1), wk (by simp [weak_iff])⟩
set_option maxHeartbeats 1000000 in
theorem ref42_Check_ok {a0 : List api_Record} {r : Int} (h0 : ref42_Check a0 = some r) : FnOK Try.prog 20 [] [.d (.slice (rowsF api_Record_row a0))] (.d (.int .i64 r)) [] := by
  unfold ref42_Check at h0
  refine fn_ok (nt := 6) (rs := [.tmp 2]) Try.func20 rfl Try.ntmps20 rfl (by simp) (by decide) rfl fun K => ?_
  refine kr [0] (by simp; rfl) ?_
  refine tr_seq ?_
  refine kc ?_
  refine ko [3] 1 (by simp; rfl) ?_
  replace h0 := bnd h0; obtain ⟨y1, hy1, h0⟩ := h0
  refine kcall [4] [] (ref42_Valid_ok hy1) rfl rfl rfl Try.call38 (by simp) (by simp; rfl) ?_
  refine ko [5] 1 (by simp; rfl) ?_
  refine tops_nil ?_
  refine tr_cond (b := (!y1)) (by simp) (fun c1 => ?_) (fun c1 => ?_)
  · rw [if_pos c1] at h0
    refine kr [2] (by simp; rfl) ?_
    cases h0
    exact tr_ret ⟨[], by simp, rfl, by simp⟩
  · rw [if_neg (by rw [c1]; decide)] at h0
    refine tr_skip ?_
    refine kr [2] (by simp; rfl) ?_
    cases h0
    exact tr_ret ⟨[], by simp, rfl, by simp⟩
set_option maxHeartbeats 1000000 in
theorem ref42_says_ok {a0 : List api_Record} {a1 : Int} {a2 : Int} {a3 : Int} {r : Int} (h0 : ref42_says a0 a1 a2 a3 = some r) : FnOK Try.prog 39 [] [.d (.slice (rowsF api_Record_row a0)), .d (.int .i64 a1), .d (.int .i64 a2), .d (.int .i64 a3)] (.d (.int .i64 r)) [] := by
  unfold ref42_says at h0
  refine fn_ok (nt := 52) (rs := [.tmp 8]) Try.func39 rfl Try.ntmps39 rfl (by simp) (by decide) rfl fun K => ?_
  refine kr [0, 1, 2, 3] (by simp; rfl) ?_
  refine kr [0, 1, 2, 3, 9] (by simp; rfl) ?_
  refine tr_seq ?_
  refine kr [0, 1, 2, 3, 9, 12, 13, 14] (by simp; rfl) ?_
  replace h0 := bnd h0; obtain ⟨e1, hI1, h0⟩ := h0
  refine tjv (fun v1 : Int => ({ nt := 52, env := [(9, .d (.int .i64 v1))], box := [], vec := [] } : St)) (fun v1 => v1 = e1) (fun v1 hI1e _ W1 => ?_) ?_
  · subst hI1e
    refine tr_wk W1 ?_
    refine kr [8] (by simp; rfl) ?_
    cases h0
    exact tr_ret ⟨[], by simp, rfl, by simp⟩
  · refine tr_block (tr_iter (fun s2 : Int × Int => ({ nt := 52, env := [(0, .d (.slice (rowsF api_Record_row a0))), (1, .d (.int .i64 a1)), (2, .d (.int .i64 a2)), (3, .d (.int .i64 a3)), (9, .d (.int .i64 s2.1)), (12, .d (.slice (rowsF api_Record_row a0))), (13, .d (.int .i64 ((a0).length : Int))), (14, .d (.int .i64 s2.2))], box := [], vec := [] } : St)) hI1 (wk (by simp [weak_iff])) fun G1 s2 o1 h1 hg1 he1 => ?_)
    unfold ref42_says_l0 at h1
    refine kr [0, 1, 2, 3, 9, 12, 13, 14, 15] (by simp; rfl) ?_
    refine tr_seq ?_
    refine tr_cond (b := (decide (s2.2 < ((a0).length : Int)))) (by simp) (fun c29 => ?_) (fun c29 => ?_)
    · rw [if_pos c29] at h1
      refine tr_skip ?_
      refine tr_seq ?_
      refine tr_block ?_
      replace h1 := bnd h1; obtain ⟨x3, p9, h1⟩ := h1
      replace p9 := idx_some p9
      have p9' := p9; try simp at p9'
      refine kr [0, 1, 2, 3, 9, 10, 11, 12, 13, 14] (by simp [p9, p9']; rfl) ?_
      replace h1 := bnd h1; obtain ⟨v4, hvv4, h1⟩ := h1
      refine sjv (fun v4_ : Bool => ({ nt := 52, env := [(0, .d (.slice (rowsF api_Record_row a0))), (1, .d (.int .i64 a1)), (2, .d (.int .i64 a2)), (3, .d (.int .i64 a3)), (9, .d (.int .i64 s2.1)), (10, .d (.int .i64 s2.2)), (12, .d (.slice (rowsF api_Record_row a0))), (13, .d (.int .i64 ((a0).length : Int))), (14, .d (.int .i64 s2.2)), (48, .d (.bool v4_))], box := [], vec := [] } : St)) (fun v4_ => v4 = v4_) (fun v4_ e => ?_) ?_
      · subst e
        refine tr_cond (b := v4) (by simp) (fun c54 => ?_) (fun c54 => ?_)
        · rw [if_pos c54] at h1
          refine lr (by simp; rfl) ?_
          refine lr (by simp; rfl) ?_
          exact ⟨_, hg1 _ (Option.some.inj h1), wk (by simp [weak_iff])⟩
        · rw [if_neg (by rw [c54]; decide)] at h1
          refine tr_skip ?_
          refine lr (by simp; rfl) ?_
          exact ⟨_, hg1 _ (Option.some.inj h1), wk (by simp [weak_iff])⟩
      · refine kd1 [[], [0], [], [1, 2], [3], [4], [4, 5], [4], [4, 6, 7], [4, 8], [9], [10], [10, 11], [10], [10, 12, 13], [10, 14], [15], [16], [16, 17], [16, 18], [19], [19, 20], [19], [19], [19, 22, 23], [19, 24], [19, 25], [19, 21, 26], [16, 19, 27], [16, 28]] [] [] none [] 30 fol (by decide +kernel) (by simp) ?_
        refine dr_go 0 2 rfl (by simp (maxSteps := 1000000); rfl) ?_
        refine dr_go 2 2 rfl (by simp (maxSteps := 1000000); rfl) ?_
        refine dr_go 4 1 rfl (by simp (maxSteps := 1000000); rfl) ?_
        refine dr_split 4 23 (decide (x3.Known ≤ a1)) (by simp) (fun c63 => ?_) (fun c63 => ?_)
        · rw [if_pos c63] at hvv4
          refine dr_go 5 2 rfl (by simp (maxSteps := 1000000); rfl) ?_
          refine dr_go 7 2 rfl (by simp (maxSteps := 1000000); rfl) ?_
          refine dr_go 9 2 rfl (by simp (maxSteps := 1000000); rfl) ?_
          refine dr_split 10 29 (x3.Subject == a2) (by simp) (fun c64 => ?_) (fun c64 => ?_)
          · rw [if_pos c64] at hvv4
            refine dr_go 11 2 rfl (by simp (maxSteps := 1000000); rfl) ?_
            refine dr_go 13 2 rfl (by simp (maxSteps := 1000000); rfl) ?_
            refine dr_go 15 2 rfl (by simp (maxSteps := 1000000); rfl) ?_
            refine dr_split 16 35 (decide (x3.Since ≤ a3)) (by simp) (fun c65 => ?_) (fun c65 => ?_)
            · rw [if_pos c65] at hvv4
              refine dr_go 17 2 rfl (by simp (maxSteps := 1000000); rfl) ?_
              refine dr_go 19 1 rfl (by simp (maxSteps := 1000000); rfl) ?_
              refine dr_split 19 38 (decide (s2.1 < 0)) (by simp) (fun c66 => ?_) (fun c66 => ?_)
              · rw [if_pos c66] at hvv4
                refine dr_skip 20 52 [some 39, some 40, some 41, some 42, some 43, some 44, some 45, some 46] rfl rfl (by decide) (by kernel_rfl) (by simp only [skEf, List.map_cons, List.map_nil, List.cons_append, List.nil_append]; rfl) ?_
                refine dr_go 28 2 rfl (by simp (maxSteps := 1000000); rfl) ?_
                refine dr_end rfl (tops_nil ?_)
                cases hvv4
                exact ⟨_, rfl, wk (by simp [weak_iff])⟩
              · rw [if_neg (by rw [c66]; decide)] at hvv4
                replace hvv4 := bnd hvv4; obtain ⟨x5, p18, hvv4⟩ := hvv4
                replace p18 := idx_some p18
                have p18' := p18; try simp at p18'
                refine dr_go 20 2 rfl (by simp (maxSteps := 1000000) [p18, p18']; rfl) ?_
                refine dr_go 22 2 rfl (by simp (maxSteps := 1000000) [p18, p18']; rfl) ?_
                refine dr_go 24 2 rfl (by simp (maxSteps := 1000000) [p18, p18']; rfl) ?_
                refine dr_go 26 2 rfl (by simp (maxSteps := 1000000) [p18, p18']; rfl) ?_
                refine dr_go 28 2 rfl (by simp (maxSteps := 1000000) [p18, p18']; rfl) ?_
                refine dr_end rfl (tops_nil ?_)
                cases hvv4
                exact ⟨_, rfl, wk (by simp [weak_iff])⟩
            · rw [if_neg (by rw [c65]; decide)] at hvv4
              refine dr_skip 17 52 [some 36, some 37, some 38, some 39, some 40, some 41, some 42, some 43, some 44, some 45, some 46, some 47] rfl rfl (by decide) (by kernel_rfl) (by simp only [skEf, List.map_cons, List.map_nil, List.cons_append, List.nil_append]; rfl) ?_
              refine dr_go 29 1 rfl (by simp (maxSteps := 1000000); rfl) ?_
              refine dr_end rfl (tops_nil ?_)
              cases hvv4
              exact ⟨_, rfl, wk (by simp [weak_iff])⟩
          · rw [if_neg (by rw [c64]; decide)] at hvv4
            refine dr_skip 11 52 [some 30, some 31, some 32, some 33] rfl rfl (by decide) (by kernel_rfl) (by simp only [skEf, List.map_cons, List.map_nil, List.cons_append, List.nil_append]; rfl) ?_
            refine dr_go 15 2 rfl (by simp (maxSteps := 1000000); rfl) ?_
            refine dr_skip 17 52 [some 36, some 37, some 38, some 39, some 40, some 41, some 42, some 43, some 44, some 45, some 46, some 47] rfl rfl (by decide) (by kernel_rfl) (by simp only [skEf, List.map_cons, List.map_nil, List.cons_append, List.nil_append]; rfl) ?_
            refine dr_go 29 1 rfl (by simp (maxSteps := 1000000); rfl) ?_
            refine dr_end rfl (tops_nil ?_)
            cases hvv4
            exact ⟨_, rfl, wk (by simp [weak_iff])⟩
        · rw [if_neg (by rw [c63]; decide)] at hvv4
          refine dr_skip 5 52 [some 24, some 25, some 26, some 27] rfl rfl (by decide) (by kernel_rfl) (by simp only [skEf, List.map_cons, List.map_nil, List.cons_append, List.nil_append]; rfl) ?_
          refine dr_go 9 2 rfl (by simp (maxSteps := 1000000); rfl) ?_
          refine dr_skip 11 52 [some 30, some 31, some 32, some 33] rfl rfl (by decide) (by kernel_rfl) (by simp only [skEf, List.map_cons, List.map_nil, List.cons_append, List.nil_append]; rfl) ?_
          refine dr_go 15 2 rfl (by simp (maxSteps := 1000000); rfl) ?_
          refine dr_skip 17 52 [some 36, some 37, some 38, some 39, some 40, some 41, some 42, some 43, some 44, some 45, some 46, some 47] rfl rfl (by decide) (by kernel_rfl) (by simp only [skEf, List.map_cons, List.map_nil, List.cons_append, List.nil_append]; rfl) ?_
          refine dr_go 29 1 rfl (by simp (maxSteps := 1000000); rfl) ?_
          refine dr_end rfl (tops_nil ?_)
          cases hvv4
          exact ⟨_, rfl, wk (by simp [weak_iff])⟩
    · rw [if_neg (by rw [c29]; decide)] at h1
      refine tr_exit ?_
      exact ⟨_, he1 _ (Option.some.inj h1), wk (by simp [weak_iff])⟩
set_option maxHeartbeats 1000000 in
theorem ref42_Believe_ok {a0 : List api_Record} {a1 : Int} {a2 : Int} {a3 : Int} {r : api_Belief × Bool} (h0 : ref42_Believe a0 a1 a2 a3 = some r) : FnOK Try.prog 21 [] [.d (.slice (rowsF api_Record_row a0)), .d (.int .i64 a1), .d (.int .i64 a2), .d (.int .i64 a3)] (.tup [.agg (api_Belief_av r.1), .d (.bool r.2)]) [] := by
  unfold ref42_Believe at h0
  refine fn_ok (nt := 30) (rs := [.cell 8 38, .tmp 9]) Try.func21 rfl Try.ntmps21 rfl (by simp) (by decide) rfl fun K => ?_
  refine kr [0, 1, 2, 3, 8] (by simp; rfl) ?_
  refine tr_seq ?_
  refine kc ?_
  refine ko [0, 1, 2, 3, 8, 11] 1 (by simp; rfl) ?_
  replace h0 := bnd h0; obtain ⟨y1, hy1, h0⟩ := h0
  refine kcall [0, 1, 2, 3, 8, 12] [] (ref42_Valid_ok hy1) rfl rfl rfl Try.call38 (by simp) (by simp; rfl) ?_
  refine ko [0, 1, 2, 3, 8, 13] 1 (by simp; rfl) ?_
  refine tops_nil ?_
  refine tr_cond (b := (!y1)) (by simp) (fun c1 => ?_) (fun c1 => ?_)
  · rw [if_pos c1] at h0
    refine kr [8, 9] (by simp; rfl) ?_
    cases h0
    exact tr_ret ⟨[], by simp, rfl, by simp⟩
  · rw [if_neg (by rw [c1]; decide)] at h0
    refine tr_skip ?_
    refine kc ?_
    refine ko [0, 8, 15, 16, 17, 18] 4 (by simp; rfl) ?_
    replace h0 := bnd h0; obtain ⟨y2, hy2, h0⟩ := h0
    refine kcall [0, 8, 19] [] (ref42_says_ok hy2) rfl rfl rfl Try.call39 (by simp) (by simp; rfl) ?_
    refine ko [0, 8, 10] 1 (by simp; rfl) ?_
    refine tops_nil ?_
    refine tr_seq ?_
    refine kr [0, 8, 10, 21] (by simp; rfl) ?_
    refine tr_cond (b := (decide (y2 < 0))) (by simp) (fun c2 => ?_) (fun c2 => ?_)
    · rw [if_pos c2] at h0
      refine kr [8, 9] (by simp; rfl) ?_
      cases h0
      exact tr_ret ⟨[], by simp, rfl, by simp⟩
    · rw [if_neg (by rw [c2]; decide)] at h0
      refine tr_skip ?_
      replace h0 := bnd h0; obtain ⟨x3, p1, h0⟩ := h0
      replace p1 := idx_some p1
      have p1' := p1; try simp at p1'
      refine kr [8, 9] (by simp [p1, p1']; rfl) ?_
      cases h0
      exact tr_ret ⟨[], by simp, rfl, by simp⟩
set_option maxHeartbeats 1000000 in
theorem ref42_Line_ok {a0 : List api_Record} {a1 : Int} {a2 : Int} {r : (List api_Record) × Int} (h0 : ref42_Line a0 a1 a2 = some r) : FnOK Try.prog 22 [] [.d (.slice (rowsF api_Record_row a0)), .d (.int .i64 a1), .d (.int .i64 a2)] (.tup [.d (.slice (rowsF api_Record_row r.1)), .d (.int .i64 r.2)]) [] := by
  unfold ref42_Line at h0
  refine fn_okK (nt := 70) (rs := [.tmp 6, .tmp 7]) Try.func22 rfl Try.ntmps22 rfl (by simp) (by decide) rfl fun K hK => ?_
  refine kr [0, 1, 2] (by simp; rfl) ?_
  refine tr_seq ?_
  refine kc ?_
  refine ko [0, 1, 2, 12] 1 (by simp; rfl) ?_
  replace h0 := bnd h0; obtain ⟨y1, hy1, h0⟩ := h0
  refine kcall [0, 1, 2, 13] [] (ref42_Valid_ok hy1) rfl rfl rfl Try.call38 (by simp) (by simp; rfl) ?_
  refine ko [0, 1, 2, 14] 1 (by simp; rfl) ?_
  refine tops_nil ?_
  refine tr_cond (b := (!y1)) (by simp) (fun c1 => ?_) (fun c1 => ?_)
  · rw [if_pos c1] at h0
    refine kr [6, 7] (by simp; rfl) ?_
    cases h0
    exact tr_ret ⟨[], by simp, rfl, by simp⟩
  · rw [if_neg (by rw [c1]; decide)] at h0
    refine tr_skip ?_
    refine kr [0, 1, 2, 8] (by simp; rfl) ?_
    refine tr_seq ?_
    refine kr [0, 1, 2, 8, 15, 16, 17] (by simp; rfl) ?_
    refine tr_wk (wk_own 8 67 42 4 (by simp) (by simp)) ?_
    replace h0 := bnd h0; obtain ⟨e1, hI1, h0⟩ := h0
    refine tjv (fun v2 : (List api_Record) => ({ nt := 70, env := [(8, .vec 67)], box := [], vec := [(67, ⟨42, 4, rowsF api_Record_row v2⟩)] } : St)) (fun v2 => v2 = e1) (fun v2 hI1e _ W1 => ?_) ?_
    · subst hI1e
      refine tr_wk W1 ?_
      refine kr [6, 7] (by simp; rfl) ?_
      cases h0
      exact tr_ret ⟨[67], by simp, rfl, by simp⟩
    · refine tr_block (tr_iter (fun s3 : Int × (List api_Record) => ({ nt := 70, env := [(0, .d (.slice (rowsF api_Record_row a0))), (1, .d (.int .i64 a1)), (2, .d (.int .i64 a2)), (8, .vec 67), (15, .d (.slice (rowsF api_Record_row a0))), (16, .d (.int .i64 ((a0).length : Int))), (17, .d (.int .i64 s3.1))], box := [], vec := [(67, ⟨42, 4, rowsF api_Record_row s3.2⟩)] } : St)) hI1 (wk (by simp [weak_iff])) fun G1 s3 o1 h1 hg1 he1 => ?_)
      unfold ref42_Line_l0 at h1
      refine kr [0, 1, 2, 8, 15, 16, 17, 18] (by simp; rfl) ?_
      refine tr_seq ?_
      refine tr_cond (b := (decide (s3.1 < ((a0).length : Int)))) (by simp) (fun c38 => ?_) (fun c38 => ?_)
      · rw [if_pos c38] at h1
        refine tr_skip ?_
        refine tr_seq ?_
        refine tr_block ?_
        replace h1 := bnd h1; obtain ⟨x4, p59, h1⟩ := h1
        replace p59 := idx_some p59
        have p59' := p59; try simp at p59'
        refine kr [0, 1, 2, 8, 9, 10, 15, 16, 17] (by simp [p59, p59']; rfl) ?_
        replace h1 := bnd h1; obtain ⟨v5, hvv5, h1⟩ := h1
        refine sjv (fun v5_ : Bool => ({ nt := 70, env := [(0, .d (.slice (rowsF api_Record_row a0))), (1, .d (.int .i64 a1)), (2, .d (.int .i64 a2)), (8, .vec 67), (10, .ptr 10 0), (15, .d (.slice (rowsF api_Record_row a0))), (16, .d (.int .i64 ((a0).length : Int))), (17, .d (.int .i64 s3.1)), (41, .d (.bool v5_))], box := [(10, [.d (.int .i64 x4.Known), .d (.int .i64 x4.Since), .d (.int .i64 x4.Subject), .d (.int .i64 x4.Value)])], vec := [(67, ⟨42, 4, rowsF api_Record_row s3.2⟩)] } : St)) (fun v5_ => v5 = v5_) (fun v5_ e => ?_) ?_
        · subst e
          refine tr_cond (b := v5) (by simp) (fun c43 => ?_) (fun c43 => ?_)
          · rw [if_pos c43] at h1
            refine kr [0, 1, 2, 8, 10, 11, 15, 16, 17] (by simp; rfl) ?_
            replace h1 := bnd h1; obtain ⟨e2, hI2, h1⟩ := h1
            refine sjv (fun v6 : Int => ({ nt := 70, env := [(0, .d (.slice (rowsF api_Record_row a0))), (1, .d (.int .i64 a1)), (2, .d (.int .i64 a2)), (8, .vec 67), (10, .ptr 10 0), (11, .d (.int .i64 v6)), (15, .d (.slice (rowsF api_Record_row a0))), (16, .d (.int .i64 ((a0).length : Int))), (17, .d (.int .i64 s3.1))], box := [(10, [.d (.int .i64 x4.Known), .d (.int .i64 x4.Since), .d (.int .i64 x4.Subject), .d (.int .i64 x4.Value)])], vec := [(67, ⟨42, 4, rowsF api_Record_row s3.2⟩)] } : St)) (fun v6 => v6 = e2) (fun v6 hI2e => ?_) ?_
            · subst hI2e
              replace h1 := bnd h1; obtain ⟨_, p72, h1⟩ := h1
              replace p72 := ck_some p72
              have p72' := p72; try simp at p72'
              replace h1 := bnd h1; obtain ⟨_, p73, h1⟩ := h1
              replace p73 := ck_some p73
              have p73' := p73; try simp at p73'
              replace h1 := bnd h1; obtain ⟨_, p74, h1⟩ := h1
              replace p74 := ck_some p74
              have p74' := p74; try simp at p74'
              replace h1 := bnd h1; obtain ⟨_, p75, h1⟩ := h1
              replace p75 := ck_some p75
              have p75' := p75; try simp at p75'
              replace h1 := bnd h1; obtain ⟨_, p76, h1⟩ := h1
              replace p76 := ck_some p76
              have p76' := p76; try simp at p76'
              replace h1 := bnd h1; obtain ⟨_, p77, h1⟩ := h1
              replace p77 := ck_some p77
              have p77' := p77; try simp at p77'
              refine kheld1 (S0 := ({ nt := 70, env := [(0, .d (.slice (rowsF api_Record_row a0))), (1, .d (.int .i64 a1)), (2, .d (.int .i64 a2)), (8, .vec 67), (15, .d (.slice (rowsF api_Record_row a0))), (16, .d (.int .i64 ((a0).length : Int))), (17, .d (.int .i64 s3.1))], box := [], vec := [(67, ⟨42, 4, rowsF api_Record_row (((s3.2).take (Int.toNat v6)) ++ ([x4] ++ ((((s3.2).drop (Int.toNat v6))).take ((s3.2).length - (Int.toNat v6)))))⟩)] } : St)) [0, 1, 2, 5, 6, 7] 5 (by simpa using hK) fol (by decide +kernel) rfl rfl rfl (by simp [stillsL, stillB, pureP, pureB, p72, p73, p74, p75, p76, p77, p72', p73', p74', p75', p76', p77']; rfl) (fun K' S F C => ?_) (fun _ Wk80 => ?_)
              ·
                refine ho_all C [3] (by decide +kernel) (by decide) ?_
                refine hall_cons rfl (by simp [p72, p73, p74, p75, p76, p77, p72', p73', p74', p75', p76', p77']; rfl) ?_ ?_
                ·
                  refine ho_all C [4] (by decide +kernel) (by decide) ?_
                  refine hall_cons rfl (by simp [p72, p73, p74, p75, p76, p77, p72', p73', p74', p75', p76', p77']; rfl) ?_ ?_
                  ·
                    refine ho_all C [8] (by decide +kernel) (by decide) ?_
                    refine hall_cons rfl (by simp [p72, p73, p74, p75, p76, p77, p72', p73', p74', p75', p76', p77']; rfl) ?_ ?_
                    ·
                      refine ho_all C [9] (by decide +kernel) (by decide) ?_
                      refine hall_cons rfl (by simp [p72, p73, p74, p75, p76, p77, p72', p73', p74', p75', p76', p77']; rfl) ?_ ?_
                      ·
                        refine ho_pure C 10 rfl (by decide +kernel) (by decide +kernel) (by simp [pureP, pureB]) (by simp [p72, p73, p74, p75, p76, p77, p72', p73', p74', p75', p76', p77']; rfl) ?_
                        exact ho_end C (by decide +kernel) ⟨rfl, weak_iff.2 (by simp)⟩
                      exact trivial
                    exact trivial
                  exact trivial
                exact trivial
              ·
                refine tr_wk (wk Wk80) ?_
                refine lr (by simp; rfl) ?_
                exact ⟨_, hg1 _ (Option.some.inj h1), wk (by simp [weak_iff])⟩
            · refine tr_block (tr_iter (fun s7 : Int => ({ nt := 70, env := [(0, .d (.slice (rowsF api_Record_row a0))), (1, .d (.int .i64 a1)), (2, .d (.int .i64 a2)), (8, .vec 67), (10, .ptr 10 0), (11, .d (.int .i64 s7)), (15, .d (.slice (rowsF api_Record_row a0))), (16, .d (.int .i64 ((a0).length : Int))), (17, .d (.int .i64 s3.1))], box := [(10, [.d (.int .i64 x4.Known), .d (.int .i64 x4.Since), .d (.int .i64 x4.Subject), .d (.int .i64 x4.Value)])], vec := [(67, ⟨42, 4, rowsF api_Record_row s3.2⟩)] } : St)) hI2 (wk (by simp [weak_iff])) fun G2 s7 o2 h2 hg2 he2 => ?_)
              unfold ref42_Line_l1 at h2
              refine tr_seq ?_
              replace h2 := bnd h2; obtain ⟨v8, hvv8, h2⟩ := h2
              refine sjv (fun v8_ : Bool => ({ nt := 70, env := [(0, .d (.slice (rowsF api_Record_row a0))), (1, .d (.int .i64 a1)), (2, .d (.int .i64 a2)), (8, .vec 67), (10, .ptr 10 0), (11, .d (.int .i64 s7)), (15, .d (.slice (rowsF api_Record_row a0))), (16, .d (.int .i64 ((a0).length : Int))), (17, .d (.int .i64 s3.1)), (55, .d (.bool v8_))], box := [(10, [.d (.int .i64 x4.Known), .d (.int .i64 x4.Since), .d (.int .i64 x4.Subject), .d (.int .i64 x4.Value)])], vec := [(67, ⟨42, 4, rowsF api_Record_row s3.2⟩)] } : St)) (fun v8_ => v8 = v8_) (fun v8_ e => ?_) ?_
              · subst e
                refine tr_cond (b := v8) (by simp) (fun c58 => ?_) (fun c58 => ?_)
                · rw [if_pos c58] at h2
                  refine tr_skip ?_
                  refine tr_block ?_
                  refine lr (by simp; rfl) ?_
                  exact ⟨_, hg2 _ (Option.some.inj h2), wk (by simp [weak_iff])⟩
                · rw [if_neg (by rw [c58]; decide)] at h2
                  refine tr_exit ?_
                  exact ⟨_, he2 _ (Option.some.inj h2), wk (by simp [weak_iff])⟩
              · refine kd1 [[], [], [1], [0, 2], [2, 3], [2, 4], [2, 4], [2, 4, 5, 6], [2, 4, 7], [2, 4, 8], [2, 4], [2, 4, 10], [2, 4, 9, 11], [2, 4, 12]] [] [] none [] 14 fol (by decide +kernel) (by simp) ?_
                refine dr_go 0 2 rfl (by simp (maxSteps := 1000000); rfl) ?_
                refine dr_go 2 2 rfl (by simp (maxSteps := 1000000); rfl) ?_
                refine dr_go 4 1 rfl (by simp (maxSteps := 1000000); rfl) ?_
                refine dr_split 4 46 (decide (s7 < ((s3.2).length : Int))) (by simp) (fun c61 => ?_) (fun c61 => ?_)
                · rw [if_pos c61] at hvv8
                  replace hvv8 := bnd hvv8; obtain ⟨_, p97, hvv8⟩ := hvv8
                  replace p97 := ck_some p97
                  have p97' := p97; try simp at p97'
                  have p97o : s7 < (((s3.2)).length : Int) := by omega
                  replace hvv8 := bnd hvv8; obtain ⟨x9, p98, hvv8⟩ := hvv8
                  replace p98 := idx_some p98
                  have p98' := p98; try simp at p98'
                  refine dr_go 5 2 rfl (by simp (maxSteps := 1000000) [-getElem?_pos, List.getElem?_cons_zero, List.getElem?_cons_succ, p97, p97o, p98, p97', p98']; rfl) ?_
                  refine dr_go 7 2 rfl (by simp (maxSteps := 1000000) [-getElem?_pos, List.getElem?_cons_zero, List.getElem?_cons_succ, p97, p97o, p98, p97', p98']; rfl) ?_
                  refine dr_go 9 2 rfl (by simp (maxSteps := 1000000) [-getElem?_pos, List.getElem?_cons_zero, List.getElem?_cons_succ, p97, p97o, p98, p97', p98']; rfl) ?_
                  refine dr_go 11 2 rfl (by simp (maxSteps := 1000000) [-getElem?_pos, List.getElem?_cons_zero, List.getElem?_cons_succ, p97, p97o, p98, p97', p98']; rfl) ?_
                  refine dr_go 13 1 rfl (by simp (maxSteps := 1000000) [-getElem?_pos, List.getElem?_cons_zero, List.getElem?_cons_succ, p97, p97o, p98, p97', p98']; rfl) ?_
                  refine dr_end rfl (tops_nil ?_)
                  cases hvv8
                  exact ⟨_, rfl, wk (by simp [weak_iff])⟩
                · rw [if_neg (by rw [c61]; decide)] at hvv8
                  refine dr_skip 5 70 [some 47, some 48, some 49, some 50, some 51, some 52, some 53, some 54] rfl rfl (by decide) (by kernel_rfl) (by simp only [skEf, List.map_cons, List.map_nil, List.cons_append, List.nil_append]; rfl) ?_
                  refine dr_go 13 1 rfl (by simp (maxSteps := 1000000); rfl) ?_
                  refine dr_end rfl (tops_nil ?_)
                  cases hvv8
                  exact ⟨_, rfl, wk (by simp [weak_iff])⟩
          · rw [if_neg (by rw [c43]; decide)] at h1
            refine tr_skip ?_
            refine lr (by simp; rfl) ?_
            exact ⟨_, hg1 _ (Option.some.inj h1), wk (by simp [weak_iff])⟩
        · refine kc1 ?_
          refine ko [0, 1, 2, 8, 9, 10, 15, 16, 17, 26] 5 (by simp; rfl) ?_
          refine tops_split 26 (decide (x4.Known ≤ a1)) (by simp) (fun c62 => ?_) (fun c62 => ?_)
          · rw [if_pos c62] at hvv5
            refine ko [0, 1, 2, 8, 9, 10, 15, 16, 17, 27, 28, 29, 30, 32] 6 (by simp; rfl) ?_
            refine tops_split 32 (x4.Subject == a2) (by simp) (fun c63 => ?_) (fun c63 => ?_)
            · rw [if_pos c63] at hvv5
              refine ko [0, 1, 2, 8, 9, 10, 15, 16, 17, 27, 28, 29, 30, 32, 33, 34, 35, 36, 37] 5 (by simp; rfl) ?_
              replace hvv5 := bnd hvv5; obtain ⟨y10, hy10, hvv5⟩ := hvv5
              refine kcall [0, 1, 2, 8, 9, 10, 15, 16, 17, 27, 28, 29, 30, 32, 33, 34, 35, 36, 37, 38] [] (ref42_says_ok hy10) rfl rfl rfl Try.call39 (by simp) (by simp; rfl) ?_
              refine ko [0, 1, 2, 8, 10, 15, 16, 17, 27, 28, 29, 30, 33, 34, 35, 36, 37, 38, 39, 40, 41] 3 (by simp; rfl) ?_
              refine tops_nil ?_
              cases hvv5
              exact ⟨_, rfl, wk (by simp [weak_iff])⟩
            · rw [if_neg (by rw [c63]; decide)] at hvv5
              refine kskip 8 [] (by kernel_rfl) ?_
              refine ko [0, 1, 2, 8, 10, 15, 16, 17, 27, 28, 29, 30, 41] 1 (by simp; rfl) ?_
              refine tops_nil ?_
              cases hvv5
              exact ⟨_, rfl, wk (by simp [weak_iff])⟩
          · rw [if_neg (by rw [c62]; decide)] at hvv5
            refine kskip 4 [] (by kernel_rfl) ?_
            refine ko [0, 1, 2, 8, 9, 10, 15, 16, 17, 32] 2 (by simp; rfl) ?_
            refine kskip 8 [] (by kernel_rfl) ?_
            refine ko [0, 1, 2, 8, 10, 15, 16, 17, 41] 1 (by simp; rfl) ?_
            refine tops_nil ?_
            cases hvv5
            exact ⟨_, rfl, wk (by simp [weak_iff])⟩
      · rw [if_neg (by rw [c38]; decide)] at h1
        refine tr_exit ?_
        exact ⟨_, he1 _ (Option.some.inj h1), wk (by simp [weak_iff])⟩
set_option maxHeartbeats 1000000 in
theorem ledger_Changes_ok {a0 : List api_Record} {a1 : Int} {a2 : Int} {r : (List api_Belief) × Int} (h0 : ledger_Changes a0 a1 a2 = some r) : FnOK Try.prog 25 [] [.d (.slice (rowsF api_Record_row a0)), .d (.int .i64 a1), .d (.int .i64 a2)] (.tup [.d (.slice (rowsF api_Belief_row r.1)), .d (.int .i64 r.2)]) [] := by
  unfold ledger_Changes at h0
  refine fn_ok (nt := 47) (rs := [.tmp 6, .tmp 7]) Try.func25 rfl Try.ntmps25 rfl (by simp) (by decide) rfl fun K => ?_
  refine kr [0, 1, 2] (by simp; rfl) ?_
  refine tr_seq ?_
  refine kc ?_
  refine ko [0, 1, 2, 14] 1 (by simp; rfl) ?_
  replace h0 := bnd h0; obtain ⟨y1, hy1, h0⟩ := h0
  refine kcall [0, 1, 2, 15] [] (ledger_Check_ok hy1) rfl rfl rfl Try.call19 (by simp) (by simp; rfl) ?_
  refine ko [0, 1, 2, 8] 1 (by simp; rfl) ?_
  refine tops_nil ?_
  refine kr [0, 1, 2, 8, 17] (by simp; rfl) ?_
  refine tr_cond (b := (y1 != 0)) (by simp) (fun c1 => ?_) (fun c1 => ?_)
  · rw [if_pos c1] at h0
    refine kr [6, 7] (by simp; rfl) ?_
    cases h0
    exact tr_ret ⟨[], by simp, rfl, by simp⟩
  · rw [if_neg (by rw [c1]; decide)] at h0
    refine tr_skip ?_
    refine kr [0, 1, 2, 9] (by simp; rfl) ?_
    refine kr [0, 1, 2, 9, 10] (by simp; rfl) ?_
    refine tr_seq ?_
    refine kr [0, 1, 2, 9, 10, 19, 20, 21] (by simp; rfl) ?_
    refine tr_wk (wk_own 9 43 38 2 (by simp) (by simp)) ?_
    replace h0 := bnd h0; obtain ⟨e1, hI1, h0⟩ := h0
    refine tjv (fun v2 : (List api_Belief) => ({ nt := 47, env := [(9, .vec 43)], box := [], vec := [(43, ⟨38, 2, rowsF api_Belief_row v2⟩)] } : St)) (fun v2 => v2 = e1) (fun v2 hI1e _ W1 => ?_) ?_
    · subst hI1e
      refine tr_wk W1 ?_
      refine kr [6, 7] (by simp; rfl) ?_
      cases h0
      exact tr_ret ⟨[43], by simp, rfl, by simp⟩
    · refine tr_block (tr_iter (fun s3 : Int × Int × (List api_Belief) => ({ nt := 47, env := [(0, .d (.slice (rowsF api_Record_row a0))), (1, .d (.int .i64 a1)), (2, .d (.int .i64 a2)), (9, .vec 43), (10, .d (.int .i64 s3.1)), (19, .d (.slice (rowsF api_Record_row a0))), (20, .d (.int .i64 ((a0).length : Int))), (21, .d (.int .i64 s3.2.1))], box := [], vec := [(43, ⟨38, 2, rowsF api_Belief_row s3.2.2⟩)] } : St)) hI1 (wk (by simp [weak_iff])) fun G1 s3 o1 h1 hg1 he1 => ?_)
      unfold ledger_Changes_l0 at h1
      refine kr [0, 1, 2, 9, 10, 19, 20, 21, 22] (by simp; rfl) ?_
      refine tr_seq ?_
      refine tr_cond (b := (decide (s3.2.1 < ((a0).length : Int)))) (by simp) (fun c8 => ?_) (fun c8 => ?_)
      · rw [if_pos c8] at h1
        refine tr_skip ?_
        refine tr_seq ?_
        refine tr_block ?_
        replace h1 := bnd h1; obtain ⟨x4, p9, h1⟩ := h1
        replace p9 := idx_some p9
        have p9' := p9; try simp at p9'
        refine kr [0, 1, 2, 9, 10, 12, 19, 20, 21] (by simp [p9, p9']; rfl) ?_
        refine kc ?_
        refine ko [0, 1, 2, 9, 10, 19, 20, 21, 25, 27, 28, 29] 5 (by simp; rfl) ?_
        replace h1 := bnd h1; obtain ⟨y5, hy5, h1⟩ := h1
        refine kcall [0, 1, 2, 9, 10, 19, 20, 21, 30] [] (ledger_believe_ok hy5) rfl rfl rfl Try.call34 (by simp) (by simp; rfl) ?_
        refine ko [0, 1, 2, 9, 10, 13, 19, 20, 21] 1 (by simp; rfl) ?_
        refine tops_nil ?_
        refine kr [0, 1, 2, 9, 10, 13, 19, 20, 21, 33] (by simp; rfl) ?_
        refine tr_cond (b := (y5 != s3.1)) (by simp) (fun c9 => ?_) (fun c9 => ?_)
        · rw [if_pos c9] at h1
          replace h1 := bnd h1; obtain ⟨x6, p10, h1⟩ := h1
          replace p10 := idx_some p10
          have p10' := p10; try simp at p10'
          replace h1 := bnd h1; obtain ⟨_, p11, h1⟩ := h1
          replace p11 := ck_some p11
          have p11' := p11; try simp at p11'
          refine lr (by simp [p10, p11, p10', p11']; rfl) ?_
          refine lr (by simp; rfl) ?_
          exact ⟨_, hg1 _ (Option.some.inj h1), wk (by simp [weak_iff])⟩
        · rw [if_neg (by rw [c9]; decide)] at h1
          refine tr_skip ?_
          refine lr (by simp; rfl) ?_
          exact ⟨_, hg1 _ (Option.some.inj h1), wk (by simp [weak_iff])⟩
      · rw [if_neg (by rw [c8]; decide)] at h1
        refine tr_exit ?_
        exact ⟨_, he1 _ (Option.some.inj h1), wk (by simp [weak_iff])⟩
set_option maxHeartbeats 1000000 in
theorem ledger_Learned_ok {a0 : List api_Record} {a1 : Int} {a2 : Int} {a3 : Int} {r : Int × Bool} (h0 : ledger_Learned a0 a1 a2 a3 = some r) : FnOK Try.prog 23 [] [.d (.slice (rowsF api_Record_row a0)), .d (.int .i64 a1), .d (.int .i64 a2), .d (.int .i64 a3)] (.tup [.d (.int .i64 r.1), .d (.bool r.2)]) [] := by
  unfold ledger_Learned at h0
  refine fn_ok (nt := 38) (rs := [.tmp 8, .tmp 9]) Try.func23 rfl Try.ntmps23 rfl (by simp) (by decide) rfl fun K => ?_
  refine kr [0, 1, 2, 3] (by simp; rfl) ?_
  refine kc ?_
  refine ko [0, 3, 15, 16, 17] 3 (by simp; rfl) ?_
  replace h0 := bnd h0; obtain ⟨y1, hy1, h0⟩ := h0
  refine kcall [0, 3, 18] [] (ledger_Changes_ok hy1) rfl rfl rfl Try.call25 (by simp) (by simp; rfl) ?_
  refine ko [0, 3, 10] 5 (by simp; rfl) ?_
  refine tops_nil ?_
  refine tr_seq ?_
  refine kr [0, 3, 21, 22, 23] (by simp; rfl) ?_
  replace h0 := bnd h0; obtain ⟨e1, hI1, h0⟩ := h0
  refine tjv (fun v2 : Unit => ({ nt := 38, env := [], box := [], vec := [] } : St)) (fun v2 => .inl v2 = e1) (fun v2 hI1e _ W1 => ?_) ?_
  · subst hI1e
    dsimp only at h0
    refine tr_wk W1 ?_
    refine kr [8, 9] (by simp; rfl) ?_
    cases h0
    exact tr_ret ⟨[], by simp, rfl, by simp⟩
  · refine tr_block (tr_iter (fun s3 : Int => ({ nt := 38, env := [(0, .d (.slice (rowsF api_Record_row a0))), (3, .d (.int .i64 a3)), (21, .d (.slice (rowsF api_Belief_row y1.1))), (22, .d (.int .i64 ((y1.1).length : Int))), (23, .d (.int .i64 s3))], box := [], vec := [] } : St)) hI1 (wk (by simp [weak_iff])) fun G1 s3 o1 h1 hg1 he1 => ?_)
    unfold ledger_Learned_l0 at h1
    refine kr [0, 3, 21, 22, 23, 24] (by simp; rfl) ?_
    refine tr_seq ?_
    refine tr_cond (b := (decide (s3 < ((y1.1).length : Int)))) (by simp) (fun c5 => ?_) (fun c5 => ?_)
    · rw [if_pos c5] at h1
      refine tr_skip ?_
      refine tr_seq ?_
      refine tr_block ?_
      replace h1 := bnd h1; obtain ⟨x4, p5, h1⟩ := h1
      replace p5 := idx_some p5
      have p5' := p5; try simp at p5'
      refine kr [0, 3, 13, 21, 22, 23] (by simp [p5, p5']; rfl) ?_
      refine kr [0, 3, 13, 21, 22, 23, 30] (by simp; rfl) ?_
      refine tr_cond (b := (x4.Value == a3)) (by simp) (fun c6 => ?_) (fun c6 => ?_)
      · rw [if_pos c6] at h1
        replace h1 := bnd h1; obtain ⟨x5, p6, h1⟩ := h1
        replace p6 := idx_some p6
        have p6' := p6; try simp at p6'
        refine kr [8, 9] (by simp [p6, p6']; rfl) ?_
        have k1 := he1 _ (Option.some.inj h1)
        subst k1
        dsimp only at h0
        cases h0
        exact tr_ret ⟨[], by simp, rfl, by simp⟩
      · rw [if_neg (by rw [c6]; decide)] at h1
        refine tr_skip ?_
        refine lr (by simp; rfl) ?_
        exact ⟨_, hg1 _ (Option.some.inj h1), wk (by simp [weak_iff])⟩
    · rw [if_neg (by rw [c5]; decide)] at h1
      refine tr_exit ?_
      exact ⟨_, he1 _ (Option.some.inj h1), wk (by simp [weak_iff])⟩
set_option maxHeartbeats 1000000 in
theorem ref42_Learned_ok {a0 : List api_Record} {a1 : Int} {a2 : Int} {a3 : Int} {r : Int × Bool} (h0 : ref42_Learned a0 a1 a2 a3 = some r) : FnOK Try.prog 24 [] [.d (.slice (rowsF api_Record_row a0)), .d (.int .i64 a1), .d (.int .i64 a2), .d (.int .i64 a3)] (.tup [.d (.int .i64 r.1), .d (.bool r.2)]) [] := by
  unfold ref42_Learned at h0
  refine fn_ok (nt := 42) (rs := [.tmp 8, .tmp 9]) Try.func24 rfl Try.ntmps24 rfl (by simp) (by decide) rfl fun K => ?_
  refine kr [0, 1, 2, 3] (by simp; rfl) ?_
  refine tr_seq ?_
  refine kc ?_
  refine ko [0, 1, 2, 3, 14] 1 (by simp; rfl) ?_
  replace h0 := bnd h0; obtain ⟨y1, hy1, h0⟩ := h0
  refine kcall [0, 1, 2, 3, 15] [] (ref42_Valid_ok hy1) rfl rfl rfl Try.call38 (by simp) (by simp; rfl) ?_
  refine ko [0, 1, 2, 3, 16] 1 (by simp; rfl) ?_
  refine tops_nil ?_
  refine tr_cond (b := (!y1)) (by simp) (fun c1 => ?_) (fun c1 => ?_)
  · rw [if_pos c1] at h0
    refine kr [8, 9] (by simp; rfl) ?_
    cases h0
    exact tr_ret ⟨[], by simp, rfl, by simp⟩
  · rw [if_neg (by rw [c1]; decide)] at h0
    refine tr_skip ?_
    refine tr_seq ?_
    refine kr [0, 1, 2, 3, 17, 18, 19] (by simp; rfl) ?_
    replace h0 := bnd h0; obtain ⟨e1, hI1, h0⟩ := h0
    refine tjv (fun v2 : Unit => ({ nt := 42, env := [], box := [], vec := [] } : St)) (fun v2 => .inl v2 = e1) (fun v2 hI1e _ W1 => ?_) ?_
    · subst hI1e
      dsimp only at h0
      refine tr_wk W1 ?_
      refine kr [8, 9] (by simp; rfl) ?_
      cases h0
      exact tr_ret ⟨[], by simp, rfl, by simp⟩
    · refine tr_block (tr_iter (fun s3 : Int => ({ nt := 42, env := [(0, .d (.slice (rowsF api_Record_row a0))), (1, .d (.int .i64 a1)), (2, .d (.int .i64 a2)), (3, .d (.int .i64 a3)), (17, .d (.slice (rowsF api_Record_row a0))), (18, .d (.int .i64 ((a0).length : Int))), (19, .d (.int .i64 s3))], box := [], vec := [] } : St)) hI1 (wk (by simp [weak_iff])) fun G1 s3 o1 h1 hg1 he1 => ?_)
      unfold ref42_Learned_l0 at h1
      refine kr [0, 1, 2, 3, 17, 18, 19, 20] (by simp; rfl) ?_
      refine tr_seq ?_
      refine tr_cond (b := (decide (s3 < ((a0).length : Int)))) (by simp) (fun c8 => ?_) (fun c8 => ?_)
      · rw [if_pos c8] at h1
        refine tr_skip ?_
        refine tr_seq ?_
        refine tr_block ?_
        replace h1 := bnd h1; obtain ⟨x4, p3, h1⟩ := h1
        replace p3 := idx_some p3
        have p3' := p3; try simp at p3'
        refine kr [0, 1, 2, 3, 11, 17, 18, 19] (by simp [p3, p3']; rfl) ?_
        refine kc ?_
        refine ko [0, 1, 2, 3, 11, 17, 18, 19, 24, 26, 27, 28] 5 (by simp; rfl) ?_
        replace h1 := bnd h1; obtain ⟨y5, hy5, h1⟩ := h1
        refine kcall [0, 1, 2, 3, 11, 17, 18, 19, 29] [] (ref42_Believe_ok hy5) rfl rfl rfl Try.call21 (by simp) (by simp; rfl) ?_
        refine ko [0, 1, 2, 3, 11, 12, 13, 17, 18, 19] 6 (by simp; rfl) ?_
        refine tops_nil ?_
        replace h1 := bnd h1; obtain ⟨v6, hvv6, h1⟩ := h1
        refine sjv (fun v6_ : Bool => ({ nt := 42, env := [(0, .d (.slice (rowsF api_Record_row a0))), (1, .d (.int .i64 a1)), (2, .d (.int .i64 a2)), (3, .d (.int .i64 a3)), (11, .ptr 11 0), (17, .d (.slice (rowsF api_Record_row a0))), (18, .d (.int .i64 ((a0).length : Int))), (19, .d (.int .i64 s3)), (38, .d (.bool v6_))], box := [(11, [.d (.int .i64 x4.Known), .d (.int .i64 x4.Since), .d (.int .i64 x4.Subject), .d (.int .i64 x4.Value)])], vec := [] } : St)) (fun v6_ => v6 = v6_) (fun v6_ e => ?_) ?_
        · subst e
          refine tr_cond (b := v6) (by simp) (fun c11 => ?_) (fun c11 => ?_)
          · rw [if_pos c11] at h1
            refine kr [8, 9] (by simp; rfl) ?_
            have k1 := he1 _ (Option.some.inj h1)
            subst k1
            dsimp only at h0
            cases h0
            exact tr_ret ⟨[], by simp, rfl, by simp⟩
          · rw [if_neg (by rw [c11]; decide)] at h1
            refine tr_skip ?_
            refine lr (by simp; rfl) ?_
            exact ⟨_, hg1 _ (Option.some.inj h1), wk (by simp [weak_iff])⟩
        · refine kc1 ?_
          refine ko [0, 1, 2, 3, 11, 12, 17, 18, 19, 33] 2 (by simp; rfl) ?_
          refine tops_split 33 y5.2 (by simp) (fun c12 => ?_) (fun c12 => ?_)
          · rw [c12] at hvv6
            refine ko [0, 1, 2, 3, 11, 17, 18, 19, 34, 35, 36, 37, 38] 5 (by simp; rfl) ?_
            refine tops_nil ?_
            cases hvv6
            exact ⟨_, rfl, wk (by simp [weak_iff])⟩
          · rw [c12] at hvv6
            refine kskip 4 [] (by kernel_rfl) ?_
            refine ko [0, 1, 2, 3, 11, 17, 18, 19, 38] 1 (by simp; rfl) ?_
            refine tops_nil ?_
            cases hvv6
            exact ⟨_, rfl, wk (by simp [weak_iff])⟩
      · rw [if_neg (by rw [c8]; decide)] at h1
        refine tr_exit ?_
        exact ⟨_, he1 _ (Option.some.inj h1), wk (by simp [weak_iff])⟩
set_option maxHeartbeats 1000000 in
theorem ref42_Changes_ok {a0 : List api_Record} {a1 : Int} {a2 : Int} {r : (List api_Belief) × Int} (h0 : ref42_Changes a0 a1 a2 = some r) : FnOK Try.prog 26 [] [.d (.slice (rowsF api_Record_row a0)), .d (.int .i64 a1), .d (.int .i64 a2)] (.tup [.d (.slice (rowsF api_Belief_row r.1)), .d (.int .i64 r.2)]) [] := by
  unfold ref42_Changes at h0
  refine fn_ok (nt := 55) (rs := [.tmp 6, .tmp 7]) Try.func26 rfl Try.ntmps26 rfl (by simp) (by decide) rfl fun K => ?_
  refine kr [0, 1, 2] (by simp; rfl) ?_
  refine tr_seq ?_
  refine kc ?_
  refine ko [0, 1, 2, 13] 1 (by simp; rfl) ?_
  replace h0 := bnd h0; obtain ⟨y1, hy1, h0⟩ := h0
  refine kcall [0, 1, 2, 14] [] (ref42_Valid_ok hy1) rfl rfl rfl Try.call38 (by simp) (by simp; rfl) ?_
  refine ko [0, 1, 2, 15] 1 (by simp; rfl) ?_
  refine tops_nil ?_
  refine tr_cond (b := (!y1)) (by simp) (fun c1 => ?_) (fun c1 => ?_)
  · rw [if_pos c1] at h0
    refine kr [6, 7] (by simp; rfl) ?_
    cases h0
    exact tr_ret ⟨[], by simp, rfl, by simp⟩
  · rw [if_neg (by rw [c1]; decide)] at h0
    refine tr_skip ?_
    refine kr [0, 1, 2, 8] (by simp; rfl) ?_
    refine tr_seq ?_
    refine kr [0, 1, 2, 8, 16, 17, 18] (by simp; rfl) ?_
    refine tr_wk (wk_own 8 52 38 2 (by simp) (by simp)) ?_
    replace h0 := bnd h0; obtain ⟨e1, hI1, h0⟩ := h0
    refine tjv (fun v2 : (List api_Belief) => ({ nt := 55, env := [(8, .vec 52)], box := [], vec := [(52, ⟨38, 2, rowsF api_Belief_row v2⟩)] } : St)) (fun v2 => v2 = e1) (fun v2 hI1e _ W1 => ?_) ?_
    · subst hI1e
      refine tr_wk W1 ?_
      refine kr [6, 7] (by simp; rfl) ?_
      cases h0
      exact tr_ret ⟨[52], by simp, rfl, by simp⟩
    · refine tr_block (tr_iter (fun s3 : Int × (List api_Belief) => ({ nt := 55, env := [(0, .d (.slice (rowsF api_Record_row a0))), (1, .d (.int .i64 a1)), (2, .d (.int .i64 a2)), (8, .vec 52), (16, .d (.slice (rowsF api_Record_row a0))), (17, .d (.int .i64 ((a0).length : Int))), (18, .d (.int .i64 s3.1))], box := [], vec := [(52, ⟨38, 2, rowsF api_Belief_row s3.2⟩)] } : St)) hI1 (wk (by simp [weak_iff])) fun G1 s3 o1 h1 hg1 he1 => ?_)
      unfold ref42_Changes_l0 at h1
      refine kr [0, 1, 2, 8, 16, 17, 18, 19] (by simp; rfl) ?_
      refine tr_seq ?_
      refine tr_cond (b := (decide (s3.1 < ((a0).length : Int)))) (by simp) (fun c26 => ?_) (fun c26 => ?_)
      · rw [if_pos c26] at h1
        refine tr_skip ?_
        refine tr_seq ?_
        refine tr_block ?_
        replace h1 := bnd h1; obtain ⟨x4, p21, h1⟩ := h1
        replace p21 := idx_some p21
        have p21' := p21; try simp at p21'
        refine kr [0, 1, 2, 8, 10, 16, 17, 18] (by simp [p21, p21']; rfl) ?_
        refine kc ?_
        refine ko [0, 1, 2, 8, 16, 17, 18, 23, 25, 26, 27] 5 (by simp; rfl) ?_
        replace h1 := bnd h1; obtain ⟨y5, hy5, h1⟩ := h1
        refine kcall [0, 1, 2, 8, 16, 17, 18, 28] [] (ref42_Believe_ok hy5) rfl rfl rfl Try.call21 (by simp) (by simp; rfl) ?_
        refine ko [0, 1, 2, 8, 11, 12, 16, 17, 18] 6 (by simp; rfl) ?_
        refine tops_nil ?_
        replace h1 := bnd h1; obtain ⟨v6, hvv6, h1⟩ := h1
        refine sjv (fun v6_ : Bool => ({ nt := 55, env := [(0, .d (.slice (rowsF api_Record_row a0))), (1, .d (.int .i64 a1)), (2, .d (.int .i64 a2)), (8, .vec 52), (11, .ptr 11 0), (16, .d (.slice (rowsF api_Record_row a0))), (17, .d (.int .i64 ((a0).length : Int))), (18, .d (.int .i64 s3.1)), (48, .d (.bool v6_))], box := [(11, [.d (.int .i64 y5.1.Value), .d (.int .i64 y5.1.Record)])], vec := [(52, ⟨38, 2, rowsF api_Belief_row s3.2⟩)] } : St)) (fun v6_ => v6 = v6_) (fun v6_ e => ?_) ?_
        · subst e
          refine tr_cond (b := v6) (by simp) (fun c39 => ?_) (fun c39 => ?_)
          · rw [if_pos c39] at h1
            replace h1 := bnd h1; obtain ⟨_, p34, h1⟩ := h1
            replace p34 := ck_some p34
            have p34' := p34; try simp at p34'
            refine lr (by simp [p34, p34']; rfl) ?_
            refine lr (by simp; rfl) ?_
            exact ⟨_, hg1 _ (Option.some.inj h1), wk (by simp [weak_iff])⟩
          · rw [if_neg (by rw [c39]; decide)] at h1
            refine tr_skip ?_
            refine lr (by simp; rfl) ?_
            exact ⟨_, hg1 _ (Option.some.inj h1), wk (by simp [weak_iff])⟩
        · refine kd1 [[], [0], [1], [1, 2], [1, 3], [1, 3, 4], [3, 5], [3, 5], [3, 5, 7], [3, 5, 8], [3, 5, 6, 8, 9], [3, 5, 8, 10], [3, 5, 8, 11], [3, 5], [3, 5, 13], [3, 5, 8, 12, 14], [1, 3, 5, 8, 15], [1, 3, 8, 16]] [] [] none [] 18 fol (by decide +kernel) (by simp) ?_
          refine dr_go 0 2 rfl (by simp (maxSteps := 1000000); rfl) ?_
          refine dr_split 1 32 y5.2 (by simp) (fun c44 => ?_) (fun c44 => ?_)
          · rw [if_pos c44] at hvv6
            refine dr_go 2 2 rfl (by simp (maxSteps := 1000000); rfl) ?_
            refine dr_go 4 2 rfl (by simp (maxSteps := 1000000); rfl) ?_
            refine dr_split 5 36 (((s3.2).length : Int) == 0) (by simp) (fun c45 => ?_) (fun c45 => ?_)
            · rw [if_pos c45] at hvv6
              refine dr_skip 6 55 [some 37, some 38, some 39, some 40, some 41, some 42, some 43, some 44, some 45, some 46] rfl rfl (by decide) (by kernel_rfl) (by simp only [skEf, List.map_cons, List.map_nil, List.cons_append, List.nil_append]; rfl) ?_
              refine dr_go 16 2 rfl (by simp (maxSteps := 1000000); rfl) ?_
              refine dr_end rfl (tops_nil ?_)
              cases hvv6
              exact ⟨_, rfl, wk (by simp [weak_iff])⟩
            · rw [if_neg (by rw [c45]; decide)] at hvv6
              replace hvv6 := bnd hvv6; obtain ⟨_, p39, hvv6⟩ := hvv6
              replace p39 := ck_some p39
              have p39' := p39; try simp at p39'
              have p39o : IntKind.i64.wrap (((s3.2).length : Int) - 1) < (((s3.2)).length : Int) := by omega
              replace hvv6 := bnd hvv6; obtain ⟨x7, p40, hvv6⟩ := hvv6
              replace p40 := idx_some p40
              have p40' := p40; try simp at p40'
              refine dr_go 6 2 rfl (by simp (maxSteps := 1000000) [-getElem?_pos, List.getElem?_cons_zero, List.getElem?_cons_succ, p39, p39o, p40, p39', p40']; rfl) ?_
              refine dr_go 8 2 rfl (by simp (maxSteps := 1000000) [-getElem?_pos, List.getElem?_cons_zero, List.getElem?_cons_succ, p39, p39o, p40, p39', p40']; rfl) ?_
              refine dr_go 10 2 rfl (by simp (maxSteps := 1000000) [-getElem?_pos, List.getElem?_cons_zero, List.getElem?_cons_succ, p39, p39o, p40, p39', p40']; rfl) ?_
              refine dr_go 12 2 rfl (by simp (maxSteps := 1000000) [-getElem?_pos, List.getElem?_cons_zero, List.getElem?_cons_succ, p39, p39o, p40, p39', p40']; rfl) ?_
              refine dr_go 14 2 rfl (by simp (maxSteps := 1000000) [-getElem?_pos, List.getElem?_cons_zero, List.getElem?_cons_succ, p39, p39o, p40, p39', p40']; rfl) ?_
              refine dr_go 16 2 rfl (by simp (maxSteps := 1000000) [-getElem?_pos, List.getElem?_cons_zero, List.getElem?_cons_succ, p39, p39o, p40, p39', p40']; rfl) ?_
              refine dr_end rfl (tops_nil ?_)
              cases hvv6
              exact ⟨_, rfl, wk (by simp [weak_iff])⟩
          · rw [if_neg (by rw [c44]; decide)] at hvv6
            refine dr_skip 2 55 [some 33, some 34, some 35, some 36, some 37, some 38, some 39, some 40, some 41, some 42, some 43, some 44, some 45, some 46, some 47] rfl rfl (by decide) (by kernel_rfl) (by simp only [skEf, List.map_cons, List.map_nil, List.cons_append, List.nil_append]; rfl) ?_
            refine dr_go 17 1 rfl (by simp (maxSteps := 1000000); rfl) ?_
            refine dr_end rfl (tops_nil ?_)
            cases hvv6
            exact ⟨_, rfl, wk (by simp [weak_iff])⟩
      · rw [if_neg (by rw [c26]; decide)] at h1
        refine tr_exit ?_
        exact ⟨_, he1 _ (Option.some.inj h1), wk (by simp [weak_iff])⟩
set_option maxHeartbeats 1000000 in
theorem ref42_Same_ok {a0 : List api_Record} {a1 : List api_Record} {r : Bool} (h0 : ref42_Same a0 a1 = some r) : FnOK Try.prog 27 [] [.d (.slice (rowsF api_Record_row a0)), .d (.slice (rowsF api_Record_row a1))] (.d (.bool r)) [] := by
  unfold ref42_Same at h0
  refine fn_ok (nt := 26) (rs := [.tmp 4]) Try.func27 rfl Try.ntmps27 rfl (by simp) (by decide) rfl fun K => ?_
  refine kr [0, 1] (by simp; rfl) ?_
  refine tr_seq ?_
  refine kr [0, 1, 10] (by simp; rfl) ?_
  refine tr_cond (b := (((a0).length : Int) != ((a1).length : Int))) (by simp) (fun c1 => ?_) (fun c1 => ?_)
  · rw [if_pos c1] at h0
    refine kr [4] (by simp; rfl) ?_
    cases h0
    exact tr_ret ⟨[], by simp, rfl, by simp⟩
  · rw [if_neg (by rw [c1]; decide)] at h0
    refine tr_skip ?_
    refine tr_seq ?_
    refine kr [0, 1, 12, 13] (by simp; rfl) ?_
    replace h0 := bnd h0; obtain ⟨e1, hI1, h0⟩ := h0
    refine tjv (fun v1 : Unit => ({ nt := 26, env := [], box := [], vec := [] } : St)) (fun v1 => .inl v1 = e1) (fun v1 hI1e _ W1 => ?_) ?_
    · subst hI1e
      dsimp only at h0
      refine tr_wk W1 ?_
      refine kr [4] (by simp; rfl) ?_
      cases h0
      exact tr_ret ⟨[], by simp, rfl, by simp⟩
    · refine tr_block (tr_iter (fun s2 : Int => ({ nt := 26, env := [(0, .d (.slice (rowsF api_Record_row a0))), (1, .d (.slice (rowsF api_Record_row a1))), (12, .d (.int .i64 ((a0).length : Int))), (13, .d (.int .i64 s2))], box := [], vec := [] } : St)) hI1 (wk (by simp [weak_iff])) fun G1 s2 o1 h1 hg1 he1 => ?_)
      unfold ref42_Same_l0 at h1
      refine kr [0, 1, 12, 13, 14] (by simp; rfl) ?_
      refine tr_seq ?_
      refine tr_cond (b := (decide (s2 < ((a0).length : Int)))) (by simp) (fun c6 => ?_) (fun c6 => ?_)
      · rw [if_pos c6] at h1
        refine tr_skip ?_
        refine tr_seq ?_
        refine tr_block ?_
        refine kr [0, 1, 5, 12, 13] (by simp; rfl) ?_
        refine kd [[], [], [0, 1], [2], [], [], [4, 5], [6], [3, 7]] [] [] none [] 9 fol (by decide +kernel) (by simp) ?_
        replace h1 := bnd h1; obtain ⟨x3, p17, h1⟩ := h1
        replace p17 := idx_some p17
        have p17' := p17; try simp at p17'
        replace h1 := bnd h1; obtain ⟨x4, p18, h1⟩ := h1
        replace p18 := idx_some p18
        have p18' := p18; try simp at p18'
        refine dr_go 0 2 rfl (by simp (maxSteps := 1000000) [p17, p18, p17', p18']; rfl) ?_
        refine dr_go 2 2 rfl (by simp (maxSteps := 1000000) [p17, p18, p17', p18']; rfl) ?_
        refine dr_go 4 2 rfl (by simp (maxSteps := 1000000) [p17, p18, p17', p18']; rfl) ?_
        refine dr_go 6 2 rfl (by simp (maxSteps := 1000000) [p17, p18, p17', p18']; rfl) ?_
        refine dr_go 8 1 rfl (by simp (maxSteps := 1000000) [p17, p18, p17', p18']; rfl) ?_
        refine dr_end rfl (tops_nil ?_)
        refine tr_cond (b := (!((x3.Known == x4.Known) && ((x3.Since == x4.Since) && ((x3.Subject == x4.Subject) && (x3.Value == x4.Value)))))) (by simp) (fun c7 => ?_) (fun c7 => ?_)
        · rw [if_pos c7] at h1
          refine kr [4] (by simp; rfl) ?_
          have k1 := he1 _ (Option.some.inj h1)
          subst k1
          dsimp only at h0
          cases h0
          exact tr_ret ⟨[], by simp, rfl, by simp⟩
        · rw [if_neg (by rw [c7]; decide)] at h1
          refine tr_skip ?_
          refine lr (by simp; rfl) ?_
          exact ⟨_, hg1 _ (Option.some.inj h1), wk (by simp [weak_iff])⟩
      · rw [if_neg (by rw [c6]; decide)] at h1
        refine tr_exit ?_
        exact ⟨_, he1 _ (Option.some.inj h1), wk (by simp [weak_iff])⟩
set_option maxHeartbeats 1000000 in
theorem ref42_Beliefs_ok {a0 : List api_Belief} {a1 : List api_Belief} {r : Bool} (h0 : ref42_Beliefs a0 a1 = some r) : FnOK Try.prog 28 [] [.d (.slice (rowsF api_Belief_row a0)), .d (.slice (rowsF api_Belief_row a1))] (.d (.bool r)) [] := by
  unfold ref42_Beliefs at h0
  refine fn_ok (nt := 26) (rs := [.tmp 4]) Try.func28 rfl Try.ntmps28 rfl (by simp) (by decide) rfl fun K => ?_
  refine kr [0, 1] (by simp; rfl) ?_
  refine tr_seq ?_
  refine kr [0, 1, 10] (by simp; rfl) ?_
  refine tr_cond (b := (((a0).length : Int) != ((a1).length : Int))) (by simp) (fun c1 => ?_) (fun c1 => ?_)
  · rw [if_pos c1] at h0
    refine kr [4] (by simp; rfl) ?_
    cases h0
    exact tr_ret ⟨[], by simp, rfl, by simp⟩
  · rw [if_neg (by rw [c1]; decide)] at h0
    refine tr_skip ?_
    refine tr_seq ?_
    refine kr [0, 1, 12, 13] (by simp; rfl) ?_
    replace h0 := bnd h0; obtain ⟨e1, hI1, h0⟩ := h0
    refine tjv (fun v1 : Unit => ({ nt := 26, env := [], box := [], vec := [] } : St)) (fun v1 => .inl v1 = e1) (fun v1 hI1e _ W1 => ?_) ?_
    · subst hI1e
      dsimp only at h0
      refine tr_wk W1 ?_
      refine kr [4] (by simp; rfl) ?_
      cases h0
      exact tr_ret ⟨[], by simp, rfl, by simp⟩
    · refine tr_block (tr_iter (fun s2 : Int => ({ nt := 26, env := [(0, .d (.slice (rowsF api_Belief_row a0))), (1, .d (.slice (rowsF api_Belief_row a1))), (12, .d (.int .i64 ((a0).length : Int))), (13, .d (.int .i64 s2))], box := [], vec := [] } : St)) hI1 (wk (by simp [weak_iff])) fun G1 s2 o1 h1 hg1 he1 => ?_)
      unfold ref42_Beliefs_l0 at h1
      refine kr [0, 1, 12, 13, 14] (by simp; rfl) ?_
      refine tr_seq ?_
      refine tr_cond (b := (decide (s2 < ((a0).length : Int)))) (by simp) (fun c6 => ?_) (fun c6 => ?_)
      · rw [if_pos c6] at h1
        refine tr_skip ?_
        refine tr_seq ?_
        refine tr_block ?_
        refine kr [0, 1, 5, 12, 13] (by simp; rfl) ?_
        refine kd [[], [], [0, 1], [2], [], [], [4, 5], [6], [3, 7]] [] [] none [] 9 fol (by decide +kernel) (by simp) ?_
        replace h1 := bnd h1; obtain ⟨x3, p17, h1⟩ := h1
        replace p17 := idx_some p17
        have p17' := p17; try simp at p17'
        replace h1 := bnd h1; obtain ⟨x4, p18, h1⟩ := h1
        replace p18 := idx_some p18
        have p18' := p18; try simp at p18'
        refine dr_go 0 2 rfl (by simp (maxSteps := 1000000) [p17, p18, p17', p18']; rfl) ?_
        refine dr_go 2 2 rfl (by simp (maxSteps := 1000000) [p17, p18, p17', p18']; rfl) ?_
        refine dr_go 4 2 rfl (by simp (maxSteps := 1000000) [p17, p18, p17', p18']; rfl) ?_
        refine dr_go 6 2 rfl (by simp (maxSteps := 1000000) [p17, p18, p17', p18']; rfl) ?_
        refine dr_go 8 1 rfl (by simp (maxSteps := 1000000) [p17, p18, p17', p18']; rfl) ?_
        refine dr_end rfl (tops_nil ?_)
        refine tr_cond (b := (!((x3.Value == x4.Value) && (x3.Record == x4.Record)))) (by simp) (fun c7 => ?_) (fun c7 => ?_)
        · rw [if_pos c7] at h1
          refine kr [4] (by simp; rfl) ?_
          have k1 := he1 _ (Option.some.inj h1)
          subst k1
          dsimp only at h0
          cases h0
          exact tr_ret ⟨[], by simp, rfl, by simp⟩
        · rw [if_neg (by rw [c7]; decide)] at h1
          refine tr_skip ?_
          refine lr (by simp; rfl) ?_
          exact ⟨_, hg1 _ (Option.some.inj h1), wk (by simp [weak_iff])⟩
      · rw [if_neg (by rw [c6]; decide)] at h1
        refine tr_exit ?_
        exact ⟨_, he1 _ (Option.some.inj h1), wk (by simp [weak_iff])⟩
set_option maxHeartbeats 1000000 in
theorem ledger_Append_ok {a0 : List api_Record} {a1 : api_Record} {r : (List api_Record) × Int} (h0 : ledger_Append a0 a1 = some r) : FnOK Try.prog 29 [] [.d (.slice (rowsF api_Record_row a0)), .agg (api_Record_av a1)] (.tup [.d (.slice (rowsF api_Record_row r.1)), .d (.int .i64 r.2)]) [] := by
  unfold ledger_Append at h0
  refine fn_ok (nt := 28) (rs := [.tmp 4, .tmp 5]) Try.func29 rfl Try.ntmps29 rfl (by simp) (by decide) rfl fun K => ?_
  refine kr [0, 3] (by simp; rfl) ?_
  refine tr_seq ?_
  refine tr_block ?_
  refine kc ?_
  refine ko [0, 3, 8] 1 (by simp; rfl) ?_
  replace h0 := bnd h0; obtain ⟨y1, hy1, h0⟩ := h0
  refine kcall [0, 3, 9] [] (ledger_Check_ok hy1) rfl rfl rfl Try.call19 (by simp) (by simp; rfl) ?_
  refine ko [0, 3, 7] 2 (by simp; rfl) ?_
  refine tops_nil ?_
  refine tr_cond (b := (y1 != 0)) (by simp) (fun c1 => ?_) (fun c1 => ?_)
  · rw [if_pos c1] at h0
    refine kr [4, 5] (by simp; rfl) ?_
    cases h0
    exact tr_ret ⟨[], by simp, rfl, by simp⟩
  · rw [if_neg (by rw [c1]; decide)] at h0
    refine kr [0, 3, 11] (by simp; rfl) ?_
    refine tr_cond (b := (decide (100 ≤ ((a0).length : Int)))) (by simp) (fun c2 => ?_) (fun c2 => ?_)
    · rw [if_pos c2] at h0
      refine kr [4, 5] (by simp; rfl) ?_
      cases h0
      exact tr_ret ⟨[], by simp, rfl, by simp⟩
    · rw [if_neg (by rw [c2]; decide)] at h0
      refine tr_skip ?_
      refine kd [[], [], [1], [], [3], [0, 1, 2, 3, 4], [], [6], [0, 1, 2, 3, 4, 5, 6, 7], [0, 1, 2, 3, 4, 5, 6, 7]] [] [] none [] 8 fol (by decide +kernel) (by simp) ?_
      replace h0 := bnd h0; obtain ⟨_, p7, h0⟩ := h0
      replace p7 := ck_some p7
      have p7' := p7; try simp at p7'
      refine dr_go 0 2 rfl (by simp (maxSteps := 1000000) [p7, p7']; rfl) ?_
      refine dr_go 2 2 rfl (by simp (maxSteps := 1000000) [p7, p7']; rfl) ?_
      refine dr_go 4 2 rfl (by simp (maxSteps := 1000000) [p7, p7']; rfl) ?_
      refine dr_go 6 2 rfl (by simp (maxSteps := 1000000) [p7, p7']; rfl) ?_
      refine dr_end rfl ?_
      replace h0 := bnd h0; obtain ⟨_, p8, h0⟩ := h0
      replace p8 := ck_some p8
      have p8' := p8; try simp at p8'
      refine ko [6] 2 (by simp [p8, p8']; rfl) ?_
      refine tops_nil ?_
      refine tr_seq ?_
      refine kc ?_
      refine ko [6, 24] 1 (by simp; rfl) ?_
      refine tops_wk (wk_frz 23) ?_
      replace h0 := bnd h0; obtain ⟨y2, hy2, h0⟩ := h0
      refine kcall [6, 25] [] (ledger_Check_ok hy2) rfl rfl rfl Try.call19 (by simp) (by simp; rfl) ?_
      refine ko [6, 26] 1 (by simp; rfl) ?_
      refine tops_nil ?_
      refine tr_cond (b := (y2 != 0)) (by simp) (fun c3 => ?_) (fun c3 => ?_)
      · rw [if_pos c3] at h0
        refine kr [4, 5] (by simp; rfl) ?_
        cases h0
        exact tr_ret ⟨[], by simp, rfl, by simp⟩
      · rw [if_neg (by rw [c3]; decide)] at h0
        refine tr_skip ?_
        refine kr [4, 5] (by simp; rfl) ?_
        cases h0
        exact tr_ret ⟨[], by simp, rfl, by simp⟩
set_option maxHeartbeats 1000000 in
theorem ref42_Append_ok {a0 : List api_Record} {a1 : api_Record} {r : (List api_Record) × Int} (h0 : ref42_Append a0 a1 = some r) : FnOK Try.prog 30 [] [.d (.slice (rowsF api_Record_row a0)), .agg (api_Record_av a1)] (.tup [.d (.slice (rowsF api_Record_row r.1)), .d (.int .i64 r.2)]) [] := by
  unfold ref42_Append at h0
  refine fn_okK (nt := 22) (rs := [.tmp 4, .tmp 5]) Try.func30 rfl Try.ntmps30 rfl (by simp) (by decide) rfl fun K hK => ?_
  refine kr [0, 3] (by simp; rfl) ?_
  refine tr_seq ?_
  refine kc ?_
  refine ko [0, 3, 7] 1 (by simp; rfl) ?_
  replace h0 := bnd h0; obtain ⟨y1, hy1, h0⟩ := h0
  refine kcall [0, 3, 8] [] (ref42_Valid_ok hy1) rfl rfl rfl Try.call38 (by simp) (by simp; rfl) ?_
  refine ko [0, 3, 9] 1 (by simp; rfl) ?_
  refine tops_nil ?_
  refine tr_cond (b := (!y1)) (by simp) (fun c1 => ?_) (fun c1 => ?_)
  · rw [if_pos c1] at h0
    refine kr [4, 5] (by simp; rfl) ?_
    cases h0
    exact tr_ret ⟨[], by simp, rfl, by simp⟩
  · rw [if_neg (by rw [c1]; decide)] at h0
    refine tr_skip ?_
    refine tr_seq ?_
    refine kr [0, 3, 12] (by simp; rfl) ?_
    refine tr_cond (b := (decide (100 ≤ ((a0).length : Int)))) (by simp) (fun c2 => ?_) (fun c2 => ?_)
    · rw [if_pos c2] at h0
      refine kr [4, 5] (by simp; rfl) ?_
      cases h0
      exact tr_ret ⟨[], by simp, rfl, by simp⟩
    · rw [if_neg (by rw [c2]; decide)] at h0
      refine tr_skip ?_
      replace h0 := bnd h0; obtain ⟨_, p1, h0⟩ := h0
      replace p1 := ck_some p1
      have p1' := p1; try simp at p1'
      replace h0 := bnd h0; obtain ⟨_, p2, h0⟩ := h0
      replace p2 := ck_some p2
      have p2' := p2; try simp at p2'
      refine kheld (S0 := ({ nt := 22, env := [(6, .vec 17)], box := [], vec := [(17, ⟨42, 4, rowsF api_Record_row (a0 ++ [a1])⟩)] } : St)) [0] 5 (by simpa using hK) fol (by decide +kernel) rfl rfl rfl (by simp [stillsL, stillB, pureP, pureB, p1, p2, p1', p2']; rfl) (fun K' S F C => ?_) ?_
      ·
        refine ho_all C [1, 2] (by decide +kernel) (by decide) ?_
        refine hall_cons rfl (by simp [p1, p2, p1', p2']; rfl) ?_ ?_
        ·
          refine ho_all C [2] (by decide +kernel) (by decide) ?_
          refine hall_cons rfl (by simp [p1, p2, p1', p2']; rfl) ?_ ?_
          ·
            refine ho_all C [3] (by decide +kernel) (by decide) ?_
            refine hall_cons rfl (by simp [p1, p2, p1', p2']; rfl) ?_ ?_
            ·
              refine ho_all C [4] (by decide +kernel) (by decide) ?_
              refine hall_cons rfl (by simp [p1, p2, p1', p2']; rfl) ?_ ?_
              ·
                refine ho_pure C 5 rfl (by decide +kernel) (by decide +kernel) (by simp [pureP, pureB]) (by simp [p1, p2, p1', p2']; rfl) ?_
                exact ho_end C (by decide +kernel) ⟨rfl, weak_iff.2 (by simp)⟩
              exact trivial
            exact trivial
          exact trivial
        refine hall_cons rfl (by simp [p1, p2, p1', p2']; rfl) ?_ ?_
        ·
          refine ho_all C [1, 3] (by decide +kernel) (by decide) ?_
          refine hall_cons rfl (by simp [p1, p2, p1', p2']; rfl) ?_ ?_
          ·
            refine ho_all C [3] (by decide +kernel) (by decide) ?_
            refine hall_cons rfl (by simp [p1, p2, p1', p2']; rfl) ?_ ?_
            ·
              refine ho_all C [4] (by decide +kernel) (by decide) ?_
              refine hall_cons rfl (by simp [p1, p2, p1', p2']; rfl) ?_ ?_
              ·
                refine ho_pure C 5 rfl (by decide +kernel) (by decide +kernel) (by simp [pureP, pureB]) (by simp [p1, p2, p1', p2']; rfl) ?_
                exact ho_end C (by decide +kernel) ⟨rfl, weak_iff.2 (by simp)⟩
              exact trivial
            exact trivial
          refine hall_cons rfl (by simp [p1, p2, p1', p2']; rfl) ?_ ?_
          ·
            refine ho_all C [1] (by decide +kernel) (by decide) ?_
            refine hall_cons rfl (by simp [p1, p2, p1', p2']; rfl) ?_ ?_
            ·
              refine ho_all C [4] (by decide +kernel) (by decide) ?_
              refine hall_cons rfl (by simp [p1, p2, p1', p2']; rfl) ?_ ?_
              ·
                refine ho_pure C 5 rfl (by decide +kernel) (by decide +kernel) (by simp [pureP, pureB]) (by simp [p1, p2, p1', p2']; rfl) ?_
                exact ho_end C (by decide +kernel) ⟨rfl, weak_iff.2 (by simp)⟩
              exact trivial
            exact trivial
          exact trivial
        exact trivial
      ·
        refine tr_seq ?_
        refine kc ?_
        refine ko [6, 18] 1 (by simp; rfl) ?_
        refine tops_wk (wk_frz 17) ?_
        replace h0 := bnd h0; obtain ⟨y2, hy2, h0⟩ := h0
        refine kcall [6, 19] [] (ref42_Valid_ok hy2) rfl rfl rfl Try.call38 (by simp) (by simp; rfl) ?_
        refine ko [6, 20] 1 (by simp; rfl) ?_
        refine tops_nil ?_
        refine tr_cond (b := (!y2)) (by simp) (fun c3 => ?_) (fun c3 => ?_)
        · rw [if_pos c3] at h0
          refine kr [4, 5] (by simp; rfl) ?_
          cases h0
          exact tr_ret ⟨[], by simp, rfl, by simp⟩
        · rw [if_neg (by rw [c3]; decide)] at h0
          refine tr_skip ?_
          refine kr [4, 5] (by simp; rfl) ?_
          cases h0
          exact tr_ret ⟨[], by simp, rfl, by simp⟩
set_option maxHeartbeats 1000000 in
theorem law42_LedgerExact_ok {a0 : List Int} {a1 : List api_Record} {a2 : api_Record} {a3 : Int} {a4 : Int} {a5 : Int} {a6 : Int} {r : Bool} (h0 : law42_LedgerExact a0 a1 a2 a3 a4 a5 a6 = some r) : FnOK Try.prog 5 [] [.d (.slice (rowsF (iRow .i64) a0)), .d (.slice (rowsF api_Record_row a1)), .agg (api_Record_av a2), .d (.int .i64 a3), .d (.int .i64 a4), .d (.int .i64 a5), .d (.int .i64 a6)] (.d (.bool r)) [] := by
  unfold law42_LedgerExact at h0
  refine fn_ok (nt := 297) (rs := [.tmp 14]) Try.func5 rfl Try.ntmps5 rfl (by simp) (by decide) rfl fun K => ?_
  refine kr [0, 1, 3, 4, 5, 6, 9] (by simp; rfl) ?_
  refine tr_seq ?_
  replace h0 := bnd h0; obtain ⟨v1, hvv1, h0⟩ := h0
  refine sjv (fun v1_ : Bool => ({ nt := 297, env := [(0, .d (.slice (rowsF (iRow .i64) a0))), (1, .d (.slice (rowsF api_Record_row a1))), (3, .d (.int .i64 a3)), (4, .d (.int .i64 a4)), (5, .d (.int .i64 a5)), (6, .d (.int .i64 a6)), (9, .ptr 9 0), (52, .d (.bool v1_))], box := [(9, [.d (.int .i64 a2.Known), .d (.int .i64 a2.Since), .d (.int .i64 a2.Subject), .d (.int .i64 a2.Value)])], vec := [] } : St)) (fun v1_ => v1 = v1_) (fun v1_ e => ?_) ?_
  · subst e
    refine tr_cond (b := v1) (by simp) (fun c3 => ?_) (fun c3 => ?_)
    · rw [if_pos c3] at h0
      refine kc ?_
      replace h0 := bnd h0; obtain ⟨y2, hy2, h0⟩ := h0
      refine kcall [53] [] (law42_awake_ok hy2) rfl rfl rfl Try.call12 (by simp) (by simp; rfl) ?_
      refine ko [14] 1 (by simp; rfl) ?_
      refine tops_nil ?_
      cases h0
      exact tr_ret ⟨[], by simp, rfl, by simp⟩
    · rw [if_neg (by rw [c3]; decide)] at h0
      refine tr_skip ?_
      refine kr [1, 3, 4, 5, 6, 9, 15] (by simp; rfl) ?_
      refine kc ?_
      refine ko [1, 3, 4, 5, 6, 9, 15, 57] 1 (by simp; rfl) ?_
      replace h0 := bnd h0; obtain ⟨y3, hy3, h0⟩ := h0
      refine kcall [1, 3, 4, 5, 6, 9, 15, 58] [56] (make_Ledger_ok hy3) rfl rfl rfl Try.call13 (by simp) (by simp; rfl) ?_
      refine ko [1, 3, 4, 5, 6, 9, 15, 16] 1 (by simp; rfl) ?_
      refine tops_nil ?_
      replace h0 := bnd h0; obtain ⟨_, p1, h0⟩ := h0
      replace p1 := ck_some p1
      have p1' := p1; try simp at p1'
      refine kr [1, 3, 4, 5, 6, 9, 15, 16, 17] (by simp [p1, p1']; rfl) ?_
      refine sjv (fun v4 : (List Int) × Int × (List api_Record) => ({ nt := 297, env := [(1, .d (.slice (rowsF api_Record_row a1))), (3, .d (.int .i64 a3)), (4, .d (.int .i64 a4)), (5, .d (.int .i64 a5)), (6, .d (.int .i64 a6)), (9, .ptr 9 0), (15, .ptr 56 0), (16, .d (.slice (rowsF api_Record_row y3.1))), (17, .vec 60)], box := [(9, [.d (.int .i64 a2.Known), .d (.int .i64 a2.Since), .d (.int .i64 a2.Subject), .d (.int .i64 a2.Value)]), (56, [.d (.slice (rowsF (iRow .i64) v4.1)), .d (.int .i64 v4.2.1)])], vec := [(60, ⟨42, 4, rowsF api_Record_row v4.2.2⟩)] } : St)) (fun v4 => law42_LedgerExact_j0 y3 a1 a3 a4 a5 a6 a2 v4 = some r) (fun v4 h0 => ?_) ?_
      · unfold law42_LedgerExact_j0 at h0
        refine tr_seq ?_
        refine kr [3, 4, 5, 6, 9, 15, 102, 103] (by simp; rfl) ?_
        refine tr_wk (wk_frz 60) ?_
        replace h0 := bnd h0; obtain ⟨l5, hl5, h0⟩ := h0
        replace hl5 := Option.some.inj hl5
        replace h0 := bnd h0; obtain ⟨e1, hI1, h0⟩ := h0
        refine tjv (fun v6 : Unit => ({ nt := 297, env := [], box := [], vec := [] } : St)) (fun v6 => .inl v6 = e1) (fun v6 hI1e _ W1 => ?_) ?_
        · subst hI1e
          dsimp only at h0
          refine tr_wk W1 ?_
          refine kc ?_
          replace h0 := bnd h0; obtain ⟨y7, hy7, h0⟩ := h0
          refine kcall [296] [] (law42_awake_ok hy7) rfl rfl rfl Try.call12 (by simp) (by simp; rfl) ?_
          refine ko [14] 1 (by simp; rfl) ?_
          refine tops_nil ?_
          cases h0
          exact tr_ret ⟨[], by simp, rfl, by simp⟩
        · refine tr_block (tr_iter (fun s8 : Int × (List Int) × Int => ({ nt := 297, env := [(3, .d (.int .i64 a3)), (4, .d (.int .i64 a4)), (5, .d (.int .i64 a5)), (6, .d (.int .i64 a6)), (9, .ptr 9 0), (15, .ptr 56 0), (102, .agg (arC (slRow api_Record_row) l5)), (103, .d (.int .i64 s8.1))], box := [(9, [.d (.int .i64 a2.Known), .d (.int .i64 a2.Since), .d (.int .i64 a2.Subject), .d (.int .i64 a2.Value)]), (56, [.d (.slice (rowsF (iRow .i64) s8.2.1)), .d (.int .i64 s8.2.2)])], vec := [] } : St)) hI1 (wk (by subst hl5; simp [weak_iff])) fun G1 s8 o1 h1 hg1 he1 => ?_)
          unfold law42_LedgerExact_l1 at h1
          refine kr [3, 4, 5, 6, 9, 15, 102, 103, 104] (by simp; rfl) ?_
          refine tr_seq ?_
          refine tr_cond (b := (decide (s8.1 < 3))) (by simp) (fun c60 => ?_) (fun c60 => ?_)
          · rw [if_pos c60] at h1
            refine tr_skip ?_
            refine tr_seq ?_
            refine tr_block ?_
            replace h1 := bnd h1; obtain ⟨_, p37, h1⟩ := h1
            replace p37 := ck_some p37
            have p37' := p37; try simp at p37'
            replace h1 := bnd h1; obtain ⟨x9, p38, h1⟩ := h1
            replace p38 := idx_some p38
            have p38' := p38; try simp at p38'
            have ix39 : indexVA Try.prog 47 (.agg (arC (slRow api_Record_row) l5)) s8.1 = some (.d (.slice (rowsF api_Record_row x9))) := indexVA_arC Try.underlying47 sz32 p38.1 p37 p38.2 (by simp) (by simp)
            refine kr [3, 4, 5, 6, 9, 15, 20, 102, 103] (by simp [p37, p38, ix39, -indexVA, p37', p38']; rfl) ?_
            refine tr_seq ?_
            refine kc ?_
            refine ko [3, 4, 5, 6, 9, 15, 20, 102, 103, 106] 1 (by simp; rfl) ?_
            replace h1 := bnd h1; obtain ⟨y10, hy10, h1⟩ := h1
            refine kcall [3, 4, 5, 6, 9, 15, 20, 102, 103, 107] [] (ledger_Check_ok hy10) rfl rfl rfl Try.call19 (by simp) (by simp; rfl) ?_
            refine ko [3, 4, 5, 6, 9, 15, 20, 102, 103, 107, 108] 1 (by simp; rfl) ?_
            replace h1 := bnd h1; obtain ⟨y11, hy11, h1⟩ := h1
            refine kcall [3, 4, 5, 6, 9, 15, 20, 102, 103, 107, 109] [] (ref42_Check_ok hy11) rfl rfl rfl Try.call20 (by simp) (by simp; rfl) ?_
            refine ko [3, 4, 5, 6, 9, 15, 20, 102, 103, 110] 1 (by simp; rfl) ?_
            refine tops_nil ?_
            refine tr_cond (b := (y10 != y11)) (by simp) (fun c61 => ?_) (fun c61 => ?_)
            · rw [if_pos c61] at h1
              refine kr [14] (by simp; rfl) ?_
              have k1 := he1 _ (Option.some.inj h1)
              subst k1
              dsimp only at h0
              cases h0
              exact tr_ret ⟨[], by simp, rfl, by simp⟩
            · rw [if_neg (by rw [c61]; decide)] at h1
              refine tr_skip ?_
              refine tr_seq ?_
              refine kc ?_
              refine ko [3, 4, 5, 6, 9, 15, 20, 102, 103, 115, 116] 6 (by simp; rfl) ?_
              replace h1 := bnd h1; obtain ⟨y12, hy12, h1⟩ := h1
              refine kcall [3, 4, 5, 6, 9, 15, 20, 102, 103, 115, 117] [56] (make_Tape_Next_ok hy12) rfl rfl rfl Try.call14 (by simp) (by simp; rfl) ?_
              refine ko [3, 4, 5, 6, 9, 15, 20, 102, 103, 115, 117, 118] 1 (by simp; rfl) ?_
              replace h1 := bnd h1; obtain ⟨y13, hy13, h1⟩ := h1
              refine kcall [3, 4, 5, 6, 9, 15, 20, 102, 103, 115, 117, 119] [56] (make_Tape_Next_ok hy13) rfl rfl rfl Try.call14 (by simp) (by simp; rfl) ?_
              refine ko [3, 4, 5, 6, 9, 15, 20, 102, 103, 115, 117, 119, 120] 1 (by simp; rfl) ?_
              replace h1 := bnd h1; obtain ⟨y14, hy14, h1⟩ := h1
              refine kcall [3, 4, 5, 6, 9, 15, 20, 102, 103, 115, 117, 119, 121] [56] (make_Tape_Next_ok hy14) rfl rfl rfl Try.call14 (by simp) (by simp; rfl) ?_
              refine ko [3, 4, 5, 6, 9, 15, 20, 102, 103, 115, 117, 119, 121, 122] 1 (by simp; rfl) ?_
              replace h1 := bnd h1; obtain ⟨y15, hy15, h1⟩ := h1
              refine kcall [3, 4, 5, 6, 9, 15, 20, 102, 103, 115, 117, 119, 121, 123] [56] (make_Tape_Between_ok hy15) rfl rfl rfl Try.call17 (by simp) (by simp; rfl) ?_
              refine ko [3, 4, 5, 6, 9, 15, 20, 102, 103, 115, 124, 125] 2 (by simp; rfl) ?_
              replace h1 := bnd h1; obtain ⟨y16, hy16, h1⟩ := h1
              refine kcall [3, 4, 5, 6, 9, 15, 20, 102, 103, 115, 124, 126] [56] (make_Tape_Next_ok hy16) rfl rfl rfl Try.call14 (by simp) (by simp; rfl) ?_
              refine ko [3, 4, 5, 6, 9, 15, 20, 102, 103, 115, 124, 126, 127] 1 (by simp; rfl) ?_
              replace h1 := bnd h1; obtain ⟨y17, hy17, h1⟩ := h1
              refine kcall [3, 4, 5, 6, 9, 15, 20, 102, 103, 115, 124, 126, 128] [56] (make_Tape_Between_ok hy17) rfl rfl rfl Try.call17 (by simp) (by simp; rfl) ?_
              refine ko [3, 4, 5, 6, 9, 15, 20, 102, 103, 115, 124, 126, 128, 129] 1 (by simp; rfl) ?_
              replace h1 := bnd h1; obtain ⟨y18, hy18, h1⟩ := h1
              refine kcall [3, 4, 5, 6, 9, 15, 20, 102, 103, 115, 124, 126, 128, 130] [56] (make_Tape_Between_ok hy18) rfl rfl rfl Try.call17 (by simp) (by simp; rfl) ?_
              refine ko [3, 4, 5, 6, 9, 15, 20, 102, 103, 115, 124, 126, 128, 130, 131] 1 (by simp; rfl) ?_
              replace h1 := bnd h1; obtain ⟨y19, hy19, h1⟩ := h1
              refine kcall [3, 4, 5, 6, 9, 15, 20, 102, 103, 115, 124, 126, 128, 130, 132] [56] (make_Tape_Between_ok hy19) rfl rfl rfl Try.call17 (by simp) (by simp; rfl) ?_
              refine ko [3, 4, 5, 6, 9, 15, 20, 102, 103, 134, 135] 3 (by simp; rfl) ?_
              refine tops_nil ?_
              replace h1 := bnd h1; obtain ⟨l20, hl20, h1⟩ := h1
              replace hl20 := Option.some.inj hl20
              replace h1 := bnd h1; obtain ⟨e2, hI2, h1⟩ := h1
              refine tjv (fun v21 : Unit => ({ nt := 297, env := [(3, .d (.int .i64 a3)), (4, .d (.int .i64 a4)), (5, .d (.int .i64 a5)), (6, .d (.int .i64 a6)), (9, .ptr 9 0), (15, .ptr 56 0), (20, .d (.slice (rowsF api_Record_row x9))), (102, .agg (arC (slRow api_Record_row) l5)), (103, .d (.int .i64 s8.1))], box := [(9, [.d (.int .i64 a2.Known), .d (.int .i64 a2.Since), .d (.int .i64 a2.Subject), .d (.int .i64 a2.Value)]), (56, [.d (.slice (rowsF (iRow .i64) y19.2.L)), .d (.int .i64 y19.2.at_)])], vec := [] } : St)) (fun v21 => .inl v21 = e2) (fun v21 hI2e _ W2 => ?_) ?_
              · subst hI2e
                dsimp only at h1
                refine tr_wk W2 ?_
                refine kd [[], [], [1], [], [2, 3], [], [2, 4, 5], [], [2, 4, 6, 7], [2, 4, 6, 8], [0, 9], []] [2, 4, 6, 8] [(56, [2, 4, 6, 8])] none [] 12 fol (by decide +kernel) (by simp) ?_
                refine dr_go 0 2 rfl (by simp (maxSteps := 1000000); rfl) ?_
                replace h1 := bnd h1; obtain ⟨y22, hy22, h1⟩ := h1
                refine dr_call 2 [56] (make_Tape_Next_ok hy22) rfl rfl rfl rfl rfl Try.call14 (by simp) ?_
                refine dr_go 3 1 rfl (by simp (maxSteps := 1000000); rfl) ?_
                replace h1 := bnd h1; obtain ⟨y23, hy23, h1⟩ := h1
                refine dr_call 4 [56] (make_Tape_Next_ok hy23) rfl rfl rfl rfl rfl Try.call14 (by simp) ?_
                refine dr_go 5 1 rfl (by simp (maxSteps := 1000000); rfl) ?_
                replace h1 := bnd h1; obtain ⟨y24, hy24, h1⟩ := h1
                refine dr_call 6 [56] (make_Tape_Next_ok hy24) rfl rfl rfl rfl rfl Try.call14 (by simp) ?_
                refine dr_go 7 1 rfl (by simp (maxSteps := 1000000); rfl) ?_
                replace h1 := bnd h1; obtain ⟨y25, hy25, h1⟩ := h1
                refine dr_call 8 [56] (make_Tape_Next_ok hy25) rfl rfl rfl rfl rfl Try.call14 (by simp) ?_
                refine dr_go 9 2 rfl (by simp (maxSteps := 1000000); rfl) ?_
                refine dr_go 11 1 rfl (by simp (maxSteps := 1000000); rfl) ?_
                refine dr_end rfl (tops_nil ?_)
                replace h1 := bnd h1; obtain ⟨l26, hl26, h1⟩ := h1
                replace hl26 := Option.some.inj hl26
                replace h1 := bnd h1; obtain ⟨e3, hI3, h1⟩ := h1
                refine tjv (fun v27 : Unit => ({ nt := 297, env := [(3, .d (.int .i64 a3)), (4, .d (.int .i64 a4)), (5, .d (.int .i64 a5)), (6, .d (.int .i64 a6)), (9, .ptr 9 0), (15, .ptr 56 0), (102, .agg (arC (slRow api_Record_row) l5)), (103, .d (.int .i64 s8.1))], box := [(9, [.d (.int .i64 a2.Known), .d (.int .i64 a2.Since), .d (.int .i64 a2.Subject), .d (.int .i64 a2.Value)]), (56, [.d (.slice (rowsF (iRow .i64) y25.2.L)), .d (.int .i64 y25.2.at_)])], vec := [] } : St)) (fun v27 => .inl v27 = e3) (fun v27 hI3e _ W3 => ?_) ?_
                · subst hI3e
                  dsimp only at h1
                  refine tr_wk W3 ?_
                  refine lr (by simp; rfl) ?_
                  exact ⟨_, hg1 _ (Option.some.inj h1), wk (by simp [weak_iff])⟩
                · refine tr_block (tr_iter (fun s28 : Int => ({ nt := 297, env := [(3, .d (.int .i64 a3)), (4, .d (.int .i64 a4)), (5, .d (.int .i64 a5)), (6, .d (.int .i64 a6)), (9, .ptr 9 0), (15, .ptr 56 0), (20, .d (.slice (rowsF api_Record_row x9))), (102, .agg (arC (slRow api_Record_row) l5)), (103, .d (.int .i64 s8.1)), (269, .agg (arC api_Record_row l26)), (270, .d (.int .i64 s28))], box := [(9, [.d (.int .i64 a2.Known), .d (.int .i64 a2.Since), .d (.int .i64 a2.Subject), .d (.int .i64 a2.Value)]), (56, [.d (.slice (rowsF (iRow .i64) y25.2.L)), .d (.int .i64 y25.2.at_)])], vec := [] } : St)) hI3 (wk (by subst hl26; simp [weak_iff])) fun G3 s28 o3 h3 hg3 he3 => ?_)
                  unfold law42_LedgerExact_l3 at h3
                  refine kr [3, 4, 5, 6, 9, 15, 20, 102, 103, 269, 270, 271] (by simp; rfl) ?_
                  refine tr_seq ?_
                  refine tr_cond (b := (decide (s28 < 2))) (by simp) (fun c86 => ?_) (fun c86 => ?_)
                  · rw [if_pos c86] at h3
                    refine tr_skip ?_
                    refine tr_seq ?_
                    refine tr_block ?_
                    replace h3 := bnd h3; obtain ⟨_, p52, h3⟩ := h3
                    replace p52 := ck_some p52
                    have p52' := p52; try simp at p52'
                    replace h3 := bnd h3; obtain ⟨x29, p53, h3⟩ := h3
                    replace p53 := idx_some p53
                    have p53' := p53; try simp at p53'
                    have ix54 : indexVA Try.prog 58 (.agg (arC api_Record_row l26)) s28 = some (.agg [.d (.int .i64 x29.Known), .d (.int .i64 x29.Since), .d (.int .i64 x29.Subject), .d (.int .i64 x29.Value)]) := indexVA_arC Try.underlying58 sz42 p53.1 p52 p53.2 (by simp) (by simp)
                    refine kr [3, 4, 5, 6, 9, 15, 20, 40, 102, 103, 269, 270] (by simp [p52, p53, ix54, -indexVA, p52', p53']; rfl) ?_
                    refine kc ?_
                    refine ko [3, 4, 5, 6, 9, 15, 20, 40, 102, 103, 269, 270, 274, 275] 2 (by simp; rfl) ?_
                    replace h3 := bnd h3; obtain ⟨y30, hy30, h3⟩ := h3
                    refine kcall [3, 4, 5, 6, 9, 15, 20, 40, 102, 103, 269, 270, 276] [] (ledger_Append_ok hy30) rfl rfl rfl Try.call29 (by simp) (by simp; rfl) ?_
                    refine ko [3, 4, 5, 6, 9, 15, 20, 40, 41, 42, 102, 103, 269, 270] 5 (by simp; rfl) ?_
                    refine tops_nil ?_
                    refine kc ?_
                    refine ko [3, 4, 5, 6, 9, 15, 20, 41, 42, 102, 103, 269, 270, 280, 281] 2 (by simp; rfl) ?_
                    replace h3 := bnd h3; obtain ⟨y31, hy31, h3⟩ := h3
                    refine kcall [3, 4, 5, 6, 9, 15, 20, 41, 42, 102, 103, 269, 270, 282] [] (ref42_Append_ok hy31) rfl rfl rfl Try.call30 (by simp) (by simp; rfl) ?_
                    refine ko [3, 4, 5, 6, 9, 15, 20, 41, 42, 43, 44, 102, 103, 269, 270] 5 (by simp; rfl) ?_
                    refine tops_nil ?_
                    replace h3 := bnd h3; obtain ⟨v32, hvv32, h3⟩ := h3
                    refine sjv (fun v32_ : Bool => ({ nt := 297, env := [(3, .d (.int .i64 a3)), (4, .d (.int .i64 a4)), (5, .d (.int .i64 a5)), (6, .d (.int .i64 a6)), (9, .ptr 9 0), (15, .ptr 56 0), (20, .d (.slice (rowsF api_Record_row x9))), (102, .agg (arC (slRow api_Record_row) l5)), (103, .d (.int .i64 s8.1)), (269, .agg (arC api_Record_row l26)), (270, .d (.int .i64 s28)), (293, .d (.bool v32_))], box := [(9, [.d (.int .i64 a2.Known), .d (.int .i64 a2.Since), .d (.int .i64 a2.Subject), .d (.int .i64 a2.Value)]), (56, [.d (.slice (rowsF (iRow .i64) y25.2.L)), .d (.int .i64 y25.2.at_)])], vec := [] } : St)) (fun v32_ => v32 = v32_) (fun v32_ e => ?_) ?_
                    · subst e
                      refine tr_cond (b := v32) (by simp) (fun c89 => ?_) (fun c89 => ?_)
                      · rw [if_pos c89] at h3
                        refine kr [14] (by simp; rfl) ?_
                        have k2 := he3 _ (Option.some.inj h3)
                        subst k2
                        dsimp only at h1
                        have k1 := he1 _ (Option.some.inj h1)
                        subst k1
                        dsimp only at h0
                        cases h0
                        exact tr_ret ⟨[], by simp, rfl, by simp⟩
                      · rw [if_neg (by rw [c89]; decide)] at h3
                        refine tr_skip ?_
                        refine lr (by simp; rfl) ?_
                        exact ⟨_, hg3 _ (Option.some.inj h3), wk (by simp [weak_iff])⟩
                    · refine kc1 ?_
                      refine ko [3, 4, 5, 6, 9, 15, 20, 41, 43, 102, 103, 269, 270, 288] 4 (by simp; rfl) ?_
                      refine tops_split 288 (y30.2 != y31.2) (by simp) (fun c90 => ?_) (fun c90 => ?_)
                      · rw [if_pos c90] at hvv32
                        refine kskip 4 [] (by kernel_rfl) ?_
                        refine ko [3, 4, 5, 6, 9, 15, 20, 102, 103, 269, 270, 293] 1 (by simp; rfl) ?_
                        refine tops_nil ?_
                        cases hvv32
                        exact ⟨_, rfl, wk (by simp [weak_iff])⟩
                      · rw [if_neg (by rw [c90]; decide)] at hvv32
                        refine ko [3, 4, 5, 6, 9, 15, 20, 102, 103, 269, 270, 288, 289, 290] 2 (by simp; rfl) ?_
                        replace hvv32 := bnd hvv32; obtain ⟨y33, hy33, hvv32⟩ := hvv32
                        refine kcall [3, 4, 5, 6, 9, 15, 20, 102, 103, 269, 270, 288, 289, 290, 291] [] (ref42_Same_ok hy33) rfl rfl rfl Try.call27 (by simp) (by simp; rfl) ?_
                        refine ko [3, 4, 5, 6, 9, 15, 20, 102, 103, 269, 270, 289, 290, 291, 292, 293] 2 (by simp; rfl) ?_
                        refine tops_nil ?_
                        cases hvv32
                        exact ⟨_, rfl, wk (by simp [weak_iff])⟩
                  · rw [if_neg (by rw [c86]; decide)] at h3
                    refine tr_exit ?_
                    exact ⟨_, he3 _ (Option.some.inj h3), wk (by simp [weak_iff])⟩
              · refine tr_block (tr_iter (fun s36 : Int => ({ nt := 297, env := [(3, .d (.int .i64 a3)), (4, .d (.int .i64 a4)), (5, .d (.int .i64 a5)), (6, .d (.int .i64 a6)), (9, .ptr 9 0), (15, .ptr 56 0), (20, .d (.slice (rowsF api_Record_row x9))), (102, .agg (arC (slRow api_Record_row) l5)), (103, .d (.int .i64 s8.1)), (134, .agg (arC (arRow 4 (iRow .i64)) l20)), (135, .d (.int .i64 s36))], box := [(9, [.d (.int .i64 a2.Known), .d (.int .i64 a2.Since), .d (.int .i64 a2.Subject), .d (.int .i64 a2.Value)]), (56, [.d (.slice (rowsF (iRow .i64) y19.2.L)), .d (.int .i64 y19.2.at_)])], vec := [] } : St)) hI2 (wk (by subst hl20; simp [weak_iff])) fun G3 s36 o3 h3 hg3 he3 => ?_)
                unfold law42_LedgerExact_l2 at h3
                refine kr [3, 4, 5, 6, 9, 15, 20, 102, 103, 134, 135, 136] (by simp; rfl) ?_
                refine tr_seq ?_
                refine tr_cond (b := (decide (s36 < 3))) (by simp) (fun c91 => ?_) (fun c91 => ?_)
                · rw [if_pos c91] at h3
                  refine tr_skip ?_
                  refine tr_seq ?_
                  refine tr_block ?_
                  replace h3 := bnd h3; obtain ⟨_, p55, h3⟩ := h3
                  replace p55 := ck_some p55
                  have p55' := p55; try simp at p55'
                  replace h3 := bnd h3; obtain ⟨x37, p56, h3⟩ := h3
                  replace p56 := idx_some p56
                  have p56' := p56; try simp at p56'
                  have ix57 : indexVA Try.prog 50 (.agg (arC (arRow 4 (iRow .i64)) l20)) s36 = some (.agg [.d (.int .i64 (arD x37 0)), .d (.int .i64 (arD x37 1)), .d (.int .i64 (arD x37 2)), .d (.int .i64 (arD x37 3))]) := indexVA_arC Try.underlying50 sz49 p56.1 p55 p56.2 (by simp) (by simp)
                  refine kr [3, 4, 5, 6, 9, 15, 20, 22, 102, 103, 134, 135] (by simp [p55, p56, ix57, -indexVA, p55', p56']; rfl) ?_
                  refine kc ?_
                  refine ko [3, 4, 5, 6, 9, 15, 20, 22, 102, 103, 134, 135, 139, 141, 143, 145] 7 (by simp; rfl) ?_
                  replace h3 := bnd h3; obtain ⟨y38, hy38, h3⟩ := h3
                  refine kcall [3, 4, 5, 6, 9, 15, 20, 22, 102, 103, 134, 135, 146] [] (ledger_Believe_ok hy38) rfl rfl rfl Try.call16 (by simp) (by simp; rfl) ?_
                  refine ko [3, 4, 5, 6, 9, 15, 20, 22, 23, 24, 102, 103, 134, 135] 6 (by simp; rfl) ?_
                  refine tops_nil ?_
                  refine kc ?_
                  refine ko [3, 4, 5, 6, 9, 15, 20, 22, 23, 24, 102, 103, 134, 135, 150, 152, 154, 156] 7 (by simp; rfl) ?_
                  replace h3 := bnd h3; obtain ⟨y39, hy39, h3⟩ := h3
                  refine kcall [3, 4, 5, 6, 9, 15, 20, 22, 23, 24, 102, 103, 134, 135, 157] [] (ref42_Believe_ok hy39) rfl rfl rfl Try.call21 (by simp) (by simp; rfl) ?_
                  refine ko [3, 4, 5, 6, 9, 15, 20, 22, 23, 24, 25, 26, 102, 103, 134, 135] 6 (by simp; rfl) ?_
                  refine tops_nil ?_
                  refine kc ?_
                  refine ko [3, 4, 5, 6, 9, 15, 20, 22, 23, 24, 25, 26, 102, 103, 134, 135, 161, 163, 165] 5 (by simp; rfl) ?_
                  replace h3 := bnd h3; obtain ⟨y40, hy40, h3⟩ := h3
                  refine kcall [3, 4, 5, 6, 9, 15, 20, 22, 23, 24, 25, 26, 102, 103, 134, 135, 166] [] (ledger_Line_ok hy40) rfl rfl rfl Try.call15 (by simp) (by simp; rfl) ?_
                  refine ko [3, 4, 5, 6, 9, 15, 20, 22, 23, 24, 25, 26, 27, 28, 102, 103, 134, 135] 5 (by simp; rfl) ?_
                  refine tops_nil ?_
                  refine kc ?_
                  refine ko [3, 4, 5, 6, 9, 15, 20, 22, 23, 24, 25, 26, 27, 28, 102, 103, 134, 135, 170, 172, 174] 5 (by simp; rfl) ?_
                  replace h3 := bnd h3; obtain ⟨y41, hy41, h3⟩ := h3
                  refine kcall [3, 4, 5, 6, 9, 15, 20, 22, 23, 24, 25, 26, 27, 28, 102, 103, 134, 135, 175] [] (ref42_Line_ok hy41) rfl rfl rfl Try.call22 (by simp) (by simp; rfl) ?_
                  refine ko [3, 4, 5, 6, 9, 15, 20, 22, 23, 24, 25, 26, 27, 28, 29, 30, 102, 103, 134, 135] 5 (by simp; rfl) ?_
                  refine tops_nil ?_
                  refine kc ?_
                  refine ko [3, 4, 5, 6, 9, 15, 20, 22, 23, 24, 25, 26, 27, 28, 29, 30, 102, 103, 134, 135, 179, 181, 183, 185] 7 (by simp; rfl) ?_
                  replace h3 := bnd h3; obtain ⟨y42, hy42, h3⟩ := h3
                  refine kcall [3, 4, 5, 6, 9, 15, 20, 22, 23, 24, 25, 26, 27, 28, 29, 30, 102, 103, 134, 135, 186] [] (ledger_Learned_ok hy42) rfl rfl rfl Try.call23 (by simp) (by simp; rfl) ?_
                  refine ko [3, 4, 5, 6, 9, 15, 20, 22, 23, 24, 25, 26, 27, 28, 29, 30, 31, 32, 102, 103, 134, 135] 5 (by simp; rfl) ?_
                  refine tops_nil ?_
                  refine kc ?_
                  refine ko [3, 4, 5, 6, 9, 15, 20, 22, 23, 24, 25, 26, 27, 28, 29, 30, 31, 32, 102, 103, 134, 135, 190, 192, 194, 196] 7 (by simp; rfl) ?_
                  replace h3 := bnd h3; obtain ⟨y43, hy43, h3⟩ := h3
                  refine kcall [3, 4, 5, 6, 9, 15, 20, 22, 23, 24, 25, 26, 27, 28, 29, 30, 31, 32, 102, 103, 134, 135, 197] [] (ref42_Learned_ok hy43) rfl rfl rfl Try.call24 (by simp) (by simp; rfl) ?_
                  refine ko [3, 4, 5, 6, 9, 15, 20, 22, 23, 24, 25, 26, 27, 28, 29, 30, 31, 32, 33, 34, 102, 103, 134, 135] 5 (by simp; rfl) ?_
                  refine tops_nil ?_
                  refine kc ?_
                  refine ko [3, 4, 5, 6, 9, 15, 20, 22, 23, 24, 25, 26, 27, 28, 29, 30, 31, 32, 33, 34, 102, 103, 134, 135, 201, 203, 205] 5 (by simp; rfl) ?_
                  replace h3 := bnd h3; obtain ⟨y44, hy44, h3⟩ := h3
                  refine kcall [3, 4, 5, 6, 9, 15, 20, 22, 23, 24, 25, 26, 27, 28, 29, 30, 31, 32, 33, 34, 102, 103, 134, 135, 206] [] (ledger_Changes_ok hy44) rfl rfl rfl Try.call25 (by simp) (by simp; rfl) ?_
                  refine ko [3, 4, 5, 6, 9, 15, 20, 22, 23, 24, 25, 26, 27, 28, 29, 30, 31, 32, 33, 34, 35, 36, 102, 103, 134, 135] 5 (by simp; rfl) ?_
                  refine tops_nil ?_
                  refine kc ?_
                  refine ko [3, 4, 5, 6, 9, 15, 20, 23, 24, 25, 26, 27, 28, 29, 30, 31, 32, 33, 34, 35, 36, 102, 103, 134, 135, 210, 212, 214] 5 (by simp; rfl) ?_
                  replace h3 := bnd h3; obtain ⟨y45, hy45, h3⟩ := h3
                  refine kcall [3, 4, 5, 6, 9, 15, 20, 23, 24, 25, 26, 27, 28, 29, 30, 31, 32, 33, 34, 35, 36, 102, 103, 134, 135, 215] [] (ref42_Changes_ok hy45) rfl rfl rfl Try.call26 (by simp) (by simp; rfl) ?_
                  refine ko [3, 4, 5, 6, 9, 15, 20, 23, 24, 25, 26, 27, 28, 29, 30, 31, 32, 33, 34, 35, 36, 37, 38, 102, 103, 134, 135] 5 (by simp; rfl) ?_
                  refine tops_nil ?_
                  replace h3 := bnd h3; obtain ⟨v46, hvv46, h3⟩ := h3
                  refine sjv (fun v46_ : Bool => ({ nt := 297, env := [(3, .d (.int .i64 a3)), (4, .d (.int .i64 a4)), (5, .d (.int .i64 a5)), (6, .d (.int .i64 a6)), (9, .ptr 9 0), (15, .ptr 56 0), (20, .d (.slice (rowsF api_Record_row x9))), (102, .agg (arC (slRow api_Record_row) l5)), (103, .d (.int .i64 s8.1)), (134, .agg (arC (arRow 4 (iRow .i64)) l20)), (135, .d (.int .i64 s36)), (257, .d (.bool v46_))], box := [(9, [.d (.int .i64 a2.Known), .d (.int .i64 a2.Since), .d (.int .i64 a2.Subject), .d (.int .i64 a2.Value)]), (56, [.d (.slice (rowsF (iRow .i64) y19.2.L)), .d (.int .i64 y19.2.at_)])], vec := [] } : St)) (fun v46_ => v46 = v46_) (fun v46_ e => ?_) ?_
                  · subst e
                    refine tr_cond (b := v46) (by simp) (fun c106 => ?_) (fun c106 => ?_)
                    · rw [if_pos c106] at h3
                      refine kr [14] (by simp; rfl) ?_
                      have k2 := he3 _ (Option.some.inj h3)
                      subst k2
                      dsimp only at h1
                      have k1 := he1 _ (Option.some.inj h1)
                      subst k1
                      dsimp only at h0
                      cases h0
                      exact tr_ret ⟨[], by simp, rfl, by simp⟩
                    · rw [if_neg (by rw [c106]; decide)] at h3
                      refine tr_skip ?_
                      refine lr (by simp; rfl) ?_
                      exact ⟨_, hg3 _ (Option.some.inj h3), wk (by simp [weak_iff])⟩
                  · refine kc1 ?_
                    refine ko [3, 4, 5, 6, 9, 15, 20, 24, 26, 27, 28, 29, 30, 31, 32, 33, 34, 35, 36, 37, 38, 102, 103, 134, 135, 221] 4 (by simp; rfl) ?_
                    refine tops_split 221 (!((y38.1.Value == y39.1.Value) && (y38.1.Record == y39.1.Record))) (by simp) (fun c107 => ?_) (fun c107 => ?_)
                    · rw [if_pos c107] at hvv46
                      refine kskip 3 [] (by kernel_rfl) ?_
                      refine ko [3, 4, 5, 6, 9, 15, 20, 27, 28, 29, 30, 31, 32, 33, 34, 35, 36, 37, 38, 102, 103, 134, 135, 226] 2 (by simp; rfl) ?_
                      refine kskip 3 [] (by kernel_rfl) ?_
                      refine ko [3, 4, 5, 6, 9, 15, 20, 27, 29, 31, 32, 33, 34, 35, 36, 37, 38, 102, 103, 134, 135, 231] 2 (by simp; rfl) ?_
                      refine kskip 4 [] (by kernel_rfl) ?_
                      refine ko [3, 4, 5, 6, 9, 15, 20, 31, 32, 33, 34, 35, 36, 37, 38, 102, 103, 134, 135, 237] 2 (by simp; rfl) ?_
                      refine kskip 3 [] (by kernel_rfl) ?_
                      refine ko [3, 4, 5, 6, 9, 15, 20, 32, 34, 35, 36, 37, 38, 102, 103, 134, 135, 242] 2 (by simp; rfl) ?_
                      refine kskip 3 [] (by kernel_rfl) ?_
                      refine ko [3, 4, 5, 6, 9, 15, 20, 35, 36, 37, 38, 102, 103, 134, 135, 247] 2 (by simp; rfl) ?_
                      refine kskip 3 [] (by kernel_rfl) ?_
                      refine ko [3, 4, 5, 6, 9, 15, 20, 35, 37, 102, 103, 134, 135, 252] 2 (by simp; rfl) ?_
                      refine kskip 4 [] (by kernel_rfl) ?_
                      refine ko [3, 4, 5, 6, 9, 15, 20, 102, 103, 134, 135, 257] 1 (by simp; rfl) ?_
                      refine tops_nil ?_
                      cases hvv46
                      exact ⟨_, rfl, wk (by simp [weak_iff])⟩
                    · rw [if_neg (by rw [c107]; decide)] at hvv46
                      refine ko [3, 4, 5, 6, 9, 15, 20, 27, 28, 29, 30, 31, 32, 33, 34, 35, 36, 37, 38, 102, 103, 134, 135, 222, 223, 224, 226] 5 (by simp; rfl) ?_
                      refine tops_split 226 (y38.2 != y39.2) (by simp) (fun c108 => ?_) (fun c108 => ?_)
                      · rw [if_pos c108] at hvv46
                        refine kskip 3 [] (by kernel_rfl) ?_
                        refine ko [3, 4, 5, 6, 9, 15, 20, 27, 29, 31, 32, 33, 34, 35, 36, 37, 38, 102, 103, 134, 135, 222, 223, 224, 231] 2 (by simp; rfl) ?_
                        refine kskip 4 [] (by kernel_rfl) ?_
                        refine ko [3, 4, 5, 6, 9, 15, 20, 31, 32, 33, 34, 35, 36, 37, 38, 102, 103, 134, 135, 222, 223, 224, 237] 2 (by simp; rfl) ?_
                        refine kskip 3 [] (by kernel_rfl) ?_
                        refine ko [3, 4, 5, 6, 9, 15, 20, 32, 34, 35, 36, 37, 38, 102, 103, 134, 135, 222, 223, 224, 242] 2 (by simp; rfl) ?_
                        refine kskip 3 [] (by kernel_rfl) ?_
                        refine ko [3, 4, 5, 6, 9, 15, 20, 35, 36, 37, 38, 102, 103, 134, 135, 222, 223, 224, 247] 2 (by simp; rfl) ?_
                        refine kskip 3 [] (by kernel_rfl) ?_
                        refine ko [3, 4, 5, 6, 9, 15, 20, 35, 37, 102, 103, 134, 135, 222, 223, 224, 252] 2 (by simp; rfl) ?_
                        refine kskip 4 [] (by kernel_rfl) ?_
                        refine ko [3, 4, 5, 6, 9, 15, 20, 102, 103, 134, 135, 222, 223, 224, 257] 1 (by simp; rfl) ?_
                        refine tops_nil ?_
                        cases hvv46
                        exact ⟨_, rfl, wk (by simp [weak_iff])⟩
                      · rw [if_neg (by rw [c108]; decide)] at hvv46
                        refine ko [3, 4, 5, 6, 9, 15, 20, 27, 29, 31, 32, 33, 34, 35, 36, 37, 38, 102, 103, 134, 135, 222, 223, 224, 227, 228, 229, 231] 5 (by simp; rfl) ?_
                        refine tops_split 231 (y40.2 != y41.2) (by simp) (fun c109 => ?_) (fun c109 => ?_)
                        · rw [if_pos c109] at hvv46
                          refine kskip 4 [] (by kernel_rfl) ?_
                          refine ko [3, 4, 5, 6, 9, 15, 20, 31, 32, 33, 34, 35, 36, 37, 38, 102, 103, 134, 135, 222, 223, 224, 227, 228, 229, 237] 2 (by simp; rfl) ?_
                          refine kskip 3 [] (by kernel_rfl) ?_
                          refine ko [3, 4, 5, 6, 9, 15, 20, 32, 34, 35, 36, 37, 38, 102, 103, 134, 135, 222, 223, 224, 227, 228, 229, 242] 2 (by simp; rfl) ?_
                          refine kskip 3 [] (by kernel_rfl) ?_
                          refine ko [3, 4, 5, 6, 9, 15, 20, 35, 36, 37, 38, 102, 103, 134, 135, 222, 223, 224, 227, 228, 229, 247] 2 (by simp; rfl) ?_
                          refine kskip 3 [] (by kernel_rfl) ?_
                          refine ko [3, 4, 5, 6, 9, 15, 20, 35, 37, 102, 103, 134, 135, 222, 223, 224, 227, 228, 229, 252] 2 (by simp; rfl) ?_
                          refine kskip 4 [] (by kernel_rfl) ?_
                          refine ko [3, 4, 5, 6, 9, 15, 20, 102, 103, 134, 135, 222, 223, 224, 227, 228, 229, 257] 1 (by simp; rfl) ?_
                          refine tops_nil ?_
                          cases hvv46
                          exact ⟨_, rfl, wk (by simp [weak_iff])⟩
                        · rw [if_neg (by rw [c109]; decide)] at hvv46
                          refine ko [3, 4, 5, 6, 9, 15, 20, 31, 32, 33, 34, 35, 36, 37, 38, 102, 103, 134, 135, 222, 223, 224, 227, 228, 229, 231, 232, 233] 2 (by simp; rfl) ?_
                          replace hvv46 := bnd hvv46; obtain ⟨y47, hy47, hvv46⟩ := hvv46
                          refine kcall [3, 4, 5, 6, 9, 15, 20, 31, 32, 33, 34, 35, 36, 37, 38, 102, 103, 134, 135, 222, 223, 224, 227, 228, 229, 231, 232, 233, 234] [] (ref42_Same_ok hy47) rfl rfl rfl Try.call27 (by simp) (by simp; rfl) ?_
                          refine ko [3, 4, 5, 6, 9, 15, 20, 31, 32, 33, 34, 35, 36, 37, 38, 102, 103, 134, 135, 222, 223, 224, 227, 228, 229, 232, 233, 234, 235, 237] 3 (by simp; rfl) ?_
                          refine tops_split 237 (!y47) (by simp) (fun c110 => ?_) (fun c110 => ?_)
                          · rw [if_pos c110] at hvv46
                            refine kskip 3 [] (by kernel_rfl) ?_
                            refine ko [3, 4, 5, 6, 9, 15, 20, 32, 34, 35, 36, 37, 38, 102, 103, 134, 135, 222, 223, 224, 227, 228, 229, 232, 233, 234, 235, 242] 2 (by simp; rfl) ?_
                            refine kskip 3 [] (by kernel_rfl) ?_
                            refine ko [3, 4, 5, 6, 9, 15, 20, 35, 36, 37, 38, 102, 103, 134, 135, 222, 223, 224, 227, 228, 229, 232, 233, 234, 235, 247] 2 (by simp; rfl) ?_
                            refine kskip 3 [] (by kernel_rfl) ?_
                            refine ko [3, 4, 5, 6, 9, 15, 20, 35, 37, 102, 103, 134, 135, 222, 223, 224, 227, 228, 229, 232, 233, 234, 235, 252] 2 (by simp; rfl) ?_
                            refine kskip 4 [] (by kernel_rfl) ?_
                            refine ko [3, 4, 5, 6, 9, 15, 20, 102, 103, 134, 135, 222, 223, 224, 227, 228, 229, 232, 233, 234, 235, 257] 1 (by simp; rfl) ?_
                            refine tops_nil ?_
                            cases hvv46
                            exact ⟨_, rfl, wk (by simp [weak_iff])⟩
                          · rw [if_neg (by rw [c110]; decide)] at hvv46
                            refine ko [3, 4, 5, 6, 9, 15, 20, 32, 34, 35, 36, 37, 38, 102, 103, 134, 135, 222, 223, 224, 227, 228, 229, 232, 233, 234, 235, 238, 239, 240, 242] 5 (by simp; rfl) ?_
                            refine tops_split 242 (y42.1 != y43.1) (by simp) (fun c111 => ?_) (fun c111 => ?_)
                            · rw [if_pos c111] at hvv46
                              refine kskip 3 [] (by kernel_rfl) ?_
                              refine ko [3, 4, 5, 6, 9, 15, 20, 35, 36, 37, 38, 102, 103, 134, 135, 222, 223, 224, 227, 228, 229, 232, 233, 234, 235, 238, 239, 240, 247] 2 (by simp; rfl) ?_
                              refine kskip 3 [] (by kernel_rfl) ?_
                              refine ko [3, 4, 5, 6, 9, 15, 20, 35, 37, 102, 103, 134, 135, 222, 223, 224, 227, 228, 229, 232, 233, 234, 235, 238, 239, 240, 252] 2 (by simp; rfl) ?_
                              refine kskip 4 [] (by kernel_rfl) ?_
                              refine ko [3, 4, 5, 6, 9, 15, 20, 102, 103, 134, 135, 222, 223, 224, 227, 228, 229, 232, 233, 234, 235, 238, 239, 240, 257] 1 (by simp; rfl) ?_
                              refine tops_nil ?_
                              cases hvv46
                              exact ⟨_, rfl, wk (by simp [weak_iff])⟩
                            · rw [if_neg (by rw [c111]; decide)] at hvv46
                              refine ko [3, 4, 5, 6, 9, 15, 20, 35, 36, 37, 38, 102, 103, 134, 135, 222, 223, 224, 227, 228, 229, 232, 233, 234, 235, 238, 239, 240, 243, 244, 245, 247] 5 (by simp; rfl) ?_
                              refine tops_split 247 (y42.2 != y43.2) (by simp) (fun c112 => ?_) (fun c112 => ?_)
                              · rw [if_pos c112] at hvv46
                                refine kskip 3 [] (by kernel_rfl) ?_
                                refine ko [3, 4, 5, 6, 9, 15, 20, 35, 37, 102, 103, 134, 135, 222, 223, 224, 227, 228, 229, 232, 233, 234, 235, 238, 239, 240, 243, 244, 245, 252] 2 (by simp; rfl) ?_
                                refine kskip 4 [] (by kernel_rfl) ?_
                                refine ko [3, 4, 5, 6, 9, 15, 20, 102, 103, 134, 135, 222, 223, 224, 227, 228, 229, 232, 233, 234, 235, 238, 239, 240, 243, 244, 245, 257] 1 (by simp; rfl) ?_
                                refine tops_nil ?_
                                cases hvv46
                                exact ⟨_, rfl, wk (by simp [weak_iff])⟩
                              · rw [if_neg (by rw [c112]; decide)] at hvv46
                                refine ko [3, 4, 5, 6, 9, 15, 20, 35, 37, 102, 103, 134, 135, 222, 223, 224, 227, 228, 229, 232, 233, 234, 235, 238, 239, 240, 243, 244, 245, 248, 249, 250, 252] 5 (by simp; rfl) ?_
                                refine tops_split 252 (y44.2 != y45.2) (by simp) (fun c113 => ?_) (fun c113 => ?_)
                                · rw [if_pos c113] at hvv46
                                  refine kskip 4 [] (by kernel_rfl) ?_
                                  refine ko [3, 4, 5, 6, 9, 15, 20, 102, 103, 134, 135, 222, 223, 224, 227, 228, 229, 232, 233, 234, 235, 238, 239, 240, 243, 244, 245, 248, 249, 250, 257] 1 (by simp; rfl) ?_
                                  refine tops_nil ?_
                                  cases hvv46
                                  exact ⟨_, rfl, wk (by simp [weak_iff])⟩
                                · rw [if_neg (by rw [c113]; decide)] at hvv46
                                  refine ko [3, 4, 5, 6, 9, 15, 20, 102, 103, 134, 135, 222, 223, 224, 227, 228, 229, 232, 233, 234, 235, 238, 239, 240, 243, 244, 245, 248, 249, 250, 252, 253, 254] 2 (by simp; rfl) ?_
                                  replace hvv46 := bnd hvv46; obtain ⟨y48, hy48, hvv46⟩ := hvv46
                                  refine kcall [3, 4, 5, 6, 9, 15, 20, 102, 103, 134, 135, 222, 223, 224, 227, 228, 229, 232, 233, 234, 235, 238, 239, 240, 243, 244, 245, 248, 249, 250, 252, 253, 254, 255] [] (ref42_Beliefs_ok hy48) rfl rfl rfl Try.call28 (by simp) (by simp; rfl) ?_
                                  refine ko [3, 4, 5, 6, 9, 15, 20, 102, 103, 134, 135, 222, 223, 224, 227, 228, 229, 232, 233, 234, 235, 238, 239, 240, 243, 244, 245, 248, 249, 250, 253, 254, 255, 256, 257] 2 (by simp; rfl) ?_
                                  refine tops_nil ?_
                                  cases hvv46
                                  exact ⟨_, rfl, wk (by simp [weak_iff])⟩
                · rw [if_neg (by rw [c91]; decide)] at h3
                  refine tr_exit ?_
                  exact ⟨_, he3 _ (Option.some.inj h3), wk (by simp [weak_iff])⟩
          · rw [if_neg (by rw [c60]; decide)] at h1
            refine tr_exit ?_
            exact ⟨_, he1 _ (Option.some.inj h1), wk (by simp [weak_iff])⟩
      · refine kr [1, 3, 4, 5, 6, 9, 15, 16, 17, 63] (by simp; rfl) ?_
        refine tr_cond (b := (decide (0 < ((y3.1).length : Int)))) (by simp) (fun c114 => ?_) (fun c114 => ?_)
        · rw [if_pos c114] at h0
          refine kc ?_
          refine ko [1, 3, 4, 5, 6, 9, 15, 16, 17, 64, 65, 67] 4 (by simp; rfl) ?_
          replace h0 := bnd h0; obtain ⟨y53, hy53, h0⟩ := h0
          refine kcall [1, 3, 4, 5, 6, 9, 15, 16, 17, 64, 68] [56] (make_Tape_Next_ok hy53) rfl rfl rfl Try.call14 (by simp) (by simp; rfl) ?_
          replace h0 := bnd h0; obtain ⟨_, p58, h0⟩ := h0
          replace p58 := ck_some p58
          have p58' := p58; try simp at p58'
          have p58o : y53.1 < (((y3.1)).length : Int) := by omega
          refine ko [1, 3, 4, 5, 6, 9, 15, 16, 17, 18] 2 (by simp [p58, p58o, p58']; rfl) ?_
          refine tops_nil ?_
          refine kc ?_
          refine ko [1, 3, 4, 5, 6, 9, 15, 16, 17, 18, 70] 1 (by simp; rfl) ?_
          replace h0 := bnd h0; obtain ⟨y54, hy54, h0⟩ := h0
          refine kcall [1, 3, 4, 5, 6, 9, 15, 16, 17, 18, 71] [56] (make_Tape_Next_ok hy54) rfl rfl rfl Try.call14 (by simp) (by simp; rfl) ?_
          refine tops_nil ?_
          refine tr_block ?_
          refine kr [1, 3, 4, 5, 6, 9, 15, 16, 17, 18, 71, 78] (by simp; rfl) ?_
          refine tr_cond (b := (y54.1 == 0)) (by simp) (fun c115 => ?_) (fun c115 => ?_)
          · rw [if_pos c115] at h0
            refine kc1 ?_
            refine ko [1, 3, 4, 5, 6, 9, 15, 16, 17, 80, 81] 2 (by simp; rfl) ?_
            replace h0 := bnd h0; obtain ⟨y55, hy55, h0⟩ := h0
            refine kcall [1, 3, 4, 5, 6, 9, 15, 16, 17, 80, 82] [56] (make_Tape_Between_ok hy55) rfl rfl rfl Try.call17 (by simp) (by simp; rfl) ?_
            replace h0 := bnd h0; obtain ⟨x56, p59, h0⟩ := h0
            replace p59 := idx_some p59
            have p59' := p59; try simp at p59'
            refine ko [1, 3, 4, 5, 6, 9, 15, 16, 17] 3 (by simp [-getElem?_pos, List.getElem?_cons_zero, List.getElem?_cons_succ, p59, (List.getElem?_eq_some_iff.1 p59.2).1, p59']; rfl) ?_
            refine tops_nil ?_
            exact ⟨_, h0, wk (by simp [weak_iff])⟩
          · rw [if_neg (by rw [c115]; decide)] at h0
            refine kr [1, 3, 4, 5, 6, 9, 15, 16, 17, 18, 71, 85] (by simp; rfl) ?_
            refine tr_cond (b := (y54.1 == 1)) (by simp) (fun c116 => ?_) (fun c116 => ?_)
            · rw [if_pos c116] at h0
              refine kc1 ?_
              refine ko [1, 3, 4, 5, 6, 9, 15, 16, 17, 87, 88] 2 (by simp; rfl) ?_
              replace h0 := bnd h0; obtain ⟨y57, hy57, h0⟩ := h0
              refine kcall [1, 3, 4, 5, 6, 9, 15, 16, 17, 87, 89] [56] (make_Tape_Between_ok hy57) rfl rfl rfl Try.call17 (by simp) (by simp; rfl) ?_
              replace h0 := bnd h0; obtain ⟨x58, p60, h0⟩ := h0
              replace p60 := idx_some p60
              have p60' := p60; try simp at p60'
              refine ko [1, 3, 4, 5, 6, 9, 15, 16, 17] 3 (by simp [-getElem?_pos, List.getElem?_cons_zero, List.getElem?_cons_succ, p60, (List.getElem?_eq_some_iff.1 p60.2).1, p60']; rfl) ?_
              refine tops_nil ?_
              exact ⟨_, h0, wk (by simp [weak_iff])⟩
            · rw [if_neg (by rw [c116]; decide)] at h0
              refine kr [1, 3, 4, 5, 6, 9, 15, 16, 17, 18, 92] (by simp; rfl) ?_
              refine tr_cond (b := (y54.1 == 2)) (by simp) (fun c117 => ?_) (fun c117 => ?_)
              · rw [if_pos c117] at h0
                refine kc1 ?_
                refine ko [1, 3, 4, 5, 6, 9, 15, 16, 17, 94, 95] 2 (by simp; rfl) ?_
                replace h0 := bnd h0; obtain ⟨y59, hy59, h0⟩ := h0
                refine kcall [1, 3, 4, 5, 6, 9, 15, 16, 17, 94, 96] [56] (make_Tape_Between_ok hy59) rfl rfl rfl Try.call17 (by simp) (by simp; rfl) ?_
                replace h0 := bnd h0; obtain ⟨x60, p61, h0⟩ := h0
                replace p61 := idx_some p61
                have p61' := p61; try simp at p61'
                refine ko [1, 3, 4, 5, 6, 9, 15, 16, 17] 3 (by simp [-getElem?_pos, List.getElem?_cons_zero, List.getElem?_cons_succ, p61, (List.getElem?_eq_some_iff.1 p61.2).1, p61']; rfl) ?_
                refine tops_nil ?_
                exact ⟨_, h0, wk (by simp [weak_iff])⟩
              · rw [if_neg (by rw [c117]; decide)] at h0
                refine kc1 ?_
                refine ko [1, 3, 4, 5, 6, 9, 15, 16, 17, 72, 73, 74] 3 (by simp; rfl) ?_
                refine tops_wk (wk_frz 74) ?_
                replace h0 := bnd h0; obtain ⟨y61, hy61, h0⟩ := h0
                refine kcall [1, 3, 4, 5, 6, 9, 15, 16, 17, 72, 75] [56] (make_Pick_ok hy61) rfl rfl rfl Try.call18 (by simp) (by simp; rfl) ?_
                replace h0 := bnd h0; obtain ⟨x62, p62, h0⟩ := h0
                replace p62 := idx_some p62
                have p62' := p62; try simp at p62'
                refine ko [1, 3, 4, 5, 6, 9, 15, 16, 17] 3 (by simp [-getElem?_pos, List.getElem?_cons_zero, List.getElem?_cons_succ, p62, (List.getElem?_eq_some_iff.1 p62.2).1, p62']; rfl) ?_
                refine tops_nil ?_
                exact ⟨_, h0, wk (by simp [weak_iff])⟩
        · rw [if_neg (by rw [c114]; decide)] at h0
          refine tr_skip ?_
          exact ⟨_, h0, wk (by simp [weak_iff])⟩
  · refine kc1 ?_
    refine ko [0, 1, 3, 4, 5, 6, 9, 48] 4 (by simp; rfl) ?_
    refine tops_split 48 (decide (200 < ((a0).length : Int))) (by simp) (fun c118 => ?_) (fun c118 => ?_)
    · rw [c118] at hvv1
      refine kskip 3 [] (by kernel_rfl) ?_
      refine ko [0, 1, 3, 4, 5, 6, 9, 52] 1 (by simp; rfl) ?_
      refine tops_nil ?_
      cases hvv1
      exact ⟨_, rfl, wk (by simp [weak_iff])⟩
    · rw [c118] at hvv1
      refine ko [0, 1, 3, 4, 5, 6, 9, 52] 4 (by simp; rfl) ?_
      refine tops_nil ?_
      cases hvv1
      exact ⟨_, rfl, wk (by simp [weak_iff])⟩
end Go.Vl
