/- Walks: each function of the given program computes what its mirror says. Conditions: none. -/
import Derived.Test.YtciimncnodejaaaDoorNw2
set_option linter.unusedSimpArgs false
set_option linter.unusedVariables false
namespace Go.Vl
open Go Go.Proofs
set_option maxHeartbeats 1000000 in
theorem ref23_in_ok {a0 : Int} {a1 : Int} {a2 : Int} {r : Bool} (h0 : ref23_in a0 a1 a2 = some r) : FnOK Tryd.prog 54 [] [.d (.int .i64 a0), .d (.int .i64 a1), .d (.int .i64 a2)] (.d (.bool r)) [] := by
  unfold ref23_in at h0
  refine fn_ok (nt := 15) (rs := [.tmp 6]) Tryd.func54 rfl Tryd.ntmps54 rfl (by simp) (by decide) rfl fun K => ?_
  refine kr [0, 1, 2] (by simp; rfl) ?_
  replace h0 := bnd h0; obtain ⟨v1, hvv1, h0⟩ := h0
  refine sjv (fun v1_ : Bool => ({ nt := 15, env := [(6, .d (.bool v1_))], box := [], vec := [] } : St)) (fun v1_ => v1 = v1_) (fun v1_ e => ?_) ?_
  · subst e
    cases h0
    exact tr_ret ⟨[], by simp, rfl, by simp⟩
  · refine kc1 ?_
    refine ko [0, 2, 10] 4 (by simp; rfl) ?_
    refine tops_split 10 (decide (a1 ≤ a0)) (by simp) (fun c3 => ?_) (fun c3 => ?_)
    · rw [c3] at hvv1
      refine ko [6] 5 (by simp; rfl) ?_
      refine tops_nil ?_
      cases hvv1
      exact ⟨_, rfl, wk (by simp [weak_iff])⟩
    · rw [c3] at hvv1
      refine kskip 3 [] (by kernel_rfl) ?_
      refine ko [6] 2 (by simp; rfl) ?_
      refine tops_nil ?_
      cases hvv1
      exact ⟨_, rfl, wk (by simp [weak_iff])⟩
set_option maxHeartbeats 1000000 in
theorem ref23_Exists_ok {a0 : api_Directory} {a1 : Int} {r : Bool} (h0 : ref23_Exists a0 a1 = some r) : FnOK Tryd.prog 35 [] [.agg (api_Directory_av a0), .d (.int .i64 a1)] (.d (.bool r)) [] := by
  unfold ref23_Exists at h0
  refine fn_ok (nt := 11) (rs := [.tmp 4]) Tryd.func35 rfl Tryd.ntmps35 rfl (by simp) (by decide) rfl fun K => ?_
  refine kr [1, 2] (by simp; rfl) ?_
  refine kc ?_
  refine ko [5, 9] 5 (by simp; rfl) ?_
  replace h0 := bnd h0; obtain ⟨y1, hy1, h0⟩ := h0
  refine kcall [10] [] (ref23_in_ok hy1) rfl rfl rfl Tryd.call54 (by simp) (by simp; rfl) ?_
  refine ko [4] 1 (by simp; rfl) ?_
  refine tops_nil ?_
  cases h0
  exact tr_ret ⟨[], by simp, rfl, by simp⟩
set_option maxHeartbeats 1000000 in
theorem ref23_Group_ok {a0 : api_Directory} {a1 : Int} {r : Bool} (h0 : ref23_Group a0 a1 = some r) : FnOK Tryd.prog 77 [] [.agg (api_Directory_av a0), .d (.int .i64 a1)] (.d (.bool r)) [] := by
  unfold ref23_Group at h0
  refine fn_ok (nt := 16) (rs := [.tmp 4]) Tryd.func77 rfl Tryd.ntmps77 rfl (by simp) (by decide) rfl fun K => ?_
  refine kr [1, 2] (by simp; rfl) ?_
  replace h0 := bnd h0; obtain ⟨v1, hvv1, h0⟩ := h0
  refine sjv (fun v1_ : Bool => ({ nt := 16, env := [(4, .d (.bool v1_))], box := [], vec := [] } : St)) (fun v1_ => v1 = v1_) (fun v1_ e => ?_) ?_
  · subst e
    cases h0
    exact tr_ret ⟨[], by simp, rfl, by simp⟩
  · refine kc1 ?_
    refine ko [1, 2, 5, 6] 2 (by simp; rfl) ?_
    replace hvv1 := bnd hvv1; obtain ⟨y2, hy2, hvv1⟩ := hvv1
    refine kcall [1, 2, 7] [] (ref23_Exists_ok hy2) rfl rfl rfl Tryd.call35 (by simp) (by simp; rfl) ?_
    refine ko [1, 2, 8] 1 (by simp; rfl) ?_
    refine tops_split 8 y2 (by simp) (fun c3 => ?_) (fun c3 => ?_)
    · rw [if_pos c3] at hvv1
      replace hvv1 := bnd hvv1; obtain ⟨x3, p3, hvv1⟩ := hvv1
      replace p3 := idx_some p3
      have p3' := p3; try simp at p3'
      refine ko [4] 8 (by simp [p3, p3']; rfl) ?_
      refine tops_nil ?_
      cases hvv1
      exact ⟨_, rfl, wk (by simp [weak_iff])⟩
    · rw [if_neg (by rw [c3]; decide)] at hvv1
      refine kskip 6 [] (by kernel_rfl) ?_
      refine ko [4] 2 (by simp; rfl) ?_
      refine tops_nil ?_
      cases hvv1
      exact ⟨_, rfl, wk (by simp [weak_iff])⟩
set_option maxHeartbeats 1000000 in
theorem ref23_Valid_ok {a0 : api_Directory} {r : Bool} (h0 : ref23_Valid a0 = some r) : FnOK Tryd.prog 53 [] [.agg (api_Directory_av a0)] (.d (.bool r)) [] := by
  unfold ref23_Valid at h0
  refine fn_ok (nt := 84) (rs := [.tmp 2]) Tryd.func53 rfl Tryd.ntmps53 rfl (by simp) (by decide) rfl fun K => ?_
  refine kr [1] (by simp; rfl) ?_
  refine tr_seq ?_
  replace h0 := bnd h0; obtain ⟨v1, hvv1, h0⟩ := h0
  refine sjv (fun v1_ : Bool => ({ nt := 84, env := [(1, .ptr 1 0), (16, .d (.bool v1_))], box := [(1, [.d (.slice (rowsF (iRow .i64) a0.Kinds)), .d (.slice (rowsF api_Member_row a0.Events))])], vec := [] } : St)) (fun v1_ => v1 = v1_) (fun v1_ e => ?_) ?_
  · subst e
    refine tr_cond (b := v1) (by simp) (fun c3 => ?_) (fun c3 => ?_)
    · rw [if_pos c3] at h0
      refine kr [2] (by simp; rfl) ?_
      cases h0
      exact tr_ret ⟨[], by simp, rfl, by simp⟩
    · rw [if_neg (by rw [c3]; decide)] at h0
      refine tr_skip ?_
      refine tr_seq ?_
      refine kr [1, 18, 19, 20] (by simp; rfl) ?_
      replace h0 := bnd h0; obtain ⟨e1, hI1, h0⟩ := h0
      refine tjv (fun v2 : Unit => ({ nt := 84, env := [(1, .ptr 1 0)], box := [(1, [.d (.slice (rowsF (iRow .i64) a0.Kinds)), .d (.slice (rowsF api_Member_row a0.Events))])], vec := [] } : St)) (fun v2 => .inl v2 = e1) (fun v2 hI1e _ W1 => ?_) ?_
      · subst hI1e
        dsimp only at h0
        refine tr_wk W1 ?_
        refine tr_seq ?_
        refine kr [1, 29, 30, 31] (by simp; rfl) ?_
        replace h0 := bnd h0; obtain ⟨e2, hI2, h0⟩ := h0
        refine tjv (fun v3 : Unit => ({ nt := 84, env := [], box := [], vec := [] } : St)) (fun v3 => .inl v3 = e2) (fun v3 hI2e _ W2 => ?_) ?_
        · subst hI2e
          dsimp only at h0
          refine tr_wk W2 ?_
          refine kr [2] (by simp; rfl) ?_
          cases h0
          exact tr_ret ⟨[], by simp, rfl, by simp⟩
        · refine tr_block (tr_iter (fun s4 : Int => ({ nt := 84, env := [(1, .ptr 1 0), (29, .d (.slice (rowsF api_Member_row a0.Events))), (30, .d (.int .i64 ((a0.Events).length : Int))), (31, .d (.int .i64 s4))], box := [(1, [.d (.slice (rowsF (iRow .i64) a0.Kinds)), .d (.slice (rowsF api_Member_row a0.Events))])], vec := [] } : St)) hI2 (wk (by simp [weak_iff])) fun G2 s4 o2 h2 hg2 he2 => ?_)
          unfold ref23_Valid_l1 at h2
          refine kr [1, 29, 30, 31, 32] (by simp; rfl) ?_
          refine tr_seq ?_
          refine tr_cond (b := (decide (s4 < ((a0.Events).length : Int)))) (by simp) (fun c60 => ?_) (fun c60 => ?_)
          · rw [if_pos c60] at h2
            refine tr_skip ?_
            refine tr_seq ?_
            refine tr_block ?_
            replace h2 := bnd h2; obtain ⟨x5, p11, h2⟩ := h2
            replace p11 := idx_some p11
            have p11' := p11; try simp at p11'
            refine kr [1, 5, 6, 29, 30, 31] (by simp [p11, p11']; rfl) ?_
            replace h2 := bnd h2; obtain ⟨v6, hvv6, h2⟩ := h2
            refine sjv (fun v6_ : Bool => ({ nt := 84, env := [(1, .ptr 1 0), (29, .d (.slice (rowsF api_Member_row a0.Events))), (30, .d (.int .i64 ((a0.Events).length : Int))), (31, .d (.int .i64 s4)), (82, .d (.bool v6_))], box := [(1, [.d (.slice (rowsF (iRow .i64) a0.Kinds)), .d (.slice (rowsF api_Member_row a0.Events))])], vec := [] } : St)) (fun v6_ => v6 = v6_) (fun v6_ e => ?_) ?_
            · subst e
              refine tr_cond (b := v6) (by simp) (fun c109 => ?_) (fun c109 => ?_)
              · rw [if_pos c109] at h2
                refine kr [2] (by simp; rfl) ?_
                have k1 := he2 _ (Option.some.inj h2)
                subst k1
                dsimp only at h0
                cases h0
                exact tr_ret ⟨[], by simp, rfl, by simp⟩
              · rw [if_neg (by rw [c109]; decide)] at h2
                refine tr_skip ?_
                refine lr (by simp; rfl) ?_
                exact ⟨_, hg2 _ (Option.some.inj h2), wk (by simp [weak_iff])⟩
            · refine kd1 [[], [0], [1], [2], [3], [4], [4, 5], [4, 6], [4, 7], [4, 8], [9], [10], [10, 11], [10, 12], [13], [13, 14], [13], [13, 16], [13], [13, 18], [13, 17, 19], [13, 20], [13, 21], [13, 15, 22], [10, 13, 23], [10, 24], [25], [26], [26], [26, 28], [26, 27, 29], [26, 30], [26, 31], [32], [33], [33], [33, 35], [33, 34, 36], [33, 37], [33, 38], [39], [40], [40, 41], [40], [40, 43], [40, 42, 44], [40, 45]] [] [] none [] 47 fol (by decide +kernel) (by simp) ?_
              refine dr_go 0 2 rfl (by simp (maxSteps := 1000000); rfl) ?_
              replace hvv6 := bnd hvv6; obtain ⟨y7, hy7, hvv6⟩ := hvv6
              refine dr_call 2 [] (ref23_in_ok hy7) rfl rfl rfl rfl rfl Tryd.call54 (by simp) ?_
              refine dr_go 3 2 rfl (by simp (maxSteps := 1000000); rfl) ?_
              refine dr_split 4 40 (!y7) (by simp) (fun c126 => ?_) (fun c126 => ?_)
              · rw [if_pos c126] at hvv6
                refine dr_skip 5 84 [some 41, some 42, some 43, some 44] rfl rfl (by decide) (by kernel_rfl) (by simp only [skEf, List.map_cons, List.map_nil, List.cons_append, List.nil_append]; rfl) ?_
                refine dr_go 9 2 rfl (by simp (maxSteps := 1000000); rfl) ?_
                refine dr_skip 11 84 [some 47, some 48, some 49, some 50, some 51, some 52, some 53, some 54, some 55, some 56, some 57, some 58, some 59, some 60] rfl rfl (by decide) (by kernel_rfl) (by simp only [skEf, List.map_cons, List.map_nil, List.cons_append, List.nil_append]; rfl) ?_
                refine dr_go 25 2 rfl (by simp (maxSteps := 1000000); rfl) ?_
                refine dr_skip 27 84 [some 63, some 64, some 65, some 66, some 67] rfl rfl (by decide) (by kernel_rfl) (by simp only [skEf, List.map_cons, List.map_nil, List.cons_append, List.nil_append]; rfl) ?_
                refine dr_go 32 2 rfl (by simp (maxSteps := 1000000); rfl) ?_
                refine dr_skip 34 84 [some 70, some 71, some 72, some 73, some 74] rfl rfl (by decide) (by kernel_rfl) (by simp only [skEf, List.map_cons, List.map_nil, List.cons_append, List.nil_append]; rfl) ?_
                refine dr_go 39 2 rfl (by simp (maxSteps := 1000000); rfl) ?_
                refine dr_skip 41 84 [some 77, some 78, some 79, some 80, some 81] rfl rfl (by decide) (by kernel_rfl) (by simp only [skEf, List.map_cons, List.map_nil, List.cons_append, List.nil_append]; rfl) ?_
                refine dr_go 46 1 rfl (by simp (maxSteps := 1000000); rfl) ?_
                refine dr_end rfl (tops_nil ?_)
                cases hvv6
                exact ⟨_, rfl, wk (by simp [weak_iff])⟩
              · rw [if_neg (by rw [c126]; decide)] at hvv6
                refine dr_go 5 2 rfl (by simp (maxSteps := 1000000); rfl) ?_
                replace hvv6 := bnd hvv6; obtain ⟨y8, hy8, hvv6⟩ := hvv6
                refine dr_call 7 [] (ref23_in_ok hy8) rfl rfl rfl rfl rfl Tryd.call54 (by simp) ?_
                refine dr_go 8 2 rfl (by simp (maxSteps := 1000000); rfl) ?_
                refine dr_go 10 1 rfl (by simp (maxSteps := 1000000); rfl) ?_
                refine dr_split 10 46 (!y8) (by simp) (fun c127 => ?_) (fun c127 => ?_)
                · rw [if_pos c127] at hvv6
                  refine dr_skip 11 84 [some 47, some 48, some 49, some 50, some 51, some 52, some 53, some 54, some 55, some 56, some 57, some 58, some 59, some 60] rfl rfl (by decide) (by kernel_rfl) (by simp only [skEf, List.map_cons, List.map_nil, List.cons_append, List.nil_append]; rfl) ?_
                  refine dr_go 25 2 rfl (by simp (maxSteps := 1000000); rfl) ?_
                  refine dr_skip 27 84 [some 63, some 64, some 65, some 66, some 67] rfl rfl (by decide) (by kernel_rfl) (by simp only [skEf, List.map_cons, List.map_nil, List.cons_append, List.nil_append]; rfl) ?_
                  refine dr_go 32 2 rfl (by simp (maxSteps := 1000000); rfl) ?_
                  refine dr_skip 34 84 [some 70, some 71, some 72, some 73, some 74] rfl rfl (by decide) (by kernel_rfl) (by simp only [skEf, List.map_cons, List.map_nil, List.cons_append, List.nil_append]; rfl) ?_
                  refine dr_go 39 2 rfl (by simp (maxSteps := 1000000); rfl) ?_
                  refine dr_skip 41 84 [some 77, some 78, some 79, some 80, some 81] rfl rfl (by decide) (by kernel_rfl) (by simp only [skEf, List.map_cons, List.map_nil, List.cons_append, List.nil_append]; rfl) ?_
                  refine dr_go 46 1 rfl (by simp (maxSteps := 1000000); rfl) ?_
                  refine dr_end rfl (tops_nil ?_)
                  cases hvv6
                  exact ⟨_, rfl, wk (by simp [weak_iff])⟩
                · rw [if_neg (by rw [c127]; decide)] at hvv6
                  refine dr_go 11 2 rfl (by simp (maxSteps := 1000000); rfl) ?_
                  refine dr_go 13 1 rfl (by simp (maxSteps := 1000000); rfl) ?_
                  refine dr_split 13 49 (decide (0 < s4)) (by simp) (fun c128 => ?_) (fun c128 => ?_)
                  · rw [if_pos c128] at hvv6
                    replace hvv6 := bnd hvv6; obtain ⟨x9, p20, hvv6⟩ := hvv6
                    replace p20 := idx_some p20
                    have p20' := p20; try simp at p20'
                    refine dr_go 14 2 rfl (by simp (maxSteps := 1000000) [p20, p20']; rfl) ?_
                    refine dr_go 16 2 rfl (by simp (maxSteps := 1000000) [p20, p20']; rfl) ?_
                    refine dr_go 18 2 rfl (by simp (maxSteps := 1000000) [p20, p20']; rfl) ?_
                    refine dr_go 20 2 rfl (by simp (maxSteps := 1000000) [p20, p20']; rfl) ?_
                    refine dr_go 22 2 rfl (by simp (maxSteps := 1000000) [p20, p20']; rfl) ?_
                    refine dr_go 24 2 rfl (by simp (maxSteps := 1000000) [p20, p20']; rfl) ?_
                    refine dr_go 26 1 rfl (by simp (maxSteps := 1000000) [p20, p20']; rfl) ?_
                    refine dr_split 26 62 (decide (x5.Time < x9.Time)) (by simp) (fun c129 => ?_) (fun c129 => ?_)
                    · rw [if_pos c129] at hvv6
                      refine dr_skip 27 84 [some 63, some 64, some 65, some 66, some 67] rfl rfl (by decide) (by kernel_rfl) (by simp only [skEf, List.map_cons, List.map_nil, List.cons_append, List.nil_append]; rfl) ?_
                      refine dr_go 32 2 rfl (by simp (maxSteps := 1000000); rfl) ?_
                      refine dr_skip 34 84 [some 70, some 71, some 72, some 73, some 74] rfl rfl (by decide) (by kernel_rfl) (by simp only [skEf, List.map_cons, List.map_nil, List.cons_append, List.nil_append]; rfl) ?_
                      refine dr_go 39 2 rfl (by simp (maxSteps := 1000000); rfl) ?_
                      refine dr_skip 41 84 [some 77, some 78, some 79, some 80, some 81] rfl rfl (by decide) (by kernel_rfl) (by simp only [skEf, List.map_cons, List.map_nil, List.cons_append, List.nil_append]; rfl) ?_
                      refine dr_go 46 1 rfl (by simp (maxSteps := 1000000); rfl) ?_
                      refine dr_end rfl (tops_nil ?_)
                      cases hvv6
                      exact ⟨_, rfl, wk (by simp [weak_iff])⟩
                    · rw [if_neg (by rw [c129]; decide)] at hvv6
                      refine dr_go 27 2 rfl (by simp (maxSteps := 1000000); rfl) ?_
                      refine dr_go 29 1 rfl (by simp (maxSteps := 1000000); rfl) ?_
                      replace hvv6 := bnd hvv6; obtain ⟨y10, hy10, hvv6⟩ := hvv6
                      refine dr_call 30 [] (ref23_Exists_ok hy10) rfl rfl rfl rfl rfl Tryd.call35 (by simp) ?_
                      refine dr_go 31 2 rfl (by simp (maxSteps := 1000000); rfl) ?_
                      refine dr_go 33 1 rfl (by simp (maxSteps := 1000000); rfl) ?_
                      refine dr_split 33 69 (!y10) (by simp) (fun c130 => ?_) (fun c130 => ?_)
                      · rw [if_pos c130] at hvv6
                        refine dr_skip 34 84 [some 70, some 71, some 72, some 73, some 74] rfl rfl (by decide) (by kernel_rfl) (by simp only [skEf, List.map_cons, List.map_nil, List.cons_append, List.nil_append]; rfl) ?_
                        refine dr_go 39 2 rfl (by simp (maxSteps := 1000000); rfl) ?_
                        refine dr_skip 41 84 [some 77, some 78, some 79, some 80, some 81] rfl rfl (by decide) (by kernel_rfl) (by simp only [skEf, List.map_cons, List.map_nil, List.cons_append, List.nil_append]; rfl) ?_
                        refine dr_go 46 1 rfl (by simp (maxSteps := 1000000); rfl) ?_
                        refine dr_end rfl (tops_nil ?_)
                        cases hvv6
                        exact ⟨_, rfl, wk (by simp [weak_iff])⟩
                      · rw [if_neg (by rw [c130]; decide)] at hvv6
                        refine dr_go 34 2 rfl (by simp (maxSteps := 1000000); rfl) ?_
                        refine dr_go 36 1 rfl (by simp (maxSteps := 1000000); rfl) ?_
                        replace hvv6 := bnd hvv6; obtain ⟨y11, hy11, hvv6⟩ := hvv6
                        refine dr_call 37 [] (ref23_Group_ok hy11) rfl rfl rfl rfl rfl Tryd.call77 (by simp) ?_
                        refine dr_go 38 2 rfl (by simp (maxSteps := 1000000); rfl) ?_
                        refine dr_go 40 1 rfl (by simp (maxSteps := 1000000); rfl) ?_
                        refine dr_split 40 76 (!y11) (by simp) (fun c131 => ?_) (fun c131 => ?_)
                        · rw [if_pos c131] at hvv6
                          refine dr_skip 41 84 [some 77, some 78, some 79, some 80, some 81] rfl rfl (by decide) (by kernel_rfl) (by simp only [skEf, List.map_cons, List.map_nil, List.cons_append, List.nil_append]; rfl) ?_
                          refine dr_go 46 1 rfl (by simp (maxSteps := 1000000); rfl) ?_
                          refine dr_end rfl (tops_nil ?_)
                          cases hvv6
                          exact ⟨_, rfl, wk (by simp [weak_iff])⟩
                        · rw [if_neg (by rw [c131]; decide)] at hvv6
                          refine dr_go 41 2 rfl (by simp (maxSteps := 1000000); rfl) ?_
                          refine dr_go 43 2 rfl (by simp (maxSteps := 1000000); rfl) ?_
                          refine dr_go 45 2 rfl (by simp (maxSteps := 1000000); rfl) ?_
                          refine dr_end rfl (tops_nil ?_)
                          cases hvv6
                          exact ⟨_, rfl, wk (by simp [weak_iff])⟩
                  · rw [if_neg (by rw [c128]; decide)] at hvv6
                    refine dr_skip 14 84 [some 50, some 51, some 52, some 53, some 54, some 55, some 56, some 57, some 58, some 59] rfl rfl (by decide) (by kernel_rfl) (by simp only [skEf, List.map_cons, List.map_nil, List.cons_append, List.nil_append]; rfl) ?_
                    refine dr_go 24 2 rfl (by simp (maxSteps := 1000000); rfl) ?_
                    refine dr_go 26 2 rfl (by simp (maxSteps := 1000000); rfl) ?_
                    refine dr_go 28 2 rfl (by simp (maxSteps := 1000000); rfl) ?_
                    replace hvv6 := bnd hvv6; obtain ⟨y12, hy12, hvv6⟩ := hvv6
                    refine dr_call 30 [] (ref23_Exists_ok hy12) rfl rfl rfl rfl rfl Tryd.call35 (by simp) ?_
                    refine dr_go 31 2 rfl (by simp (maxSteps := 1000000); rfl) ?_
                    refine dr_go 33 1 rfl (by simp (maxSteps := 1000000); rfl) ?_
                    refine dr_split 33 69 (!y12) (by simp) (fun c132 => ?_) (fun c132 => ?_)
                    · rw [if_pos c132] at hvv6
                      refine dr_skip 34 84 [some 70, some 71, some 72, some 73, some 74] rfl rfl (by decide) (by kernel_rfl) (by simp only [skEf, List.map_cons, List.map_nil, List.cons_append, List.nil_append]; rfl) ?_
                      refine dr_go 39 2 rfl (by simp (maxSteps := 1000000); rfl) ?_
                      refine dr_skip 41 84 [some 77, some 78, some 79, some 80, some 81] rfl rfl (by decide) (by kernel_rfl) (by simp only [skEf, List.map_cons, List.map_nil, List.cons_append, List.nil_append]; rfl) ?_
                      refine dr_go 46 1 rfl (by simp (maxSteps := 1000000); rfl) ?_
                      refine dr_end rfl (tops_nil ?_)
                      cases hvv6
                      exact ⟨_, rfl, wk (by simp [weak_iff])⟩
                    · rw [if_neg (by rw [c132]; decide)] at hvv6
                      refine dr_go 34 2 rfl (by simp (maxSteps := 1000000); rfl) ?_
                      refine dr_go 36 1 rfl (by simp (maxSteps := 1000000); rfl) ?_
                      replace hvv6 := bnd hvv6; obtain ⟨y13, hy13, hvv6⟩ := hvv6
                      refine dr_call 37 [] (ref23_Group_ok hy13) rfl rfl rfl rfl rfl Tryd.call77 (by simp) ?_
                      refine dr_go 38 2 rfl (by simp (maxSteps := 1000000); rfl) ?_
                      refine dr_go 40 1 rfl (by simp (maxSteps := 1000000); rfl) ?_
                      refine dr_split 40 76 (!y13) (by simp) (fun c133 => ?_) (fun c133 => ?_)
                      · rw [if_pos c133] at hvv6
                        refine dr_skip 41 84 [some 77, some 78, some 79, some 80, some 81] rfl rfl (by decide) (by kernel_rfl) (by simp only [skEf, List.map_cons, List.map_nil, List.cons_append, List.nil_append]; rfl) ?_
                        refine dr_go 46 1 rfl (by simp (maxSteps := 1000000); rfl) ?_
                        refine dr_end rfl (tops_nil ?_)
                        cases hvv6
                        exact ⟨_, rfl, wk (by simp [weak_iff])⟩
                      · rw [if_neg (by rw [c133]; decide)] at hvv6
                        refine dr_go 41 2 rfl (by simp (maxSteps := 1000000); rfl) ?_
                        refine dr_go 43 2 rfl (by simp (maxSteps := 1000000); rfl) ?_
                        refine dr_go 45 2 rfl (by simp (maxSteps := 1000000); rfl) ?_
                        refine dr_end rfl (tops_nil ?_)
                        cases hvv6
                        exact ⟨_, rfl, wk (by simp [weak_iff])⟩
          · rw [if_neg (by rw [c60]; decide)] at h2
            refine tr_exit ?_
            exact ⟨_, he2 _ (Option.some.inj h2), wk (by simp [weak_iff])⟩
      · refine tr_block (tr_iter (fun s16 : Int => ({ nt := 84, env := [(1, .ptr 1 0), (18, .d (.slice (rowsF (iRow .i64) a0.Kinds))), (19, .d (.int .i64 ((a0.Kinds).length : Int))), (20, .d (.int .i64 s16))], box := [(1, [.d (.slice (rowsF (iRow .i64) a0.Kinds)), .d (.slice (rowsF api_Member_row a0.Events))])], vec := [] } : St)) hI1 (wk (by simp [weak_iff])) fun G2 s16 o2 h2 hg2 he2 => ?_)
        unfold ref23_Valid_l0 at h2
        refine kr [1, 18, 19, 20, 21] (by simp; rfl) ?_
        refine tr_seq ?_
        refine tr_cond (b := (decide (s16 < ((a0.Kinds).length : Int)))) (by simp) (fun c134 => ?_) (fun c134 => ?_)
        · rw [if_pos c134] at h2
          refine tr_skip ?_
          refine tr_seq ?_
          refine tr_block ?_
          replace h2 := bnd h2; obtain ⟨x17, p21, h2⟩ := h2
          replace p21 := idx_some p21
          have p21' := p21; try simp at p21'
          refine kr [1, 4, 18, 19, 20] (by simp [p21, p21']; rfl) ?_
          refine kc ?_
          refine ko [1, 18, 19, 20, 24] 1 (by simp; rfl) ?_
          replace h2 := bnd h2; obtain ⟨y18, hy18, h2⟩ := h2
          refine kcall [1, 18, 19, 20, 25] [] (ref23_in_ok hy18) rfl rfl rfl Tryd.call54 (by simp) (by simp; rfl) ?_
          refine ko [1, 18, 19, 20, 26] 1 (by simp; rfl) ?_
          refine tops_nil ?_
          refine tr_cond (b := (!y18)) (by simp) (fun c135 => ?_) (fun c135 => ?_)
          · rw [if_pos c135] at h2
            refine kr [2] (by simp; rfl) ?_
            have k1 := he2 _ (Option.some.inj h2)
            subst k1
            dsimp only at h0
            cases h0
            exact tr_ret ⟨[], by simp, rfl, by simp⟩
          · rw [if_neg (by rw [c135]; decide)] at h2
            refine tr_skip ?_
            refine lr (by simp; rfl) ?_
            exact ⟨_, hg2 _ (Option.some.inj h2), wk (by simp [weak_iff])⟩
        · rw [if_neg (by rw [c134]; decide)] at h2
          refine tr_exit ?_
          exact ⟨_, he2 _ (Option.some.inj h2), wk (by simp [weak_iff])⟩
  · refine kc1 ?_
    refine ko [1, 11] 5 (by simp; rfl) ?_
    refine tops_split 11 (decide (24 < ((a0.Kinds).length : Int))) (by simp) (fun c136 => ?_) (fun c136 => ?_)
    · rw [c136] at hvv1
      refine kskip 4 [] (by kernel_rfl) ?_
      refine ko [1, 16] 1 (by simp; rfl) ?_
      refine tops_nil ?_
      cases hvv1
      exact ⟨_, rfl, wk (by simp [weak_iff])⟩
    · rw [c136] at hvv1
      refine ko [1, 16] 5 (by simp; rfl) ?_
      refine tops_nil ?_
      cases hvv1
      exact ⟨_, rfl, wk (by simp [weak_iff])⟩
set_option maxHeartbeats 1000000 in
theorem ref26_Check_ok {a0 : api_Directory} {a1 : List api_Steward} {r : Int} (h0 : ref26_Check a0 a1 = some r) : FnOK Tryd.prog 34 [] [.agg (api_Directory_av a0), .d (.slice (rowsF api_Steward_row a1))] (.d (.int .i64 r)) [] := by
  unfold ref26_Check at h0
  refine fn_ok (nt := 70) (rs := [.tmp 4]) Tryd.func34 rfl Tryd.ntmps34 rfl (by simp) (by decide) rfl fun K => ?_
  refine kr [1, 2] (by simp; rfl) ?_
  refine tr_seq ?_
  refine kc ?_
  refine ko [1, 2, 7] 1 (by simp; rfl) ?_
  replace h0 := bnd h0; obtain ⟨y1, hy1, h0⟩ := h0
  refine kcall [1, 2, 8] [] (ref23_Valid_ok hy1) rfl rfl rfl Tryd.call53 (by simp) (by simp; rfl) ?_
  refine ko [1, 2, 9] 1 (by simp; rfl) ?_
  refine tops_nil ?_
  refine tr_cond (b := (!y1)) (by simp) (fun c1 => ?_) (fun c1 => ?_)
  · rw [if_pos c1] at h0
    refine kr [4] (by simp; rfl) ?_
    cases h0
    exact tr_ret ⟨[], by simp, rfl, by simp⟩
  · rw [if_neg (by rw [c1]; decide)] at h0
    refine tr_skip ?_
    refine tr_seq ?_
    refine kr [1, 2, 12] (by simp; rfl) ?_
    refine tr_cond (b := (decide (120 < ((a1).length : Int)))) (by simp) (fun c2 => ?_) (fun c2 => ?_)
    · rw [if_pos c2] at h0
      refine kr [4] (by simp; rfl) ?_
      cases h0
      exact tr_ret ⟨[], by simp, rfl, by simp⟩
    · rw [if_neg (by rw [c2]; decide)] at h0
      refine tr_skip ?_
      refine tr_seq ?_
      refine kr [1, 2, 13, 14, 15] (by simp; rfl) ?_
      replace h0 := bnd h0; obtain ⟨e1, hI1, h0⟩ := h0
      refine tjv (fun v2 : Unit => ({ nt := 70, env := [], box := [], vec := [] } : St)) (fun v2 => .inl v2 = e1) (fun v2 hI1e _ W1 => ?_) ?_
      · subst hI1e
        dsimp only at h0
        refine tr_wk W1 ?_
        refine kr [4] (by simp; rfl) ?_
        cases h0
        exact tr_ret ⟨[], by simp, rfl, by simp⟩
      · refine tr_block (tr_iter (fun s3 : Int => ({ nt := 70, env := [(1, .d (.slice (rowsF api_Steward_row a1))), (2, .ptr 2 0), (13, .d (.slice (rowsF api_Steward_row a1))), (14, .d (.int .i64 ((a1).length : Int))), (15, .d (.int .i64 s3))], box := [(2, [.d (.slice (rowsF (iRow .i64) a0.Kinds)), .d (.slice (rowsF api_Member_row a0.Events))])], vec := [] } : St)) hI1 (wk (by simp [weak_iff])) fun G1 s3 o1 h1 hg1 he1 => ?_)
        unfold ref26_Check_l0 at h1
        refine kr [1, 2, 13, 14, 15, 16] (by simp; rfl) ?_
        refine tr_seq ?_
        refine tr_cond (b := (decide (s3 < ((a1).length : Int)))) (by simp) (fun c67 => ?_) (fun c67 => ?_)
        · rw [if_pos c67] at h1
          refine tr_skip ?_
          refine tr_seq ?_
          refine tr_block ?_
          replace h1 := bnd h1; obtain ⟨x4, p9, h1⟩ := h1
          replace p9 := idx_some p9
          have p9' := p9; try simp at p9'
          refine kr [1, 2, 5, 6, 13, 14, 15] (by simp [p9, p9']; rfl) ?_
          replace h1 := bnd h1; obtain ⟨v5, hvv5, h1⟩ := h1
          refine sjv (fun v5_ : Bool => ({ nt := 70, env := [(1, .d (.slice (rowsF api_Steward_row a1))), (2, .ptr 2 0), (13, .d (.slice (rowsF api_Steward_row a1))), (14, .d (.int .i64 ((a1).length : Int))), (15, .d (.int .i64 s3)), (68, .d (.bool v5_))], box := [(2, [.d (.slice (rowsF (iRow .i64) a0.Kinds)), .d (.slice (rowsF api_Member_row a0.Events))])], vec := [] } : St)) (fun v5_ => v5 = v5_) (fun v5_ e => ?_) ?_
          · subst e
            refine tr_cond (b := v5) (by simp) (fun c128 => ?_) (fun c128 => ?_)
            · rw [if_pos c128] at h1
              refine kr [4] (by simp; rfl) ?_
              have k1 := he1 _ (Option.some.inj h1)
              subst k1
              dsimp only at h0
              cases h0
              exact tr_ret ⟨[], by simp, rfl, by simp⟩
            · rw [if_neg (by rw [c128]; decide)] at h1
              refine tr_skip ?_
              refine lr (by simp; rfl) ?_
              exact ⟨_, hg1 _ (Option.some.inj h1), wk (by simp [weak_iff])⟩
          · refine kd1 [[], [0], [1], [2], [3], [3, 4], [3, 5], [3, 6], [7], [8], [8, 9], [8, 10], [11], [11, 12], [11], [11], [11, 15], [11, 14, 16], [11, 17], [11, 18], [11, 13, 19], [8, 11, 20], [8, 21], [22], [23], [23], [23, 25], [23, 24, 26], [23, 27], [23, 28], [29], [30], [30, 31], [30, 32], [30, 33], [34], [34], [34, 36], [34, 35, 37], [34, 38], [30, 34, 39], [30, 40], [41], [42], [42, 43], [42], [42, 45], [42, 44, 46], [42, 47]] [] [] none [] 49 fol (by decide +kernel) (by simp) ?_
            refine dr_go 0 2 rfl (by simp (maxSteps := 1000000); rfl) ?_
            refine dr_go 2 2 rfl (by simp (maxSteps := 1000000); rfl) ?_
            refine dr_split 3 23 (decide (x4.Time < 0)) (by simp) (fun c149 => ?_) (fun c149 => ?_)
            · rw [if_pos c149] at hvv5
              refine dr_skip 4 70 [some 24, some 25, some 26] rfl rfl (by decide) (by kernel_rfl) (by simp only [skEf, List.map_cons, List.map_nil, List.cons_append, List.nil_append]; rfl) ?_
              refine dr_go 7 2 rfl (by simp (maxSteps := 1000000); rfl) ?_
              refine dr_skip 9 70 [some 29, some 30, some 31, some 32, some 33, some 34, some 35, some 36, some 37, some 38, some 39, some 40, some 41] rfl rfl (by decide) (by kernel_rfl) (by simp only [skEf, List.map_cons, List.map_nil, List.cons_append, List.nil_append]; rfl) ?_
              refine dr_go 22 2 rfl (by simp (maxSteps := 1000000); rfl) ?_
              refine dr_skip 24 70 [some 44, some 45, some 46, some 47, some 48] rfl rfl (by decide) (by kernel_rfl) (by simp only [skEf, List.map_cons, List.map_nil, List.cons_append, List.nil_append]; rfl) ?_
              refine dr_go 29 2 rfl (by simp (maxSteps := 1000000); rfl) ?_
              refine dr_skip 31 70 [some 51, some 52, some 53, some 54, some 55, some 56, some 57, some 58, some 59, some 60] rfl rfl (by decide) (by kernel_rfl) (by simp only [skEf, List.map_cons, List.map_nil, List.cons_append, List.nil_append]; rfl) ?_
              refine dr_go 41 2 rfl (by simp (maxSteps := 1000000); rfl) ?_
              refine dr_skip 43 70 [some 63, some 64, some 65, some 66, some 67] rfl rfl (by decide) (by kernel_rfl) (by simp only [skEf, List.map_cons, List.map_nil, List.cons_append, List.nil_append]; rfl) ?_
              refine dr_go 48 1 rfl (by simp (maxSteps := 1000000); rfl) ?_
              refine dr_end rfl (tops_nil ?_)
              cases hvv5
              exact ⟨_, rfl, wk (by simp [weak_iff])⟩
            · rw [if_neg (by rw [c149]; decide)] at hvv5
              refine dr_go 4 2 rfl (by simp (maxSteps := 1000000); rfl) ?_
              refine dr_go 6 2 rfl (by simp (maxSteps := 1000000); rfl) ?_
              refine dr_go 8 1 rfl (by simp (maxSteps := 1000000); rfl) ?_
              refine dr_split 8 28 (decide (1099511627776 < x4.Time)) (by simp) (fun c150 => ?_) (fun c150 => ?_)
              · rw [if_pos c150] at hvv5
                refine dr_skip 9 70 [some 29, some 30, some 31, some 32, some 33, some 34, some 35, some 36, some 37, some 38, some 39, some 40, some 41] rfl rfl (by decide) (by kernel_rfl) (by simp only [skEf, List.map_cons, List.map_nil, List.cons_append, List.nil_append]; rfl) ?_
                refine dr_go 22 2 rfl (by simp (maxSteps := 1000000); rfl) ?_
                refine dr_skip 24 70 [some 44, some 45, some 46, some 47, some 48] rfl rfl (by decide) (by kernel_rfl) (by simp only [skEf, List.map_cons, List.map_nil, List.cons_append, List.nil_append]; rfl) ?_
                refine dr_go 29 2 rfl (by simp (maxSteps := 1000000); rfl) ?_
                refine dr_skip 31 70 [some 51, some 52, some 53, some 54, some 55, some 56, some 57, some 58, some 59, some 60] rfl rfl (by decide) (by kernel_rfl) (by simp only [skEf, List.map_cons, List.map_nil, List.cons_append, List.nil_append]; rfl) ?_
                refine dr_go 41 2 rfl (by simp (maxSteps := 1000000); rfl) ?_
                refine dr_skip 43 70 [some 63, some 64, some 65, some 66, some 67] rfl rfl (by decide) (by kernel_rfl) (by simp only [skEf, List.map_cons, List.map_nil, List.cons_append, List.nil_append]; rfl) ?_
                refine dr_go 48 1 rfl (by simp (maxSteps := 1000000); rfl) ?_
                refine dr_end rfl (tops_nil ?_)
                cases hvv5
                exact ⟨_, rfl, wk (by simp [weak_iff])⟩
              · rw [if_neg (by rw [c150]; decide)] at hvv5
                refine dr_go 9 2 rfl (by simp (maxSteps := 1000000); rfl) ?_
                refine dr_go 11 1 rfl (by simp (maxSteps := 1000000); rfl) ?_
                refine dr_split 11 31 (decide (0 < s3)) (by simp) (fun c151 => ?_) (fun c151 => ?_)
                · rw [if_pos c151] at hvv5
                  replace hvv5 := bnd hvv5; obtain ⟨x6, p18, hvv5⟩ := hvv5
                  replace p18 := idx_some p18
                  have p18' := p18; try simp at p18'
                  refine dr_go 12 2 rfl (by simp (maxSteps := 1000000) [p18, p18']; rfl) ?_
                  refine dr_go 14 2 rfl (by simp (maxSteps := 1000000) [p18, p18']; rfl) ?_
                  refine dr_go 16 2 rfl (by simp (maxSteps := 1000000) [p18, p18']; rfl) ?_
                  refine dr_go 18 2 rfl (by simp (maxSteps := 1000000) [p18, p18']; rfl) ?_
                  refine dr_go 20 2 rfl (by simp (maxSteps := 1000000) [p18, p18']; rfl) ?_
                  refine dr_go 22 2 rfl (by simp (maxSteps := 1000000) [p18, p18']; rfl) ?_
                  refine dr_split 23 43 (decide (x4.Time < x6.Time)) (by simp) (fun c152 => ?_) (fun c152 => ?_)
                  · rw [if_pos c152] at hvv5
                    refine dr_skip 24 70 [some 44, some 45, some 46, some 47, some 48] rfl rfl (by decide) (by kernel_rfl) (by simp only [skEf, List.map_cons, List.map_nil, List.cons_append, List.nil_append]; rfl) ?_
                    refine dr_go 29 2 rfl (by simp (maxSteps := 1000000); rfl) ?_
                    refine dr_skip 31 70 [some 51, some 52, some 53, some 54, some 55, some 56, some 57, some 58, some 59, some 60] rfl rfl (by decide) (by kernel_rfl) (by simp only [skEf, List.map_cons, List.map_nil, List.cons_append, List.nil_append]; rfl) ?_
                    refine dr_go 41 2 rfl (by simp (maxSteps := 1000000); rfl) ?_
                    refine dr_skip 43 70 [some 63, some 64, some 65, some 66, some 67] rfl rfl (by decide) (by kernel_rfl) (by simp only [skEf, List.map_cons, List.map_nil, List.cons_append, List.nil_append]; rfl) ?_
                    refine dr_go 48 1 rfl (by simp (maxSteps := 1000000); rfl) ?_
                    refine dr_end rfl (tops_nil ?_)
                    cases hvv5
                    exact ⟨_, rfl, wk (by simp [weak_iff])⟩
                  · rw [if_neg (by rw [c152]; decide)] at hvv5
                    refine dr_go 24 2 rfl (by simp (maxSteps := 1000000); rfl) ?_
                    refine dr_go 26 1 rfl (by simp (maxSteps := 1000000); rfl) ?_
                    replace hvv5 := bnd hvv5; obtain ⟨y7, hy7, hvv5⟩ := hvv5
                    refine dr_call 27 [] (ref23_Exists_ok hy7) rfl rfl rfl rfl rfl Tryd.call35 (by simp) ?_
                    refine dr_go 28 2 rfl (by simp (maxSteps := 1000000); rfl) ?_
                    refine dr_go 30 1 rfl (by simp (maxSteps := 1000000); rfl) ?_
                    refine dr_split 30 50 (!y7) (by simp) (fun c153 => ?_) (fun c153 => ?_)
                    · rw [if_pos c153] at hvv5
                      refine dr_skip 31 70 [some 51, some 52, some 53, some 54, some 55, some 56, some 57, some 58, some 59, some 60] rfl rfl (by decide) (by kernel_rfl) (by simp only [skEf, List.map_cons, List.map_nil, List.cons_append, List.nil_append]; rfl) ?_
                      refine dr_go 41 2 rfl (by simp (maxSteps := 1000000); rfl) ?_
                      refine dr_skip 43 70 [some 63, some 64, some 65, some 66, some 67] rfl rfl (by decide) (by kernel_rfl) (by simp only [skEf, List.map_cons, List.map_nil, List.cons_append, List.nil_append]; rfl) ?_
                      refine dr_go 48 1 rfl (by simp (maxSteps := 1000000); rfl) ?_
                      refine dr_end rfl (tops_nil ?_)
                      cases hvv5
                      exact ⟨_, rfl, wk (by simp [weak_iff])⟩
                    · rw [if_neg (by rw [c153]; decide)] at hvv5
                      refine dr_go 31 2 rfl (by simp (maxSteps := 1000000); rfl) ?_
                      refine dr_go 33 2 rfl (by simp (maxSteps := 1000000); rfl) ?_
                      refine dr_split 34 54 (x4.Steward != (-1)) (by simp) (fun c154 => ?_) (fun c154 => ?_)
                      · rw [if_pos c154] at hvv5
                        refine dr_go 35 2 rfl (by simp (maxSteps := 1000000); rfl) ?_
                        refine dr_go 37 1 rfl (by simp (maxSteps := 1000000); rfl) ?_
                        replace hvv5 := bnd hvv5; obtain ⟨y8, hy8, hvv5⟩ := hvv5
                        refine dr_call 38 [] (ref23_Exists_ok hy8) rfl rfl rfl rfl rfl Tryd.call35 (by simp) ?_
                        refine dr_go 39 2 rfl (by simp (maxSteps := 1000000); rfl) ?_
                        refine dr_go 41 2 rfl (by simp (maxSteps := 1000000); rfl) ?_
                        refine dr_split 42 62 (!y8) (by simp) (fun c155 => ?_) (fun c155 => ?_)
                        · rw [if_pos c155] at hvv5
                          refine dr_skip 43 70 [some 63, some 64, some 65, some 66, some 67] rfl rfl (by decide) (by kernel_rfl) (by simp only [skEf, List.map_cons, List.map_nil, List.cons_append, List.nil_append]; rfl) ?_
                          refine dr_go 48 1 rfl (by simp (maxSteps := 1000000); rfl) ?_
                          refine dr_end rfl (tops_nil ?_)
                          cases hvv5
                          exact ⟨_, rfl, wk (by simp [weak_iff])⟩
                        · rw [if_neg (by rw [c155]; decide)] at hvv5
                          refine dr_go 43 2 rfl (by simp (maxSteps := 1000000); rfl) ?_
                          refine dr_go 45 2 rfl (by simp (maxSteps := 1000000); rfl) ?_
                          refine dr_go 47 2 rfl (by simp (maxSteps := 1000000); rfl) ?_
                          refine dr_end rfl (tops_nil ?_)
                          cases hvv5
                          exact ⟨_, rfl, wk (by simp [weak_iff])⟩
                      · rw [if_neg (by rw [c154]; decide)] at hvv5
                        refine dr_skip 35 70 [some 55, some 56, some 57, some 58, some 59] rfl rfl (by decide) (by kernel_rfl) (by simp only [skEf, List.map_cons, List.map_nil, List.cons_append, List.nil_append]; rfl) ?_
                        refine dr_go 40 2 rfl (by simp (maxSteps := 1000000); rfl) ?_
                        refine dr_go 42 2 rfl (by simp (maxSteps := 1000000); rfl) ?_
                        refine dr_go 44 2 rfl (by simp (maxSteps := 1000000); rfl) ?_
                        refine dr_go 46 2 rfl (by simp (maxSteps := 1000000); rfl) ?_
                        refine dr_go 48 1 rfl (by simp (maxSteps := 1000000); rfl) ?_
                        refine dr_end rfl (tops_nil ?_)
                        cases hvv5
                        exact ⟨_, rfl, wk (by simp [weak_iff])⟩
                · rw [if_neg (by rw [c151]; decide)] at hvv5
                  refine dr_skip 12 70 [some 32, some 33, some 34, some 35, some 36, some 37, some 38, some 39, some 40] rfl rfl (by decide) (by kernel_rfl) (by simp only [skEf, List.map_cons, List.map_nil, List.cons_append, List.nil_append]; rfl) ?_
                  refine dr_go 21 2 rfl (by simp (maxSteps := 1000000); rfl) ?_
                  refine dr_go 23 2 rfl (by simp (maxSteps := 1000000); rfl) ?_
                  refine dr_go 25 2 rfl (by simp (maxSteps := 1000000); rfl) ?_
                  replace hvv5 := bnd hvv5; obtain ⟨y9, hy9, hvv5⟩ := hvv5
                  refine dr_call 27 [] (ref23_Exists_ok hy9) rfl rfl rfl rfl rfl Tryd.call35 (by simp) ?_
                  refine dr_go 28 2 rfl (by simp (maxSteps := 1000000); rfl) ?_
                  refine dr_go 30 1 rfl (by simp (maxSteps := 1000000); rfl) ?_
                  refine dr_split 30 50 (!y9) (by simp) (fun c156 => ?_) (fun c156 => ?_)
                  · rw [if_pos c156] at hvv5
                    refine dr_skip 31 70 [some 51, some 52, some 53, some 54, some 55, some 56, some 57, some 58, some 59, some 60] rfl rfl (by decide) (by kernel_rfl) (by simp only [skEf, List.map_cons, List.map_nil, List.cons_append, List.nil_append]; rfl) ?_
                    refine dr_go 41 2 rfl (by simp (maxSteps := 1000000); rfl) ?_
                    refine dr_skip 43 70 [some 63, some 64, some 65, some 66, some 67] rfl rfl (by decide) (by kernel_rfl) (by simp only [skEf, List.map_cons, List.map_nil, List.cons_append, List.nil_append]; rfl) ?_
                    refine dr_go 48 1 rfl (by simp (maxSteps := 1000000); rfl) ?_
                    refine dr_end rfl (tops_nil ?_)
                    cases hvv5
                    exact ⟨_, rfl, wk (by simp [weak_iff])⟩
                  · rw [if_neg (by rw [c156]; decide)] at hvv5
                    refine dr_go 31 2 rfl (by simp (maxSteps := 1000000); rfl) ?_
                    refine dr_go 33 2 rfl (by simp (maxSteps := 1000000); rfl) ?_
                    refine dr_split 34 54 (x4.Steward != (-1)) (by simp) (fun c157 => ?_) (fun c157 => ?_)
                    · rw [if_pos c157] at hvv5
                      refine dr_go 35 2 rfl (by simp (maxSteps := 1000000); rfl) ?_
                      refine dr_go 37 1 rfl (by simp (maxSteps := 1000000); rfl) ?_
                      replace hvv5 := bnd hvv5; obtain ⟨y10, hy10, hvv5⟩ := hvv5
                      refine dr_call 38 [] (ref23_Exists_ok hy10) rfl rfl rfl rfl rfl Tryd.call35 (by simp) ?_
                      refine dr_go 39 2 rfl (by simp (maxSteps := 1000000); rfl) ?_
                      refine dr_go 41 2 rfl (by simp (maxSteps := 1000000); rfl) ?_
                      refine dr_split 42 62 (!y10) (by simp) (fun c158 => ?_) (fun c158 => ?_)
                      · rw [if_pos c158] at hvv5
                        refine dr_skip 43 70 [some 63, some 64, some 65, some 66, some 67] rfl rfl (by decide) (by kernel_rfl) (by simp only [skEf, List.map_cons, List.map_nil, List.cons_append, List.nil_append]; rfl) ?_
                        refine dr_go 48 1 rfl (by simp (maxSteps := 1000000); rfl) ?_
                        refine dr_end rfl (tops_nil ?_)
                        cases hvv5
                        exact ⟨_, rfl, wk (by simp [weak_iff])⟩
                      · rw [if_neg (by rw [c158]; decide)] at hvv5
                        refine dr_go 43 2 rfl (by simp (maxSteps := 1000000); rfl) ?_
                        refine dr_go 45 2 rfl (by simp (maxSteps := 1000000); rfl) ?_
                        refine dr_go 47 2 rfl (by simp (maxSteps := 1000000); rfl) ?_
                        refine dr_end rfl (tops_nil ?_)
                        cases hvv5
                        exact ⟨_, rfl, wk (by simp [weak_iff])⟩
                    · rw [if_neg (by rw [c157]; decide)] at hvv5
                      refine dr_skip 35 70 [some 55, some 56, some 57, some 58, some 59] rfl rfl (by decide) (by kernel_rfl) (by simp only [skEf, List.map_cons, List.map_nil, List.cons_append, List.nil_append]; rfl) ?_
                      refine dr_go 40 2 rfl (by simp (maxSteps := 1000000); rfl) ?_
                      refine dr_go 42 2 rfl (by simp (maxSteps := 1000000); rfl) ?_
                      refine dr_go 44 2 rfl (by simp (maxSteps := 1000000); rfl) ?_
                      refine dr_go 46 2 rfl (by simp (maxSteps := 1000000); rfl) ?_
                      refine dr_go 48 1 rfl (by simp (maxSteps := 1000000); rfl) ?_
                      refine dr_end rfl (tops_nil ?_)
                      cases hvv5
                      exact ⟨_, rfl, wk (by simp [weak_iff])⟩
        · rw [if_neg (by rw [c67]; decide)] at h1
          refine tr_exit ?_
          exact ⟨_, he1 _ (Option.some.inj h1), wk (by simp [weak_iff])⟩
set_option maxHeartbeats 1000000 in
theorem ref23_Has_ok {a0 : List Int} {a1 : Int} {r : Bool} (h0 : ref23_Has a0 a1 = some r) : FnOK Tryd.prog 13 [] [.d (.slice (rowsF (iRow .i64) a0)), .d (.int .i64 a1)] (.d (.bool r)) [] := by
  unfold ref23_Has at h0
  refine fn_ok (nt := 17) (rs := [.tmp 4]) Tryd.func13 rfl Tryd.ntmps13 rfl (by simp) (by decide) rfl fun K => ?_
  refine kr [0, 1] (by simp; rfl) ?_
  refine tr_seq ?_
  refine kr [1, 7, 8, 9] (by simp; rfl) ?_
  replace h0 := bnd h0; obtain ⟨e1, hI1, h0⟩ := h0
  refine tjv (fun v1 : Unit => ({ nt := 17, env := [], box := [], vec := [] } : St)) (fun v1 => .inl v1 = e1) (fun v1 hI1e _ W1 => ?_) ?_
  · subst hI1e
    dsimp only at h0
    refine tr_wk W1 ?_
    refine kr [4] (by simp; rfl) ?_
    cases h0
    exact tr_ret ⟨[], by simp, rfl, by simp⟩
  · refine tr_block (tr_iter (fun s2 : Int => ({ nt := 17, env := [(1, .d (.int .i64 a1)), (7, .d (.slice (rowsF (iRow .i64) a0))), (8, .d (.int .i64 ((a0).length : Int))), (9, .d (.int .i64 s2))], box := [], vec := [] } : St)) hI1 (wk (by simp [weak_iff])) fun G1 s2 o1 h1 hg1 he1 => ?_)
    unfold ref23_Has_l0 at h1
    refine kr [1, 7, 8, 9, 10] (by simp; rfl) ?_
    refine tr_seq ?_
    refine tr_cond (b := (decide (s2 < ((a0).length : Int)))) (by simp) (fun c5 => ?_) (fun c5 => ?_)
    · rw [if_pos c5] at h1
      refine tr_skip ?_
      refine tr_seq ?_
      refine tr_block ?_
      replace h1 := bnd h1; obtain ⟨x3, p3, h1⟩ := h1
      replace p3 := idx_some p3
      have p3' := p3; try simp at p3'
      refine kr [1, 6, 7, 8, 9] (by simp [p3, p3']; rfl) ?_
      refine kr [1, 7, 8, 9, 15] (by simp; rfl) ?_
      refine tr_cond (b := (x3 == a1)) (by simp) (fun c6 => ?_) (fun c6 => ?_)
      · rw [if_pos c6] at h1
        refine kr [4] (by simp; rfl) ?_
        have k1 := he1 _ (Option.some.inj h1)
        subst k1
        dsimp only at h0
        cases h0
        exact tr_ret ⟨[], by simp, rfl, by simp⟩
      · rw [if_neg (by rw [c6]; decide)] at h1
        refine tr_skip ?_
        refine lr (by simp; rfl) ?_
        exact ⟨_, hg1 _ (Option.some.inj h1), wk (by simp [weak_iff])⟩
    · rw [if_neg (by rw [c5]; decide)] at h1
      refine tr_exit ?_
      exact ⟨_, he1 _ (Option.some.inj h1), wk (by simp [weak_iff])⟩
set_option maxHeartbeats 1000000 in
theorem ref26_of_ok {a0 : List api_Steward} {a1 : Int} {a2 : Int} {r : Int} (h0 : ref26_of a0 a1 a2 = some r) : FnOK Tryd.prog 36 [] [.d (.slice (rowsF api_Steward_row a0)), .d (.int .i64 a1), .d (.int .i64 a2)] (.d (.int .i64 r)) [] := by
  unfold ref26_of at h0
  refine fn_ok (nt := 30) (rs := [.tmp 6]) Tryd.func36 rfl Tryd.ntmps36 rfl (by simp) (by decide) rfl fun K => ?_
  refine kr [0, 1, 2] (by simp; rfl) ?_
  refine kr [0, 1, 2, 7] (by simp; rfl) ?_
  refine tr_seq ?_
  refine kr [1, 2, 7, 10, 11, 12] (by simp; rfl) ?_
  replace h0 := bnd h0; obtain ⟨e1, hI1, h0⟩ := h0
  refine tjv (fun v1 : Int => ({ nt := 30, env := [(7, .d (.int .i64 v1))], box := [], vec := [] } : St)) (fun v1 => v1 = e1) (fun v1 hI1e _ W1 => ?_) ?_
  · subst hI1e
    refine tr_wk W1 ?_
    refine kr [6] (by simp; rfl) ?_
    cases h0
    exact tr_ret ⟨[], by simp, rfl, by simp⟩
  · refine tr_block (tr_iter (fun s2 : Int × Int => ({ nt := 30, env := [(1, .d (.int .i64 a1)), (2, .d (.int .i64 a2)), (7, .d (.int .i64 s2.1)), (10, .d (.slice (rowsF api_Steward_row a0))), (11, .d (.int .i64 ((a0).length : Int))), (12, .d (.int .i64 s2.2))], box := [], vec := [] } : St)) hI1 (wk (by simp [weak_iff])) fun G1 s2 o1 h1 hg1 he1 => ?_)
    unfold ref26_of_l0 at h1
    refine kr [1, 2, 7, 10, 11, 12, 13] (by simp; rfl) ?_
    refine tr_seq ?_
    refine tr_cond (b := (decide (s2.2 < ((a0).length : Int)))) (by simp) (fun c7 => ?_) (fun c7 => ?_)
    · rw [if_pos c7] at h1
      refine tr_skip ?_
      refine tr_seq ?_
      refine tr_block ?_
      replace h1 := bnd h1; obtain ⟨x3, p3, h1⟩ := h1
      replace p3 := idx_some p3
      have p3' := p3; try simp at p3'
      refine kr [1, 2, 7, 9, 10, 11, 12] (by simp [p3, p3']; rfl) ?_
      replace h1 := bnd h1; obtain ⟨v4, hvv4, h1⟩ := h1
      refine sjv (fun v4_ : Bool => ({ nt := 30, env := [(1, .d (.int .i64 a1)), (2, .d (.int .i64 a2)), (7, .d (.int .i64 s2.1)), (9, .ptr 9 0), (10, .d (.slice (rowsF api_Steward_row a0))), (11, .d (.int .i64 ((a0).length : Int))), (12, .d (.int .i64 s2.2)), (25, .d (.bool v4_))], box := [(9, [.d (.int .i64 x3.Time), .d (.int .i64 x3.Subject), .d (.int .i64 x3.Steward)])], vec := [] } : St)) (fun v4_ => v4 = v4_) (fun v4_ e => ?_) ?_
      · subst e
        refine tr_cond (b := v4) (by simp) (fun c10 => ?_) (fun c10 => ?_)
        · rw [if_pos c10] at h1
          refine lr (by simp; rfl) ?_
          refine lr (by simp; rfl) ?_
          exact ⟨_, hg1 _ (Option.some.inj h1), wk (by simp [weak_iff])⟩
        · rw [if_neg (by rw [c10]; decide)] at h1
          refine tr_skip ?_
          refine lr (by simp; rfl) ?_
          exact ⟨_, hg1 _ (Option.some.inj h1), wk (by simp [weak_iff])⟩
      · refine kc1 ?_
        refine ko [1, 2, 7, 9, 10, 11, 12, 20] 5 (by simp; rfl) ?_
        refine tops_split 20 (decide (x3.Time ≤ a2)) (by simp) (fun c11 => ?_) (fun c11 => ?_)
        · rw [c11] at hvv4
          refine ko [1, 2, 7, 9, 10, 11, 12, 21, 22, 23, 24, 25] 5 (by simp; rfl) ?_
          refine tops_nil ?_
          cases hvv4
          exact ⟨_, rfl, wk (by simp [weak_iff])⟩
        · rw [c11] at hvv4
          refine kskip 4 [] (by kernel_rfl) ?_
          refine ko [1, 2, 7, 9, 10, 11, 12, 25] 1 (by simp; rfl) ?_
          refine tops_nil ?_
          cases hvv4
          exact ⟨_, rfl, wk (by simp [weak_iff])⟩
    · rw [if_neg (by rw [c7]; decide)] at h1
      refine tr_exit ?_
      exact ⟨_, he1 _ (Option.some.inj h1), wk (by simp [weak_iff])⟩
set_option maxHeartbeats 1000000 in
theorem ref26_Way_ok {a0 : api_Directory} {a1 : List api_Steward} {a2 : Int} {a3 : Int} {r : (List Int)} (h0 : ref26_Way a0 a1 a2 a3 = some r) : FnOK Tryd.prog 14 [] [.agg (api_Directory_av a0), .d (.slice (rowsF api_Steward_row a1)), .d (.int .i64 a2), .d (.int .i64 a3)] (.d (.slice (rowsF (iRow .i64) r))) [] := by
  unfold ref26_Way at h0
  refine fn_ok (nt := 37) (rs := [.tmp 8]) Tryd.func14 rfl Tryd.ntmps14 rfl (by simp) (by decide) rfl fun K => ?_
  refine kr [1, 2, 3, 4] (by simp; rfl) ?_
  refine tr_seq ?_
  replace h0 := bnd h0; obtain ⟨v1, hvv1, h0⟩ := h0
  refine sjv (fun v1_ : Bool => ({ nt := 37, env := [(1, .d (.slice (rowsF api_Steward_row a1))), (2, .d (.int .i64 a2)), (3, .d (.int .i64 a3)), (19, .d (.bool v1_))], box := [], vec := [] } : St)) (fun v1_ => v1 = v1_) (fun v1_ e => ?_) ?_
  · subst e
    refine tr_cond (b := v1) (by simp) (fun c3 => ?_) (fun c3 => ?_)
    · rw [if_pos c3] at h0
      refine kr [8] (by simp; rfl) ?_
      cases h0
      exact tr_ret ⟨[], by simp, rfl, by simp⟩
    · rw [if_neg (by rw [c3]; decide)] at h0
      refine tr_skip ?_
      refine kr [1, 2, 3, 9] (by simp; rfl) ?_
      refine tr_wk (wk_own 9 31 3 1 (by simp) (by simp)) ?_
      replace h0 := bnd h0; obtain ⟨e1, hI1, h0⟩ := h0
      refine sjv (fun v2 : (List Int) => ({ nt := 37, env := [(9, .vec 31)], box := [], vec := [(31, ⟨3, 1, rowsF (iRow .i64) v2⟩)] } : St)) (fun v2 => v2 = e1) (fun v2 hI1e => ?_) ?_
      · subst hI1e
        refine kr [8] (by simp; rfl) ?_
        cases h0
        exact tr_ret ⟨[31], by simp, rfl, by simp⟩
      · refine tr_block (tr_iter (fun s3 : Int × (List Int) => ({ nt := 37, env := [(1, .d (.slice (rowsF api_Steward_row a1))), (2, .d (.int .i64 s3.1)), (3, .d (.int .i64 a3)), (9, .vec 31)], box := [], vec := [(31, ⟨3, 1, rowsF (iRow .i64) s3.2⟩)] } : St)) hI1 (wk (by simp [weak_iff])) fun G1 s3 o1 h1 hg1 he1 => ?_)
        unfold ref26_Way_l0 at h1
        refine tr_seq ?_
        replace h1 := bnd h1; obtain ⟨v4, hvv4, h1⟩ := h1
        refine sjv (fun v4_ : Bool => ({ nt := 37, env := [(1, .d (.slice (rowsF api_Steward_row a1))), (2, .d (.int .i64 s3.1)), (3, .d (.int .i64 a3)), (9, .vec 31), (27, .d (.bool v4_))], box := [], vec := [(31, ⟨3, 1, rowsF (iRow .i64) s3.2⟩)] } : St)) (fun v4_ => v4 = v4_) (fun v4_ e => ?_) ?_
        · subst e
          refine tr_cond (b := v4) (by simp) (fun c12 => ?_) (fun c12 => ?_)
          · rw [if_pos c12] at h1
            refine tr_skip ?_
            refine tr_block ?_
            replace h1 := bnd h1; obtain ⟨_, p3, h1⟩ := h1
            replace p3 := ck_some p3
            have p3' := p3; try simp at p3'
            refine kr [1, 2, 3, 9] (by simp [p3, p3']; rfl) ?_
            refine kc1 ?_
            refine ko [1, 3, 9, 32, 33, 34] 3 (by simp; rfl) ?_
            replace h1 := bnd h1; obtain ⟨y5, hy5, h1⟩ := h1
            refine kcall [1, 3, 9, 35] [] (ref26_of_ok hy5) rfl rfl rfl Tryd.call36 (by simp) (by simp; rfl) ?_
            refine ko [1, 2, 3, 9] 1 (by simp; rfl) ?_
            refine tops_nil ?_
            exact ⟨_, hg1 _ (Option.some.inj h1), wk (by simp [weak_iff])⟩
          · rw [if_neg (by rw [c12]; decide)] at h1
            refine tr_exit ?_
            exact ⟨_, he1 _ (Option.some.inj h1), wk (by simp [weak_iff])⟩
        · refine kc1 ?_
          refine ko [1, 2, 3, 9, 22] 3 (by simp; rfl) ?_
          refine tops_split 22 (s3.1 != (-1)) (by simp) (fun c13 => ?_) (fun c13 => ?_)
          · rw [if_pos c13] at hvv4
            refine ko [1, 2, 3, 9, 22, 23, 24] 2 (by simp; rfl) ?_
            replace hvv4 := bnd hvv4; obtain ⟨y6, hy6, hvv4⟩ := hvv4
            refine kcallv [1, 2, 3, 9, 22, 23, 24, 25] (ref23_Has_ok hy6) rfl rfl rfl Tryd.call13 (by simp) (by simp; rfl) ?_
            refine ko [1, 2, 3, 9, 23, 24, 25, 26, 27] 2 (by simp; rfl) ?_
            refine tops_nil ?_
            cases hvv4
            exact ⟨_, rfl, wk (by simp [weak_iff])⟩
          · rw [if_neg (by rw [c13]; decide)] at hvv4
            refine kskip 4 [] (by kernel_rfl) ?_
            refine ko [1, 2, 3, 9, 27] 1 (by simp; rfl) ?_
            refine tops_nil ?_
            cases hvv4
            exact ⟨_, rfl, wk (by simp [weak_iff])⟩
  · refine kc1 ?_
    refine ko [1, 2, 3, 4, 10, 11] 2 (by simp; rfl) ?_
    replace hvv1 := bnd hvv1; obtain ⟨y7, hy7, hvv1⟩ := hvv1
    refine kcall [1, 2, 3, 4, 12] [] (ref26_Check_ok hy7) rfl rfl rfl Tryd.call34 (by simp) (by simp; rfl) ?_
    refine ko [1, 2, 3, 4, 14] 2 (by simp; rfl) ?_
    refine tops_split 14 (y7 != 0) (by simp) (fun c14 => ?_) (fun c14 => ?_)
    · rw [if_pos c14] at hvv1
      refine kskip 4 [] (by kernel_rfl) ?_
      refine ko [1, 2, 3, 19] 1 (by simp; rfl) ?_
      refine tops_nil ?_
      cases hvv1
      exact ⟨_, rfl, wk (by simp [weak_iff])⟩
    · rw [if_neg (by rw [c14]; decide)] at hvv1
      refine ko [1, 2, 3, 14, 15, 16] 2 (by simp; rfl) ?_
      replace hvv1 := bnd hvv1; obtain ⟨y8, hy8, hvv1⟩ := hvv1
      refine kcall [1, 2, 3, 14, 17] [] (ref23_Exists_ok hy8) rfl rfl rfl Tryd.call35 (by simp) (by simp; rfl) ?_
      refine ko [1, 2, 3, 19] 2 (by simp; rfl) ?_
      refine tops_nil ?_
      cases hvv1
      exact ⟨_, rfl, wk (by simp [weak_iff])⟩
set_option maxHeartbeats 1000000 in
theorem ref40_in_ok {a0 : Int} {a1 : Int} {a2 : Int} {r : Bool} (h0 : ref40_in a0 a1 a2 = some r) : FnOK Tryd.prog 38 [] [.d (.int .i64 a0), .d (.int .i64 a1), .d (.int .i64 a2)] (.d (.bool r)) [] := by
  unfold ref40_in at h0
  refine fn_ok (nt := 15) (rs := [.tmp 6]) Tryd.func38 rfl Tryd.ntmps38 rfl (by simp) (by decide) rfl fun K => ?_
  refine kr [0, 1, 2] (by simp; rfl) ?_
  replace h0 := bnd h0; obtain ⟨v1, hvv1, h0⟩ := h0
  refine sjv (fun v1_ : Bool => ({ nt := 15, env := [(6, .d (.bool v1_))], box := [], vec := [] } : St)) (fun v1_ => v1 = v1_) (fun v1_ e => ?_) ?_
  · subst e
    cases h0
    exact tr_ret ⟨[], by simp, rfl, by simp⟩
  · refine kc1 ?_
    refine ko [0, 2, 10] 4 (by simp; rfl) ?_
    refine tops_split 10 (decide (a1 ≤ a0)) (by simp) (fun c3 => ?_) (fun c3 => ?_)
    · rw [c3] at hvv1
      refine ko [6] 5 (by simp; rfl) ?_
      refine tops_nil ?_
      cases hvv1
      exact ⟨_, rfl, wk (by simp [weak_iff])⟩
    · rw [c3] at hvv1
      refine kskip 3 [] (by kernel_rfl) ?_
      refine ko [6] 2 (by simp; rfl) ?_
      refine tops_nil ?_
      cases hvv1
      exact ⟨_, rfl, wk (by simp [weak_iff])⟩
set_option maxHeartbeats 1000000 in
theorem ref40_Valid_ok {a0 : api_Calendar} {r : Bool} (h0 : ref40_Valid a0 = some r) : FnOK Tryd.prog 37 [] [.agg (api_Calendar_av a0)] (.d (.bool r)) [] := by
  unfold ref40_Valid at h0
  refine fn_ok (nt := 65) (rs := [.tmp 2]) Tryd.func37 rfl Tryd.ntmps37 rfl (by simp) (by decide) rfl fun K => ?_
  refine kr [1] (by simp; rfl) ?_
  refine tr_seq ?_
  replace h0 := bnd h0; obtain ⟨v1, hvv1, h0⟩ := h0
  refine sjv (fun v1_ : Bool => ({ nt := 65, env := [(1, .ptr 1 0), (39, .d (.bool v1_))], box := [(1, [.d (.int .i64 a0.Day), .d (.int .i64 a0.From), .d (.int .i64 a0.To), .d (.int .i64 a0.Week), .d (.slice (rowsF (iRow .i64) a0.Holidays))])], vec := [] } : St)) (fun v1_ => v1 = v1_) (fun v1_ e => ?_) ?_
  · subst e
    refine tr_cond (b := v1) (by simp) (fun c11 => ?_) (fun c11 => ?_)
    · rw [if_pos c11] at h0
      refine kr [2] (by simp; rfl) ?_
      cases h0
      exact tr_ret ⟨[], by simp, rfl, by simp⟩
    · rw [if_neg (by rw [c11]; decide)] at h0
      refine tr_skip ?_
      refine tr_seq ?_
      refine kr [1, 41, 42, 43] (by simp; rfl) ?_
      replace h0 := bnd h0; obtain ⟨e1, hI1, h0⟩ := h0
      refine tjv (fun v2 : Unit => ({ nt := 65, env := [], box := [], vec := [] } : St)) (fun v2 => .inl v2 = e1) (fun v2 hI1e _ W1 => ?_) ?_
      · subst hI1e
        dsimp only at h0
        refine tr_wk W1 ?_
        refine kr [2] (by simp; rfl) ?_
        cases h0
        exact tr_ret ⟨[], by simp, rfl, by simp⟩
      · refine tr_block (tr_iter (fun s3 : Int => ({ nt := 65, env := [(1, .ptr 1 0), (41, .d (.slice (rowsF (iRow .i64) a0.Holidays))), (42, .d (.int .i64 ((a0.Holidays).length : Int))), (43, .d (.int .i64 s3))], box := [(1, [.d (.int .i64 a0.Day), .d (.int .i64 a0.From), .d (.int .i64 a0.To), .d (.int .i64 a0.Week), .d (.slice (rowsF (iRow .i64) a0.Holidays))])], vec := [] } : St)) hI1 (wk (by simp [weak_iff])) fun G1 s3 o1 h1 hg1 he1 => ?_)
        unfold ref40_Valid_l0 at h1
        refine kr [1, 41, 42, 43, 44] (by simp; rfl) ?_
        refine tr_seq ?_
        refine tr_cond (b := (decide (s3 < ((a0.Holidays).length : Int)))) (by simp) (fun c20 => ?_) (fun c20 => ?_)
        · rw [if_pos c20] at h1
          refine tr_skip ?_
          refine tr_seq ?_
          refine tr_block ?_
          replace h1 := bnd h1; obtain ⟨x4, p5, h1⟩ := h1
          replace p5 := idx_some p5
          have p5' := p5; try simp at p5'
          refine kr [1, 3, 4, 41, 42, 43] (by simp [p5, p5']; rfl) ?_
          replace h1 := bnd h1; obtain ⟨v5, hvv5, h1⟩ := h1
          refine sjv (fun v5_ : Bool => ({ nt := 65, env := [(1, .ptr 1 0), (41, .d (.slice (rowsF (iRow .i64) a0.Holidays))), (42, .d (.int .i64 ((a0.Holidays).length : Int))), (43, .d (.int .i64 s3)), (63, .d (.bool v5_))], box := [(1, [.d (.int .i64 a0.Day), .d (.int .i64 a0.From), .d (.int .i64 a0.To), .d (.int .i64 a0.Week), .d (.slice (rowsF (iRow .i64) a0.Holidays))])], vec := [] } : St)) (fun v5_ => v5 = v5_) (fun v5_ e => ?_) ?_
          · subst e
            refine tr_cond (b := v5) (by simp) (fun c25 => ?_) (fun c25 => ?_)
            · rw [if_pos c25] at h1
              refine kr [2] (by simp; rfl) ?_
              have k1 := he1 _ (Option.some.inj h1)
              subst k1
              dsimp only at h0
              cases h0
              exact tr_ret ⟨[], by simp, rfl, by simp⟩
            · rw [if_neg (by rw [c25]; decide)] at h1
              refine tr_skip ?_
              refine lr (by simp; rfl) ?_
              exact ⟨_, hg1 _ (Option.some.inj h1), wk (by simp [weak_iff])⟩
          · refine kc1 ?_
            refine ko [1, 3, 4, 41, 42, 43, 50] 3 (by simp; rfl) ?_
            refine tops_split 50 (decide (x4 < 0)) (by simp) (fun c26 => ?_) (fun c26 => ?_)
            · rw [if_pos c26] at hvv5
              refine kskip 12 [] (by kernel_rfl) ?_
              refine ko [1, 41, 42, 43, 63] 1 (by simp; rfl) ?_
              refine tops_nil ?_
              cases hvv5
              exact ⟨_, rfl, wk (by simp [weak_iff])⟩
            · rw [if_neg (by rw [c26]; decide)] at hvv5
              refine ko [1, 3, 4, 41, 42, 43, 50, 51, 52, 53] 3 (by simp; rfl) ?_
              refine tops_split 53 (decide (0 < s3)) (by simp) (fun c27 => ?_) (fun c27 => ?_)
              · rw [if_pos c27] at hvv5
                replace hvv5 := bnd hvv5; obtain ⟨x6, p8, hvv5⟩ := hvv5
                replace p8 := idx_some p8
                have p8' := p8; try simp at p8'
                refine ko [1, 41, 42, 43, 51, 52, 53, 54, 55, 56, 57, 58, 59, 60, 61, 62, 63] 10 (by simp [p8, p8']; rfl) ?_
                refine tops_nil ?_
                cases hvv5
                exact ⟨_, rfl, wk (by simp [weak_iff])⟩
              · rw [if_neg (by rw [c27]; decide)] at hvv5
                refine kskip 8 [] (by kernel_rfl) ?_
                refine ko [1, 41, 42, 43, 51, 52, 53, 62, 63] 2 (by simp; rfl) ?_
                refine tops_nil ?_
                cases hvv5
                exact ⟨_, rfl, wk (by simp [weak_iff])⟩
        · rw [if_neg (by rw [c20]; decide)] at h1
          refine tr_exit ?_
          exact ⟨_, he1 _ (Option.some.inj h1), wk (by simp [weak_iff])⟩
  · refine kc1 ?_
    refine ko [1, 6] 2 (by simp; rfl) ?_
    replace hvv1 := bnd hvv1; obtain ⟨y9, hy9, hvv1⟩ := hvv1
    refine kcall [1, 7] [] (ref40_in_ok hy9) rfl rfl rfl Tryd.call38 (by simp) (by simp; rfl) ?_
    refine ko [1, 9] 2 (by simp; rfl) ?_
    refine tops_split 9 (!y9) (by simp) (fun c28 => ?_) (fun c28 => ?_)
    · rw [if_pos c28] at hvv1
      refine kskip 3 [] (by kernel_rfl) ?_
      refine ko [1, 14] 2 (by simp; rfl) ?_
      refine kskip 5 [] (by kernel_rfl) ?_
      refine ko [1, 21] 2 (by simp; rfl) ?_
      refine kskip 5 [] (by kernel_rfl) ?_
      refine ko [1, 28] 2 (by simp; rfl) ?_
      refine kskip 4 [] (by kernel_rfl) ?_
      refine ko [1, 34] 2 (by simp; rfl) ?_
      refine kskip 4 [] (by kernel_rfl) ?_
      refine ko [1, 39] 1 (by simp; rfl) ?_
      refine tops_nil ?_
      cases hvv1
      exact ⟨_, rfl, wk (by simp [weak_iff])⟩
    · rw [if_neg (by rw [c28]; decide)] at hvv1
      refine ko [1, 14] 5 (by simp; rfl) ?_
      refine tops_split 14 (decide (a0.From < 0)) (by simp) (fun c29 => ?_) (fun c29 => ?_)
      · rw [if_pos c29] at hvv1
        refine kskip 5 [] (by kernel_rfl) ?_
        refine ko [1, 21] 2 (by simp; rfl) ?_
        refine kskip 5 [] (by kernel_rfl) ?_
        refine ko [1, 28] 2 (by simp; rfl) ?_
        refine kskip 4 [] (by kernel_rfl) ?_
        refine ko [1, 34] 2 (by simp; rfl) ?_
        refine kskip 4 [] (by kernel_rfl) ?_
        refine ko [1, 39] 1 (by simp; rfl) ?_
        refine tops_nil ?_
        cases hvv1
        exact ⟨_, rfl, wk (by simp [weak_iff])⟩
      · rw [if_neg (by rw [c29]; decide)] at hvv1
        refine ko [1, 21] 7 (by simp; rfl) ?_
        refine tops_split 21 (decide (a0.To ≤ a0.From)) (by simp) (fun c30 => ?_) (fun c30 => ?_)
        · rw [if_pos c30] at hvv1
          refine kskip 5 [] (by kernel_rfl) ?_
          refine ko [1, 28] 2 (by simp; rfl) ?_
          refine kskip 4 [] (by kernel_rfl) ?_
          refine ko [1, 34] 2 (by simp; rfl) ?_
          refine kskip 4 [] (by kernel_rfl) ?_
          refine ko [1, 39] 1 (by simp; rfl) ?_
          refine tops_nil ?_
          cases hvv1
          exact ⟨_, rfl, wk (by simp [weak_iff])⟩
        · rw [if_neg (by rw [c30]; decide)] at hvv1
          refine ko [1, 28] 7 (by simp; rfl) ?_
          refine tops_split 28 (decide (a0.Day < a0.To)) (by simp) (fun c31 => ?_) (fun c31 => ?_)
          · rw [if_pos c31] at hvv1
            refine kskip 4 [] (by kernel_rfl) ?_
            refine ko [1, 34] 2 (by simp; rfl) ?_
            refine kskip 4 [] (by kernel_rfl) ?_
            refine ko [1, 39] 1 (by simp; rfl) ?_
            refine tops_nil ?_
            cases hvv1
            exact ⟨_, rfl, wk (by simp [weak_iff])⟩
          · rw [if_neg (by rw [c31]; decide)] at hvv1
            refine ko [1, 28, 30] 2 (by simp; rfl) ?_
            replace hvv1 := bnd hvv1; obtain ⟨y10, hy10, hvv1⟩ := hvv1
            refine kcall [1, 28, 31] [] (ref40_in_ok hy10) rfl rfl rfl Tryd.call38 (by simp) (by simp; rfl) ?_
            refine ko [1, 34] 3 (by simp; rfl) ?_
            refine tops_split 34 (!y10) (by simp) (fun c32 => ?_) (fun c32 => ?_)
            · rw [if_pos c32] at hvv1
              refine kskip 4 [] (by kernel_rfl) ?_
              refine ko [1, 39] 1 (by simp; rfl) ?_
              refine tops_nil ?_
              cases hvv1
              exact ⟨_, rfl, wk (by simp [weak_iff])⟩
            · rw [if_neg (by rw [c32]; decide)] at hvv1
              refine ko [1, 39] 5 (by simp; rfl) ?_
              refine tops_nil ?_
              cases hvv1
              exact ⟨_, rfl, wk (by simp [weak_iff])⟩
set_option maxHeartbeats 1000000 in
theorem ref40_working_ok {a0 : api_Calendar} {a1 : Int} {r : Bool} (h0 : ref40_working a0 a1 = some r) : FnOK Tryd.prog 39 [] [.agg (api_Calendar_av a0), .d (.int .i64 a1)] (.d (.bool r)) [] := by
  unfold ref40_working at h0
  refine fn_ok (nt := 47) (rs := [.tmp 4]) Tryd.func39 rfl Tryd.ntmps39 rfl (by simp) (by decide) rfl fun K => ?_
  refine kr [1, 2] (by simp; rfl) ?_
  refine kd [[], [], [1], [0, 2], [], [], [5], [4, 6], [3], [7]] [] [] none [] 10 fol (by decide +kernel) (by simp) ?_
  replace h0 := bnd h0; obtain ⟨_, p5, h0⟩ := h0
  replace p5 := ck_some p5
  have p5' := p5; try simp at p5'
  replace h0 := bnd h0; obtain ⟨_, p6, h0⟩ := h0
  replace p6 := ck_some p6
  have p6' := p6; try simp at p6'
  refine dr_go 0 2 rfl (by simp (maxSteps := 1000000) [p5, p6, p5', p6']; rfl) ?_
  refine dr_go 2 2 rfl (by simp (maxSteps := 1000000) [p5, p6, p5', p6']; rfl) ?_
  refine dr_go 4 2 rfl (by simp (maxSteps := 1000000) [p5, p6, p5', p6']; rfl) ?_
  refine dr_go 6 2 rfl (by simp (maxSteps := 1000000) [p5, p6, p5', p6']; rfl) ?_
  refine dr_go 8 2 rfl (by simp (maxSteps := 1000000) [p5, p6, p5', p6']; rfl) ?_
  refine dr_end rfl (tops_nil ?_)
  refine tr_seq ?_
  replace h0 := bnd h0; obtain ⟨v1, hvv1, h0⟩ := h0
  refine sjv (fun v1_ : Bool => ({ nt := 47, env := [(2, .ptr 2 0), (5, .d (.int .i64 (IntKind.i64.wrap ((a1).tdiv a0.Day)))), (35, .d (.bool v1_))], box := [(2, [.d (.int .i64 a0.Day), .d (.int .i64 a0.From), .d (.int .i64 a0.To), .d (.int .i64 a0.Week), .d (.slice (rowsF (iRow .i64) a0.Holidays))])], vec := [] } : St)) (fun v1_ => v1 = v1_) (fun v1_ e => ?_) ?_
  · subst e
    refine tr_cond (b := v1) (by simp) (fun c5 => ?_) (fun c5 => ?_)
    · rw [if_pos c5] at h0
      refine kr [4] (by simp; rfl) ?_
      cases h0
      exact tr_ret ⟨[], by simp, rfl, by simp⟩
    · rw [if_neg (by rw [c5]; decide)] at h0
      refine tr_skip ?_
      refine tr_seq ?_
      refine kr [5, 37, 38, 39] (by simp; rfl) ?_
      replace h0 := bnd h0; obtain ⟨e1, hI1, h0⟩ := h0
      refine tjv (fun v2 : Unit => ({ nt := 47, env := [], box := [], vec := [] } : St)) (fun v2 => .inl v2 = e1) (fun v2 hI1e _ W1 => ?_) ?_
      · subst hI1e
        dsimp only at h0
        refine tr_wk W1 ?_
        refine kr [4] (by simp; rfl) ?_
        cases h0
        exact tr_ret ⟨[], by simp, rfl, by simp⟩
      · refine tr_block (tr_iter (fun s3 : Int => ({ nt := 47, env := [(5, .d (.int .i64 (IntKind.i64.wrap ((a1).tdiv a0.Day)))), (37, .d (.slice (rowsF (iRow .i64) a0.Holidays))), (38, .d (.int .i64 ((a0.Holidays).length : Int))), (39, .d (.int .i64 s3))], box := [], vec := [] } : St)) hI1 (wk (by simp [weak_iff])) fun G1 s3 o1 h1 hg1 he1 => ?_)
        unfold ref40_working_l0 at h1
        refine kr [5, 37, 38, 39, 40] (by simp; rfl) ?_
        refine tr_seq ?_
        refine tr_cond (b := (decide (s3 < ((a0.Holidays).length : Int)))) (by simp) (fun c10 => ?_) (fun c10 => ?_)
        · rw [if_pos c10] at h1
          refine tr_skip ?_
          refine tr_seq ?_
          refine tr_block ?_
          replace h1 := bnd h1; obtain ⟨x4, p11, h1⟩ := h1
          replace p11 := idx_some p11
          have p11' := p11; try simp at p11'
          refine kr [5, 8, 37, 38, 39] (by simp [p11, p11']; rfl) ?_
          refine kr [5, 37, 38, 39, 45] (by simp; rfl) ?_
          refine tr_cond (b := (x4 == (IntKind.i64.wrap ((a1).tdiv a0.Day)))) (by simp) (fun c11 => ?_) (fun c11 => ?_)
          · rw [if_pos c11] at h1
            refine kr [4] (by simp; rfl) ?_
            have k1 := he1 _ (Option.some.inj h1)
            subst k1
            dsimp only at h0
            cases h0
            exact tr_ret ⟨[], by simp, rfl, by simp⟩
          · rw [if_neg (by rw [c11]; decide)] at h1
            refine tr_skip ?_
            refine lr (by simp; rfl) ?_
            exact ⟨_, hg1 _ (Option.some.inj h1), wk (by simp [weak_iff])⟩
        · rw [if_neg (by rw [c10]; decide)] at h1
          refine tr_exit ?_
          exact ⟨_, he1 _ (Option.some.inj h1), wk (by simp [weak_iff])⟩
  · refine kc1 ?_
    refine ko [2, 5, 6, 21] 5 (by simp; rfl) ?_
    refine tops_split 21 (decide (((a1).tmod a0.Day) < a0.From)) (by simp) (fun c12 => ?_) (fun c12 => ?_)
    · rw [if_pos c12] at hvv1
      refine kskip 4 [] (by kernel_rfl) ?_
      refine ko [2, 5, 27] 2 (by simp; rfl) ?_
      refine kskip 7 [] (by kernel_rfl) ?_
      refine ko [2, 5, 35] 1 (by simp; rfl) ?_
      refine tops_nil ?_
      cases hvv1
      exact ⟨_, rfl, wk (by simp [weak_iff])⟩
    · rw [if_neg (by rw [c12]; decide)] at hvv1
      refine ko [2, 5, 27] 6 (by simp; rfl) ?_
      refine tops_split 27 (decide (a0.To ≤ ((a1).tmod a0.Day))) (by simp) (fun c13 => ?_) (fun c13 => ?_)
      · rw [if_pos c13] at hvv1
        refine kskip 7 [] (by kernel_rfl) ?_
        refine ko [2, 5, 35] 1 (by simp; rfl) ?_
        refine tops_nil ?_
        cases hvv1
        exact ⟨_, rfl, wk (by simp [weak_iff])⟩
      · rw [if_neg (by rw [c13]; decide)] at hvv1
        replace hvv1 := bnd hvv1; obtain ⟨_, p12, hvv1⟩ := hvv1
        replace p12 := ck_some p12
        have p12' := p12; try simp at p12'
        refine ko [2, 5, 35] 8 (by simp [p12, p12']; rfl) ?_
        refine tops_nil ?_
        cases hvv1
        exact ⟨_, rfl, wk (by simp [weak_iff])⟩
set_option maxHeartbeats 1000000 in
theorem ref40_Add_ok {a0 : api_Calendar} {a1 : Int} {a2 : Int} {r : Int × Int} (h0 : ref40_Add a0 a1 a2 = some r) : FnOK Tryd.prog 15 [] [.agg (api_Calendar_av a0), .d (.int .i64 a1), .d (.int .i64 a2)] (.tup [.d (.int .i64 r.1), .d (.int .i64 r.2)]) [] := by
  unfold ref40_Add at h0
  refine fn_ok (nt := 39) (rs := [.tmp 6, .tmp 7]) Tryd.func15 rfl Tryd.ntmps15 rfl (by simp) (by decide) rfl fun K => ?_
  refine kr [1, 2, 3] (by simp; rfl) ?_
  refine tr_seq ?_
  refine kc ?_
  refine ko [1, 2, 3, 9] 1 (by simp; rfl) ?_
  replace h0 := bnd h0; obtain ⟨y1, hy1, h0⟩ := h0
  refine kcall [1, 2, 3, 10] [] (ref40_Valid_ok hy1) rfl rfl rfl Tryd.call37 (by simp) (by simp; rfl) ?_
  refine ko [1, 2, 3, 11] 1 (by simp; rfl) ?_
  refine tops_nil ?_
  refine tr_cond (b := (!y1)) (by simp) (fun c1 => ?_) (fun c1 => ?_)
  · rw [if_pos c1] at h0
    refine kr [6, 7] (by simp; rfl) ?_
    cases h0
    exact tr_ret ⟨[], by simp, rfl, by simp⟩
  · rw [if_neg (by rw [c1]; decide)] at h0
    refine tr_skip ?_
    refine tr_seq ?_
    replace h0 := bnd h0; obtain ⟨v2, hvv2, h0⟩ := h0
    refine sjv (fun v2_ : Bool => ({ nt := 39, env := [(1, .d (.int .i64 a1)), (2, .d (.int .i64 a2)), (3, .ptr 3 0), (19, .d (.bool v2_))], box := [(3, [.d (.int .i64 a0.Day), .d (.int .i64 a0.From), .d (.int .i64 a0.To), .d (.int .i64 a0.Week), .d (.slice (rowsF (iRow .i64) a0.Holidays))])], vec := [] } : St)) (fun v2_ => v2 = v2_) (fun v2_ e => ?_) ?_
    · subst e
      refine tr_cond (b := v2) (by simp) (fun c4 => ?_) (fun c4 => ?_)
      · rw [if_pos c4] at h0
        refine kr [6, 7] (by simp; rfl) ?_
        cases h0
        exact tr_ret ⟨[], by simp, rfl, by simp⟩
      · rw [if_neg (by rw [c4]; decide)] at h0
        refine tr_skip ?_
        refine kr [1, 2, 3, 8] (by simp; rfl) ?_
        replace h0 := bnd h0; obtain ⟨e1, hI1, h0⟩ := h0
        refine sjv (fun v3 : Int => ({ nt := 39, env := [(8, .d (.int .i64 v3))], box := [], vec := [] } : St)) (fun v3 => .inl v3 = e1) (fun v3 hI1e => ?_) ?_
        · subst hI1e
          dsimp only at h0
          refine kr [6, 7] (by simp; rfl) ?_
          cases h0
          exact tr_ret ⟨[], by simp, rfl, by simp⟩
        · refine tr_block (tr_iter (fun s4 : Int × Int => ({ nt := 39, env := [(1, .d (.int .i64 a1)), (2, .d (.int .i64 s4.1)), (3, .ptr 3 0), (8, .d (.int .i64 s4.2))], box := [(3, [.d (.int .i64 a0.Day), .d (.int .i64 a0.From), .d (.int .i64 a0.To), .d (.int .i64 a0.Week), .d (.slice (rowsF (iRow .i64) a0.Holidays))])], vec := [] } : St)) hI1 (wk (by simp [weak_iff])) fun G1 s4 o1 h1 hg1 he1 => ?_)
          unfold ref40_Add_l0 at h1
          refine tr_seq ?_
          refine kr [1, 2, 3, 8, 22] (by simp; rfl) ?_
          refine tr_cond (b := (decide (0 < s4.1))) (by simp) (fun c13 => ?_) (fun c13 => ?_)
          · rw [if_pos c13] at h1
            refine tr_skip ?_
            refine tr_block ?_
            refine tr_seq ?_
            replace h1 := bnd h1; obtain ⟨v5, hvv5, h1⟩ := h1
            refine sjv (fun v5_ : Bool => ({ nt := 39, env := [(1, .d (.int .i64 a1)), (2, .d (.int .i64 s4.1)), (3, .ptr 3 0), (8, .d (.int .i64 s4.2)), (30, .d (.bool v5_))], box := [(3, [.d (.int .i64 a0.Day), .d (.int .i64 a0.From), .d (.int .i64 a0.To), .d (.int .i64 a0.Week), .d (.slice (rowsF (iRow .i64) a0.Holidays))])], vec := [] } : St)) (fun v5_ => v5 = v5_) (fun v5_ e => ?_) ?_
            · subst e
              refine tr_cond (b := v5) (by simp) (fun c16 => ?_) (fun c16 => ?_)
              · rw [if_pos c16] at h1
                refine kr [6, 7] (by simp; rfl) ?_
                have k1 := he1 _ (Option.some.inj h1)
                subst k1
                dsimp only at h0
                cases h0
                exact tr_ret ⟨[], by simp, rfl, by simp⟩
              · rw [if_neg (by rw [c16]; decide)] at h1
                refine tr_skip ?_
                refine tr_seq ?_
                refine kc ?_
                refine ko [1, 2, 3, 8, 31, 32] 2 (by simp; rfl) ?_
                replace h1 := bnd h1; obtain ⟨y6, hy6, h1⟩ := h1
                refine kcall [1, 2, 3, 8, 33] [] (ref40_working_ok hy6) rfl rfl rfl Tryd.call39 (by simp) (by simp; rfl) ?_
                refine tops_nil ?_
                refine tr_cond (b := y6) (by simp) (fun c17 => ?_) (fun c17 => ?_)
                · rw [if_pos c17] at h1
                  refine lr (by simp; rfl) ?_
                  refine lr (by simp; rfl) ?_
                  exact ⟨_, hg1 _ (Option.some.inj h1), wk (by simp [weak_iff])⟩
                · rw [if_neg (by rw [c17]; decide)] at h1
                  refine tr_skip ?_
                  refine lr (by simp; rfl) ?_
                  exact ⟨_, hg1 _ (Option.some.inj h1), wk (by simp [weak_iff])⟩
            · refine kc1 ?_
              refine ko [1, 2, 3, 8, 27] 5 (by simp; rfl) ?_
              refine tops_split 27 (decide ((IntKind.i64.wrap (a1 + 100000)) ≤ s4.2)) (by simp) (fun c18 => ?_) (fun c18 => ?_)
              · rw [c18] at hvv5
                refine ko [1, 2, 3, 8, 28, 29, 30] 3 (by simp; rfl) ?_
                refine tops_nil ?_
                cases hvv5
                exact ⟨_, rfl, wk (by simp [weak_iff])⟩
              · rw [c18] at hvv5
                refine ko [1, 2, 3, 8, 28, 29, 30] 3 (by simp; rfl) ?_
                refine tops_nil ?_
                cases hvv5
                exact ⟨_, rfl, wk (by simp [weak_iff])⟩
          · rw [if_neg (by rw [c13]; decide)] at h1
            refine tr_exit ?_
            exact ⟨_, he1 _ (Option.some.inj h1), wk (by simp [weak_iff])⟩
    · refine kc1 ?_
      refine ko [1, 2, 3, 12] 1 (by simp; rfl) ?_
      replace hvv2 := bnd hvv2; obtain ⟨y9, hy9, hvv2⟩ := hvv2
      refine kcall [1, 2, 3, 13] [] (ref40_in_ok hy9) rfl rfl rfl Tryd.call38 (by simp) (by simp; rfl) ?_
      refine ko [1, 2, 3, 15] 2 (by simp; rfl) ?_
      refine tops_split 15 (!y9) (by simp) (fun c19 => ?_) (fun c19 => ?_)
      · rw [if_pos c19] at hvv2
        refine kskip 3 [] (by kernel_rfl) ?_
        refine ko [1, 2, 3, 19] 1 (by simp; rfl) ?_
        refine tops_nil ?_
        cases hvv2
        exact ⟨_, rfl, wk (by simp [weak_iff])⟩
      · rw [if_neg (by rw [c19]; decide)] at hvv2
        refine ko [1, 2, 3, 15, 16] 1 (by simp; rfl) ?_
        replace hvv2 := bnd hvv2; obtain ⟨y10, hy10, hvv2⟩ := hvv2
        refine kcall [1, 2, 3, 15, 17] [] (ref40_in_ok hy10) rfl rfl rfl Tryd.call38 (by simp) (by simp; rfl) ?_
        refine ko [1, 2, 3, 19] 2 (by simp; rfl) ?_
        refine tops_nil ?_
        cases hvv2
        exact ⟨_, rfl, wk (by simp [weak_iff])⟩
set_option maxHeartbeats 1000000 in
theorem law41_NoticeSteps_ok {a0 : List Int} {r : Bool} (h0 : law41_NoticeSteps a0 = some r) : FnOK Tryd.prog 3 [] [.d (.slice (rowsF (iRow .i64) a0))] (.d (.bool r)) [] := by
  unfold law41_NoticeSteps at h0
  refine fn_ok (nt := 148) (rs := [.tmp 2]) Tryd.func3 rfl Tryd.ntmps3 rfl (by simp) (by decide) rfl fun K => ?_
  refine kr [0] (by simp; rfl) ?_
  refine tr_seq ?_
  refine kr [0, 21] (by simp; rfl) ?_
  refine tr_cond (b := (decide (400 < ((a0).length : Int)))) (by simp) (fun c1 => ?_) (fun c1 => ?_)
  · rw [if_pos c1] at h0
    refine kc ?_
    replace h0 := bnd h0; obtain ⟨y1, hy1, h0⟩ := h0
    refine kcall [22] [] (law41_awake_ok hy1) rfl rfl rfl Tryd.call7 (by simp) (by simp; rfl) ?_
    refine ko [2] 1 (by simp; rfl) ?_
    refine tops_nil ?_
    cases h0
    exact tr_ret ⟨[], by simp, rfl, by simp⟩
  · rw [if_neg (by rw [c1]; decide)] at h0
    refine tr_skip ?_
    refine kr [3] (by simp; rfl) ?_
    refine kc ?_
    refine ko [3, 26] 1 (by simp; rfl) ?_
    replace h0 := bnd h0; obtain ⟨y2, hy2, h0⟩ := h0
    refine kcall [3, 27] [25] (make_Calendar_ok hy2) rfl rfl rfl Tryd.call8 (by simp) (by simp; rfl) ?_
    refine ko [3, 4] 2 (by simp; rfl) ?_
    refine tops_nil ?_
    refine kc ?_
    refine ko [3, 4, 28] 1 (by simp; rfl) ?_
    replace h0 := bnd h0; obtain ⟨y3, hy3, h0⟩ := h0
    refine kcall [3, 4, 29] [25] (make_Directory_ok hy3) rfl rfl rfl Tryd.call9 (by simp) (by simp; rfl) ?_
    refine ko [3, 4, 5] 2 (by simp; rfl) ?_
    refine tops_nil ?_
    refine kd [[], [], [0, 1], [], [], [2, 3, 4], [2], [5]] [2, 5] [(25, [2, 5])] none [] 8 fol (by decide +kernel) (by simp) ?_
    refine dr_go 0 2 rfl (by simp (maxSteps := 1000000); rfl) ?_
    replace h0 := bnd h0; obtain ⟨y4, hy4, h0⟩ := h0
    refine dr_call 2 [25] (make_Stewards_ok hy4) rfl rfl rfl rfl rfl Tryd.call10 (by simp) ?_
    refine dr_go 3 2 rfl (by simp (maxSteps := 1000000); rfl) ?_
    replace h0 := bnd h0; obtain ⟨y5, hy5, h0⟩ := h0
    refine dr_call 5 [25] (make_Cases_ok hy5) rfl rfl rfl rfl rfl Tryd.call11 (by simp) ?_
    refine dr_go 6 2 rfl (by simp (maxSteps := 1000000); rfl) ?_
    refine dr_end rfl (tops_nil ?_)
    refine kc ?_
    refine ko [4, 5, 6, 7, 37, 38, 39, 40] 4 (by simp; rfl) ?_
    replace h0 := bnd h0; obtain ⟨y6, hy6, h0⟩ := h0
    refine kcall [4, 5, 6, 7, 41] [] (notice_All_ok hy6) rfl rfl rfl Tryd.call12 (by simp) (by simp; rfl) ?_
    refine ko [4, 5, 6, 7, 8, 9] 5 (by simp; rfl) ?_
    refine tops_nil ?_
    refine tr_seq ?_
    refine kr [4, 5, 6, 7, 8, 45] (by simp; rfl) ?_
    refine tr_cond (b := (y6.2 != 0)) (by simp) (fun c2 => ?_) (fun c2 => ?_)
    · rw [if_pos c2] at h0
      refine kr [2] (by simp; rfl) ?_
      cases h0
      exact tr_ret ⟨[], by simp, rfl, by simp⟩
    · rw [if_neg (by rw [c2]; decide)] at h0
      refine tr_skip ?_
      refine tr_seq ?_
      refine kr [4, 5, 6, 8, 46, 47, 48] (by simp; rfl) ?_
      replace h0 := bnd h0; obtain ⟨e1, hI1, h0⟩ := h0
      refine tjv (fun v7 : Unit => ({ nt := 148, env := [(8, .d (.slice (rowsF api_Notice_row y6.1)))], box := [], vec := [] } : St)) (fun v7 => .inl v7 = e1) (fun v7 hI1e _ W1 => ?_) ?_
      · subst hI1e
        dsimp only at h0
        refine tr_wk W1 ?_
        refine tr_seq ?_
        refine kr [8, 18] (by simp; rfl) ?_
        replace h0 := bnd h0; obtain ⟨e2, hI2, h0⟩ := h0
        refine tjv (fun v8 : Unit => ({ nt := 148, env := [], box := [], vec := [] } : St)) (fun v8 => .inl v8 = e2) (fun v8 hI2e _ W2 => ?_) ?_
        · subst hI2e
          dsimp only at h0
          refine tr_wk W2 ?_
          refine kc ?_
          replace h0 := bnd h0; obtain ⟨y9, hy9, h0⟩ := h0
          refine kcall [147] [] (law41_awake_ok hy9) rfl rfl rfl Tryd.call7 (by simp) (by simp; rfl) ?_
          refine ko [2] 1 (by simp; rfl) ?_
          refine tops_nil ?_
          cases h0
          exact tr_ret ⟨[], by simp, rfl, by simp⟩
        · refine tr_block (tr_iter (fun s10 : Int => ({ nt := 148, env := [(8, .d (.slice (rowsF api_Notice_row y6.1))), (18, .d (.int .i64 s10))], box := [], vec := [] } : St)) hI2 (wk (by simp [weak_iff])) fun G2 s10 o2 h2 hg2 he2 => ?_)
          unfold law41_NoticeSteps_l1 at h2
          refine tr_seq ?_
          refine kr [8, 18, 132] (by simp; rfl) ?_
          refine tr_cond (b := (decide (s10 < ((y6.1).length : Int)))) (by simp) (fun c93 => ?_) (fun c93 => ?_)
          · rw [if_pos c93] at h2
            refine tr_skip ?_
            refine tr_seq ?_
            refine tr_block ?_
            refine kd [[], [], [0, 1], [2], [3], [], [], [6], [5, 7], [8], [9], [4, 10]] [] [] none [] 12 fol (by decide +kernel) (by simp) ?_
            replace h2 := bnd h2; obtain ⟨x11, p23, h2⟩ := h2
            replace p23 := idx_some p23
            have p23' := p23; try simp at p23'
            replace h2 := bnd h2; obtain ⟨x12, p24, h2⟩ := h2
            replace p24 := idx_some p24
            have p24' := p24; try simp at p24'
            refine dr_go 0 2 rfl (by simp (maxSteps := 1000000) [p23, p24, p23', p24']; rfl) ?_
            refine dr_go 2 2 rfl (by simp (maxSteps := 1000000) [p23, p24, p23', p24']; rfl) ?_
            refine dr_go 4 2 rfl (by simp (maxSteps := 1000000) [p23, p24, p23', p24']; rfl) ?_
            refine dr_go 6 2 rfl (by simp (maxSteps := 1000000) [p23, p24, p23', p24']; rfl) ?_
            refine dr_go 8 2 rfl (by simp (maxSteps := 1000000) [p23, p24, p23', p24']; rfl) ?_
            refine dr_go 10 2 rfl (by simp (maxSteps := 1000000) [p23, p24, p23', p24']; rfl) ?_
            refine dr_end rfl (tops_nil ?_)
            refine tr_cond (b := (decide (x11.Time < x12.Time))) (by simp) (fun c94 => ?_) (fun c94 => ?_)
            · rw [if_pos c94] at h2
              refine kr [2] (by simp; rfl) ?_
              have k1 := he2 _ (Option.some.inj h2)
              subst k1
              dsimp only at h0
              cases h0
              exact tr_ret ⟨[], by simp, rfl, by simp⟩
            · rw [if_neg (by rw [c94]; decide)] at h2
              refine tr_skip ?_
              refine lr (by simp; rfl) ?_
              exact ⟨_, hg2 _ (Option.some.inj h2), wk (by simp [weak_iff])⟩
          · rw [if_neg (by rw [c93]; decide)] at h2
            refine tr_exit ?_
            exact ⟨_, he2 _ (Option.some.inj h2), wk (by simp [weak_iff])⟩
      · refine tr_block (tr_iter (fun s15 : Int => ({ nt := 148, env := [(4, .ptr 4 0), (5, .ptr 5 0), (6, .d (.slice (rowsF api_Steward_row y4.1))), (8, .d (.slice (rowsF api_Notice_row y6.1))), (46, .d (.slice (rowsF api_Case_row y5.1))), (47, .d (.int .i64 ((y5.1).length : Int))), (48, .d (.int .i64 s15))], box := [(4, [.d (.int .i64 y2.1.Day), .d (.int .i64 y2.1.From), .d (.int .i64 y2.1.To), .d (.int .i64 y2.1.Week), .d (.slice (rowsF (iRow .i64) y2.1.Holidays))]), (5, [.d (.slice (rowsF (iRow .i64) y3.1.Kinds)), .d (.slice (rowsF api_Member_row y3.1.Events))])], vec := [] } : St)) hI1 (wk (by simp [weak_iff])) fun G2 s15 o2 h2 hg2 he2 => ?_)
        unfold law41_NoticeSteps_l0 at h2
        refine kr [4, 5, 6, 8, 46, 47, 48, 49] (by simp; rfl) ?_
        refine tr_seq ?_
        refine tr_cond (b := (decide (s15 < ((y5.1).length : Int)))) (by simp) (fun c95 => ?_) (fun c95 => ?_)
        · rw [if_pos c95] at h2
          refine tr_skip ?_
          refine tr_seq ?_
          refine tr_block ?_
          replace h2 := bnd h2; obtain ⟨x16, p25, h2⟩ := h2
          replace p25 := idx_some p25
          have p25' := p25; try simp at p25'
          refine kr [4, 5, 6, 8, 11, 46, 47, 48] (by simp [p25, p25']; rfl) ?_
          refine tr_seq ?_
          refine kr [4, 5, 6, 8, 11, 46, 47, 48, 54] (by simp; rfl) ?_
          refine tr_cond (b := (x16.Kind != 1)) (by simp) (fun c96 => ?_) (fun c96 => ?_)
          · rw [if_pos c96] at h2
            refine tr_exit ?_
            refine lr (by simp; rfl) ?_
            exact ⟨_, hg2 _ (Option.some.inj h2), wk (by simp [weak_iff])⟩
          · rw [if_neg (by rw [c96]; decide)] at h2
            refine tr_skip ?_
            refine kr [4, 5, 6, 8, 11, 12, 13, 46, 47, 48] (by simp; rfl) ?_
            refine tr_seq ?_
            refine kr [4, 5, 6, 8, 11, 12, 13, 46, 47, 48, 57, 58, 59] (by simp; rfl) ?_
            replace h2 := bnd h2; obtain ⟨e3, hI3, h2⟩ := h2
            refine tjv (fun v17 : Int => ({ nt := 148, env := [(4, .ptr 4 0), (5, .ptr 5 0), (6, .d (.slice (rowsF api_Steward_row y4.1))), (8, .d (.slice (rowsF api_Notice_row y6.1))), (13, .d (.int .i64 v17)), (46, .d (.slice (rowsF api_Case_row y5.1))), (47, .d (.int .i64 ((y5.1).length : Int))), (48, .d (.int .i64 s15))], box := [(4, [.d (.int .i64 y2.1.Day), .d (.int .i64 y2.1.From), .d (.int .i64 y2.1.To), .d (.int .i64 y2.1.Week), .d (.slice (rowsF (iRow .i64) y2.1.Holidays))]), (5, [.d (.slice (rowsF (iRow .i64) y3.1.Kinds)), .d (.slice (rowsF api_Member_row y3.1.Events))])], vec := [] } : St)) (fun v17 => .inl v17 = e3) (fun v17 hI3e _ W3 => ?_) ?_
            · subst hI3e
              dsimp only at h2
              refine tr_wk W3 ?_
              refine kr [4, 5, 6, 8, 46, 47, 48, 127] (by simp; rfl) ?_
              refine tr_cond (b := (v17 == 0)) (by simp) (fun c137 => ?_) (fun c137 => ?_)
              · rw [if_pos c137] at h2
                refine kr [2] (by simp; rfl) ?_
                have k1 := he2 _ (Option.some.inj h2)
                subst k1
                dsimp only at h0
                cases h0
                exact tr_ret ⟨[], by simp, rfl, by simp⟩
              · rw [if_neg (by rw [c137]; decide)] at h2
                refine tr_skip ?_
                refine lr (by simp; rfl) ?_
                exact ⟨_, hg2 _ (Option.some.inj h2), wk (by simp [weak_iff])⟩
            · refine tr_block (tr_iter (fun s18 : Int × Int × Int => ({ nt := 148, env := [(4, .ptr 4 0), (5, .ptr 5 0), (6, .d (.slice (rowsF api_Steward_row y4.1))), (8, .d (.slice (rowsF api_Notice_row y6.1))), (11, .ptr 11 0), (12, .d (.int .i64 s18.1)), (13, .d (.int .i64 s18.2.1)), (46, .d (.slice (rowsF api_Case_row y5.1))), (47, .d (.int .i64 ((y5.1).length : Int))), (48, .d (.int .i64 s15)), (57, .d (.slice (rowsF api_Notice_row y6.1))), (58, .d (.int .i64 ((y6.1).length : Int))), (59, .d (.int .i64 s18.2.2))], box := [(4, [.d (.int .i64 y2.1.Day), .d (.int .i64 y2.1.From), .d (.int .i64 y2.1.To), .d (.int .i64 y2.1.Week), .d (.slice (rowsF (iRow .i64) y2.1.Holidays))]), (5, [.d (.slice (rowsF (iRow .i64) y3.1.Kinds)), .d (.slice (rowsF api_Member_row y3.1.Events))]), (11, [.d (.int .i64 x16.Time), .d (.int .i64 x16.Kind), .d (.int .i64 x16.Case), .d (.int .i64 x16.Level), .d (.int .i64 x16.Owner)])], vec := [] } : St)) hI3 (wk (by simp [weak_iff])) fun G3 s18 o3 h3 hg3 he3 => ?_)
              unfold law41_NoticeSteps_l2 at h3
              refine kr [4, 5, 6, 8, 11, 12, 13, 46, 47, 48, 57, 58, 59, 60] (by simp; rfl) ?_
              refine tr_seq ?_
              refine tr_cond (b := (decide (s18.2.2 < ((y6.1).length : Int)))) (by simp) (fun c138 => ?_) (fun c138 => ?_)
              · rw [if_pos c138] at h3
                refine tr_skip ?_
                refine tr_seq ?_
                refine tr_block ?_
                replace h3 := bnd h3; obtain ⟨x19, p28, h3⟩ := h3
                replace p28 := idx_some p28
                have p28' := p28; try simp at p28'
                refine kr [4, 5, 6, 8, 11, 12, 13, 15, 46, 47, 48, 57, 58, 59] (by simp [p28, p28']; rfl) ?_
                refine tr_seq ?_
                refine kr [4, 5, 6, 8, 11, 12, 13, 15, 46, 47, 48, 57, 58, 59, 67] (by simp; rfl) ?_
                refine tr_cond (b := (x19.Case != x16.Case)) (by simp) (fun c139 => ?_) (fun c139 => ?_)
                · rw [if_pos c139] at h3
                  refine tr_exit ?_
                  refine lr (by simp; rfl) ?_
                  exact ⟨_, hg3 _ (Option.some.inj h3), wk (by simp [weak_iff])⟩
                · rw [if_neg (by rw [c139]; decide)] at h3
                  refine tr_skip ?_
                  refine tr_seq ?_
                  replace h3 := bnd h3; obtain ⟨v20, hvv20, h3⟩ := h3
                  refine sjv (fun v20_ : Bool => ({ nt := 148, env := [(4, .ptr 4 0), (5, .ptr 5 0), (6, .d (.slice (rowsF api_Steward_row y4.1))), (8, .d (.slice (rowsF api_Notice_row y6.1))), (11, .ptr 11 0), (12, .d (.int .i64 s18.1)), (13, .d (.int .i64 s18.2.1)), (46, .d (.slice (rowsF api_Case_row y5.1))), (47, .d (.int .i64 ((y5.1).length : Int))), (48, .d (.int .i64 s15)), (57, .d (.slice (rowsF api_Notice_row y6.1))), (58, .d (.int .i64 ((y6.1).length : Int))), (59, .d (.int .i64 s18.2.2)), (105, .d (.bool v20_))], box := [(4, [.d (.int .i64 y2.1.Day), .d (.int .i64 y2.1.From), .d (.int .i64 y2.1.To), .d (.int .i64 y2.1.Week), .d (.slice (rowsF (iRow .i64) y2.1.Holidays))]), (5, [.d (.slice (rowsF (iRow .i64) y3.1.Kinds)), .d (.slice (rowsF api_Member_row y3.1.Events))]), (11, [.d (.int .i64 x16.Time), .d (.int .i64 x16.Kind), .d (.int .i64 x16.Case), .d (.int .i64 x16.Level), .d (.int .i64 x16.Owner)])], vec := [] } : St)) (fun v20_ => v20 = v20_) (fun v20_ e => ?_) ?_
                  · subst e
                    refine tr_cond (b := v20) (by simp) (fun c170 => ?_) (fun c170 => ?_)
                    · rw [if_pos c170] at h3
                      refine kr [2] (by simp; rfl) ?_
                      have k2 := he3 _ (Option.some.inj h3)
                      subst k2
                      dsimp only at h2
                      have k1 := he2 _ (Option.some.inj h2)
                      subst k1
                      dsimp only at h0
                      cases h0
                      exact tr_ret ⟨[], by simp, rfl, by simp⟩
                    · rw [if_neg (by rw [c170]; decide)] at h3
                      refine tr_skip ?_
                      refine kd [[], [], [], [2], [3], [0, 1, 4], [5], [6], [6], [7], [8]] [] [] none [] 11 fol (by decide +kernel) (by simp) ?_
                      refine dr_go 0 2 rfl (by simp (maxSteps := 1000000); rfl) ?_
                      refine dr_go 2 2 rfl (by simp (maxSteps := 1000000); rfl) ?_
                      replace h3 := bnd h3; obtain ⟨y21, hy21, h3⟩ := h3
                      refine dr_call 4 [] (notice_Deadline_ok hy21) rfl rfl rfl rfl rfl Tryd.call16 (by simp) ?_
                      replace h3 := bnd h3; obtain ⟨y22, hy22, h3⟩ := h3
                      refine dr_call 5 [] (ref40_Add_ok hy22) rfl rfl rfl rfl rfl Tryd.call15 (by simp) ?_
                      refine dr_go 6 2 rfl (by simp (maxSteps := 1000000); rfl) ?_
                      refine dr_go 8 2 rfl (by simp (maxSteps := 1000000); rfl) ?_
                      refine dr_go 10 1 rfl (by simp (maxSteps := 1000000); rfl) ?_
                      refine dr_end rfl (tops_nil ?_)
                      refine tr_seq ?_
                      replace h3 := bnd h3; obtain ⟨v23, hvv23, h3⟩ := h3
                      refine sjv (fun v23_ : Bool => ({ nt := 148, env := [(4, .ptr 4 0), (5, .ptr 5 0), (6, .d (.slice (rowsF api_Steward_row y4.1))), (8, .d (.slice (rowsF api_Notice_row y6.1))), (11, .ptr 11 0), (13, .d (.int .i64 s18.2.1)), (16, .d (.int .i64 y22.1)), (46, .d (.slice (rowsF api_Case_row y5.1))), (47, .d (.int .i64 ((y5.1).length : Int))), (48, .d (.int .i64 s15)), (57, .d (.slice (rowsF api_Notice_row y6.1))), (58, .d (.int .i64 ((y6.1).length : Int))), (59, .d (.int .i64 s18.2.2)), (121, .d (.bool v23_))], box := [(4, [.d (.int .i64 y2.1.Day), .d (.int .i64 y2.1.From), .d (.int .i64 y2.1.To), .d (.int .i64 y2.1.Week), .d (.slice (rowsF (iRow .i64) y2.1.Holidays))]), (5, [.d (.slice (rowsF (iRow .i64) y3.1.Kinds)), .d (.slice (rowsF api_Member_row y3.1.Events))]), (11, [.d (.int .i64 x16.Time), .d (.int .i64 x16.Kind), .d (.int .i64 x16.Case), .d (.int .i64 x16.Level), .d (.int .i64 x16.Owner)])], vec := [] } : St)) (fun v23_ => v23 = v23_) (fun v23_ e => ?_) ?_
                      · subst e
                        refine tr_cond (b := v23) (by simp) (fun c173 => ?_) (fun c173 => ?_)
                        · rw [if_pos c173] at h3
                          refine kr [2] (by simp; rfl) ?_
                          have k2 := he3 _ (Option.some.inj h3)
                          subst k2
                          dsimp only at h2
                          have k1 := he2 _ (Option.some.inj h2)
                          subst k1
                          dsimp only at h0
                          cases h0
                          exact tr_ret ⟨[], by simp, rfl, by simp⟩
                        · rw [if_neg (by rw [c173]; decide)] at h3
                          refine tr_skip ?_
                          refine lr (by simp; rfl) ?_
                          refine lr (by simp; rfl) ?_
                          exact ⟨_, hg3 _ (Option.some.inj h3), wk (by simp [weak_iff])⟩
                      · refine kc1 ?_
                        refine ko [4, 5, 6, 8, 11, 12, 13, 16, 46, 47, 48, 57, 58, 59, 117] 3 (by simp; rfl) ?_
                        refine tops_split 117 (y22.2 != 0) (by simp) (fun c174 => ?_) (fun c174 => ?_)
                        · rw [c174] at hvv23
                          refine kskip 3 [] (by kernel_rfl) ?_
                          refine ko [4, 5, 6, 8, 11, 13, 16, 46, 47, 48, 57, 58, 59, 121] 1 (by simp; rfl) ?_
                          refine tops_nil ?_
                          cases hvv23
                          exact ⟨_, rfl, wk (by simp [weak_iff])⟩
                        · rw [c174] at hvv23
                          refine ko [4, 5, 6, 8, 11, 13, 16, 46, 47, 48, 57, 58, 59, 118, 119, 120, 121] 4 (by simp; rfl) ?_
                          refine tops_nil ?_
                          cases hvv23
                          exact ⟨_, rfl, wk (by simp [weak_iff])⟩
                  · refine kd1 [[], [0], [], [1, 2], [3], [4], [4, 5], [4], [4, 6, 7], [4, 8], [9], [10], [10, 11], [10, 12], [10, 13], [14], [15], [15], [15], [15, 18], [15], [15, 16, 17, 19, 20], [15], [15, 22], [15, 21, 23], [15, 24], [15, 25], [26], [27], [27, 28], [27, 29], [30], [30, 31], [30], [30, 33], [30, 32, 34], [27, 30, 35], [27, 36]] [] [] none [] 38 fol (by decide +kernel) (by simp) ?_
                    refine dr_go 0 2 rfl (by simp (maxSteps := 1000000); rfl) ?_
                    refine dr_go 2 2 rfl (by simp (maxSteps := 1000000); rfl) ?_
                    refine dr_go 4 1 rfl (by simp (maxSteps := 1000000); rfl) ?_
                    refine dr_split 4 72 (x19.Step != s18.2.1) (by simp) (fun c185 => ?_) (fun c185 => ?_)
                    · rw [if_pos c185] at hvv20
                      refine dr_skip 5 148 [some 73, some 74, some 75, some 76] rfl rfl (by decide) (by kernel_rfl) (by simp only [skEf, List.map_cons, List.map_nil, List.cons_append, List.nil_append]; rfl) ?_
                      refine dr_go 9 2 rfl (by simp (maxSteps := 1000000); rfl) ?_
                      refine dr_skip 11 148 [some 79, some 80, some 81] rfl rfl (by decide) (by kernel_rfl) (by simp only [skEf, List.map_cons, List.map_nil, List.cons_append, List.nil_append]; rfl) ?_
                      refine dr_go 14 2 rfl (by simp (maxSteps := 1000000); rfl) ?_
                      refine dr_skip 16 148 [some 84, some 85, some 86, some 87, some 88, some 89, some 90, some 91, some 92, some 93] rfl rfl (by decide) (by kernel_rfl) (by simp only [skEf, List.map_cons, List.map_nil, List.cons_append, List.nil_append]; rfl) ?_
                      refine dr_go 26 2 rfl (by simp (maxSteps := 1000000); rfl) ?_
                      refine dr_skip 28 148 [some 96, some 97, some 98, some 99, some 100, some 101, some 102, some 103, some 104] rfl rfl (by decide) (by kernel_rfl) (by simp only [skEf, List.map_cons, List.map_nil, List.cons_append, List.nil_append]; rfl) ?_
                      refine dr_go 37 1 rfl (by simp (maxSteps := 1000000); rfl) ?_
                      refine dr_end rfl (tops_nil ?_)
                      cases hvv20
                      exact ⟨_, rfl, wk (by simp [weak_iff])⟩
                    · rw [if_neg (by rw [c185]; decide)] at hvv20
                      refine dr_go 5 2 rfl (by simp (maxSteps := 1000000); rfl) ?_
                      refine dr_go 7 2 rfl (by simp (maxSteps := 1000000); rfl) ?_
                      refine dr_go 9 2 rfl (by simp (maxSteps := 1000000); rfl) ?_
                      refine dr_split 10 78 (x19.Time != s18.1) (by simp) (fun c186 => ?_) (fun c186 => ?_)
                      · rw [if_pos c186] at hvv20
                        refine dr_skip 11 148 [some 79, some 80, some 81] rfl rfl (by decide) (by kernel_rfl) (by simp only [skEf, List.map_cons, List.map_nil, List.cons_append, List.nil_append]; rfl) ?_
                        refine dr_go 14 2 rfl (by simp (maxSteps := 1000000); rfl) ?_
                        refine dr_skip 16 148 [some 84, some 85, some 86, some 87, some 88, some 89, some 90, some 91, some 92, some 93] rfl rfl (by decide) (by kernel_rfl) (by simp only [skEf, List.map_cons, List.map_nil, List.cons_append, List.nil_append]; rfl) ?_
                        refine dr_go 26 2 rfl (by simp (maxSteps := 1000000); rfl) ?_
                        refine dr_skip 28 148 [some 96, some 97, some 98, some 99, some 100, some 101, some 102, some 103, some 104] rfl rfl (by decide) (by kernel_rfl) (by simp only [skEf, List.map_cons, List.map_nil, List.cons_append, List.nil_append]; rfl) ?_
                        refine dr_go 37 1 rfl (by simp (maxSteps := 1000000); rfl) ?_
                        refine dr_end rfl (tops_nil ?_)
                        cases hvv20
                        exact ⟨_, rfl, wk (by simp [weak_iff])⟩
                      · rw [if_neg (by rw [c186]; decide)] at hvv20
                        refine dr_go 11 2 rfl (by simp (maxSteps := 1000000); rfl) ?_
                        refine dr_go 13 2 rfl (by simp (maxSteps := 1000000); rfl) ?_
                        refine dr_go 15 1 rfl (by simp (maxSteps := 1000000); rfl) ?_
                        refine dr_split 15 83 (decide (3 < x19.Step)) (by simp) (fun c187 => ?_) (fun c187 => ?_)
                        · rw [if_pos c187] at hvv20
                          refine dr_skip 16 148 [some 84, some 85, some 86, some 87, some 88, some 89, some 90, some 91, some 92, some 93] rfl rfl (by decide) (by kernel_rfl) (by simp only [skEf, List.map_cons, List.map_nil, List.cons_append, List.nil_append]; rfl) ?_
                          refine dr_go 26 2 rfl (by simp (maxSteps := 1000000); rfl) ?_
                          refine dr_skip 28 148 [some 96, some 97, some 98, some 99, some 100, some 101, some 102, some 103, some 104] rfl rfl (by decide) (by kernel_rfl) (by simp only [skEf, List.map_cons, List.map_nil, List.cons_append, List.nil_append]; rfl) ?_
                          refine dr_go 37 1 rfl (by simp (maxSteps := 1000000); rfl) ?_
                          refine dr_end rfl (tops_nil ?_)
                          cases hvv20
                          exact ⟨_, rfl, wk (by simp [weak_iff])⟩
                        · rw [if_neg (by rw [c187]; decide)] at hvv20
                          refine dr_go 16 2 rfl (by simp (maxSteps := 1000000); rfl) ?_
                          refine dr_go 18 2 rfl (by simp (maxSteps := 1000000); rfl) ?_
                          refine dr_go 20 1 rfl (by simp (maxSteps := 1000000); rfl) ?_
                          replace hvv20 := bnd hvv20; obtain ⟨y24, hy24, hvv20⟩ := hvv20
                          refine dr_call 21 [] (ref26_Way_ok hy24) rfl rfl rfl rfl rfl Tryd.call14 (by simp) ?_
                          refine dr_go 22 2 rfl (by simp (maxSteps := 1000000); rfl) ?_
                          replace hvv20 := bnd hvv20; obtain ⟨y25, hy25, hvv20⟩ := hvv20
                          refine dr_call 24 [] (ref23_Has_ok hy25) rfl rfl rfl rfl rfl Tryd.call13 (by simp) ?_
                          refine dr_go 25 2 rfl (by simp (maxSteps := 1000000); rfl) ?_
                          refine dr_go 27 1 rfl (by simp (maxSteps := 1000000); rfl) ?_
                          refine dr_split 27 95 (!y25) (by simp) (fun c188 => ?_) (fun c188 => ?_)
                          · rw [if_pos c188] at hvv20
                            refine dr_skip 28 148 [some 96, some 97, some 98, some 99, some 100, some 101, some 102, some 103, some 104] rfl rfl (by decide) (by kernel_rfl) (by simp only [skEf, List.map_cons, List.map_nil, List.cons_append, List.nil_append]; rfl) ?_
                            refine dr_go 37 1 rfl (by simp (maxSteps := 1000000); rfl) ?_
                            refine dr_end rfl (tops_nil ?_)
                            cases hvv20
                            exact ⟨_, rfl, wk (by simp [weak_iff])⟩
                          · rw [if_neg (by rw [c188]; decide)] at hvv20
                            refine dr_go 28 2 rfl (by simp (maxSteps := 1000000); rfl) ?_
                            refine dr_go 30 1 rfl (by simp (maxSteps := 1000000); rfl) ?_
                            refine dr_split 30 98 (s18.2.1 == 0) (by simp) (fun c189 => ?_) (fun c189 => ?_)
                            · rw [if_pos c189] at hvv20
                              refine dr_go 31 2 rfl (by simp (maxSteps := 1000000); rfl) ?_
                              refine dr_go 33 2 rfl (by simp (maxSteps := 1000000); rfl) ?_
                              refine dr_go 35 2 rfl (by simp (maxSteps := 1000000); rfl) ?_
                              refine dr_go 37 1 rfl (by simp (maxSteps := 1000000); rfl) ?_
                              refine dr_end rfl (tops_nil ?_)
                              cases hvv20
                              exact ⟨_, rfl, wk (by simp [weak_iff])⟩
                            · rw [if_neg (by rw [c189]; decide)] at hvv20
                              refine dr_skip 31 148 [some 99, some 100, some 101, some 102, some 103] rfl rfl (by decide) (by kernel_rfl) (by simp only [skEf, List.map_cons, List.map_nil, List.cons_append, List.nil_append]; rfl) ?_
                              refine dr_go 36 2 rfl (by simp (maxSteps := 1000000); rfl) ?_
                              refine dr_end rfl (tops_nil ?_)
                              cases hvv20
                              exact ⟨_, rfl, wk (by simp [weak_iff])⟩
              · rw [if_neg (by rw [c138]; decide)] at h3
                refine tr_exit ?_
                exact ⟨_, he3 _ (Option.some.inj h3), wk (by simp [weak_iff])⟩
        · rw [if_neg (by rw [c95]; decide)] at h2
          refine tr_exit ?_
          exact ⟨_, he2 _ (Option.some.inj h2), wk (by simp [weak_iff])⟩
end Go.Vl
