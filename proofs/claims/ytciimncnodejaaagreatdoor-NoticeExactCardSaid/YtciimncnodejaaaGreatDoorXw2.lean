/- Walks: each function of the given program computes what its mirror says. Conditions: none. -/
import Derived.Test.YtciimncnodejaaaGreatDoorXw1
set_option linter.unusedSimpArgs false
set_option linter.unusedVariables false
namespace Go.Vl
open Go Go.Proofs
set_option maxHeartbeats 1000000 in
theorem make_Cases_ok {a0 : make_Tape} {a1 : api_Directory} {r : (List api_Case) × make_Tape} (h0 : make_Cases a0 a1 = some r) : FnOK Tryz.prog 8 [make_Tape_av a0] [.ptr (InO 0) 0, .agg (api_Directory_av a1)] (.d (.slice (rowsF api_Case_row r.1))) [make_Tape_av r.2] := by
  unfold make_Cases at h0
  refine fn_ok (nt := 125) (rs := [.tmp 4]) Tryz.func8 rfl Tryz.ntmps8 rfl (by simp) (by decide) rfl fun K => ?_
  refine kr [0, 3] (by simp; rfl) ?_
  refine kr [0, 3, 5] (by simp; rfl) ?_
  refine kr [0, 3, 5, 6] (by simp; rfl) ?_
  refine tr_seq ?_
  refine kc ?_
  refine ko [0, 3, 5, 6, 10, 11] 2 (by simp; rfl) ?_
  replace h0 := bnd h0; obtain ⟨y1, hy1, h0⟩ := h0
  refine kcall [0, 3, 5, 6, 10, 12] [1000000] (make_Tape_Next_ok hy1) rfl rfl rfl Tryz.call9 (by simp) (by simp; rfl) ?_
  replace h0 := bnd h0; obtain ⟨y2, hy2, h0⟩ := h0
  refine kcall [0, 3, 5, 6, 13] [1000000] (make_Clock_ok hy2) rfl rfl rfl Tryz.call25 (by simp) (by simp; rfl) ?_
  refine ko [0, 3, 5, 6, 13, 14, 15] 2 (by simp; rfl) ?_
  refine tops_nil ?_
  refine tr_wk (wk_own 5 45 40 5 (by simp) (by simp)) ?_
  refine tr_wk (wk_own 6 50 3 1 (by simp) (by simp)) ?_
  replace h0 := bnd h0; obtain ⟨e1, hI1, h0⟩ := h0
  refine tjv (fun v3 : (List Int) × Int × (List api_Case) => ({ nt := 125, env := [(5, .vec 45)], box := [(1000000, [.d (.slice (rowsF (iRow .i64) v3.1)), .d (.int .i64 v3.2.1)])], vec := [(45, ⟨40, 5, rowsF api_Case_row v3.2.2⟩)] } : St)) (fun v3 => v3 = e1) (fun v3 hI1e _ W1 => ?_) ?_
  · subst hI1e
    refine tr_wk W1 ?_
    refine tr_seq ?_
    refine kr [5, 9] (by simp; rfl) ?_
    replace h0 := bnd h0; obtain ⟨e2, hI2, h0⟩ := h0
    refine tjv (fun v4 : (List api_Case) => ({ nt := 125, env := [(5, .vec 45)], box := [(1000000, [.d (.slice (rowsF (iRow .i64) v3.1)), .d (.int .i64 v3.2.1)])], vec := [(45, ⟨40, 5, rowsF api_Case_row v4⟩)] } : St)) (fun v4 => v4 = e2) (fun v4 hI2e _ W2 => ?_) ?_
    · subst hI2e
      refine tr_wk W2 ?_
      refine kr [4] (by simp; rfl) ?_
      cases h0
      exact tr_ret ⟨[45], by simp, rfl, by simp⟩
    · refine tr_block (tr_iter (fun s5 : Int × (List api_Case) => ({ nt := 125, env := [(5, .vec 45), (9, .d (.int .i64 s5.1))], box := [(1000000, [.d (.slice (rowsF (iRow .i64) v3.1)), .d (.int .i64 v3.2.1)])], vec := [(45, ⟨40, 5, rowsF api_Case_row s5.2⟩)] } : St)) hI2 (wk (by simp [weak_iff])) fun G2 s5 o2 h2 hg2 he2 => ?_)
      unfold make_Cases_l1 at h2
      refine tr_seq ?_
      refine kr [5, 9, 105] (by simp; rfl) ?_
      refine tr_cond (b := (decide (s5.1 < ((s5.2).length : Int)))) (by simp) (fun c27 => ?_) (fun c27 => ?_)
      · rw [if_pos c27] at h2
        refine tr_skip ?_
        refine tr_seq ?_
        refine tr_block ?_
        refine kd1 [[], [], [], [], [2, 3], [4], [5], [], [], [8], [7, 9], [10], [11], [6, 12], [0, 1, 13], [13, 14], [0, 1, 2, 3, 4, 5, 6, 7, 8, 9, 10, 11, 12, 13, 14, 15]] [] [] none [] 16 fol (by decide +kernel) (by simp) ?_
        replace h2 := bnd h2; obtain ⟨_, p124, h2⟩ := h2
        replace p124 := ck_some p124
        have p124' := p124; try simp at p124'
        have p124o : s5.1 < (((s5.2)).length : Int) := by omega
        replace h2 := bnd h2; obtain ⟨x6, p125, h2⟩ := h2
        replace p125 := idx_some p125
        have p125' := p125; try simp at p125'
        replace h2 := bnd h2; obtain ⟨_, p126, h2⟩ := h2
        replace p126 := ck_some p126
        have p126' := p126; try simp at p126'
        have p126o : IntKind.i64.wrap (s5.1 - 1) < (((s5.2)).length : Int) := by omega
        replace h2 := bnd h2; obtain ⟨x7, p127, h2⟩ := h2
        replace p127 := idx_some p127
        have p127' := p127; try simp at p127'
        replace h2 := bnd h2; obtain ⟨_, p128, h2⟩ := h2
        replace p128 := ck_some p128
        have p128' := p128; try simp at p128'
        have p128o : s5.1 < (((s5.2)).length : Int) := by omega
        refine dr_go 0 2 rfl (by simp (maxSteps := 1000000) [-getElem?_pos, List.getElem?_cons_zero, List.getElem?_cons_succ, p124, p124o, p125, p126, p126o, p127, p128, p128o, p124', p125', p126', p127', p128']; rfl) ?_
        refine dr_go 2 2 rfl (by simp (maxSteps := 1000000) [-getElem?_pos, List.getElem?_cons_zero, List.getElem?_cons_succ, p124, p124o, p125, p126, p126o, p127, p128, p128o, p124', p125', p126', p127', p128']; rfl) ?_
        refine dr_go 4 2 rfl (by simp (maxSteps := 1000000) [-getElem?_pos, List.getElem?_cons_zero, List.getElem?_cons_succ, p124, p124o, p125, p126, p126o, p127, p128, p128o, p124', p125', p126', p127', p128']; rfl) ?_
        refine dr_go 6 2 rfl (by simp (maxSteps := 1000000) [-getElem?_pos, List.getElem?_cons_zero, List.getElem?_cons_succ, p124, p124o, p125, p126, p126o, p127, p128, p128o, p124', p125', p126', p127', p128']; rfl) ?_
        refine dr_go 8 2 rfl (by simp (maxSteps := 1000000) [-getElem?_pos, List.getElem?_cons_zero, List.getElem?_cons_succ, p124, p124o, p125, p126, p126o, p127, p128, p128o, p124', p125', p126', p127', p128']; rfl) ?_
        refine dr_go 10 2 rfl (by simp (maxSteps := 1000000) [-getElem?_pos, List.getElem?_cons_zero, List.getElem?_cons_succ, p124, p124o, p125, p126, p126o, p127, p128, p128o, p124', p125', p126', p127', p128']; rfl) ?_
        refine dr_go 12 2 rfl (by simp (maxSteps := 1000000) [-getElem?_pos, List.getElem?_cons_zero, List.getElem?_cons_succ, p124, p124o, p125, p126, p126o, p127, p128, p128o, p124', p125', p126', p127', p128']; rfl) ?_
        refine dr_go 14 2 rfl (by simp (maxSteps := 1000000) [-getElem?_pos, List.getElem?_cons_zero, List.getElem?_cons_succ, p124, p124o, p125, p126, p126o, p127, p128, p128o, p124', p125', p126', p127', p128']; rfl) ?_
        refine dr_end rfl ?_
        refine ko [5, 9] 1 (by simp [-getElem?_pos, List.getElem?_cons_zero, List.getElem?_cons_succ, p125, (List.getElem?_eq_some_iff.1 p125.2).1, p125']; rfl) ?_
        refine tops_nil ?_
        refine lr (by simp; rfl) ?_
        exact ⟨_, hg2 _ (Option.some.inj h2), wk (by simp [weak_iff])⟩
      · rw [if_neg (by rw [c27]; decide)] at h2
        refine tr_exit ?_
        exact ⟨_, he2 _ (Option.some.inj h2), wk (by simp [weak_iff])⟩
  · refine tr_block (tr_iter (fun s8 : Int × (List Int) × Int × (List api_Case) × (List Int) => ({ nt := 125, env := [(0, .ptr 1000000 0), (3, .ptr 3 0), (5, .vec 45), (6, .vec 50), (13, .d (.slice (rowsF (iRow .i64) y2.1))), (14, .d (.int .i64 ((y2.1).length : Int))), (15, .d (.int .i64 s8.1))], box := [(3, [.d (.slice (rowsF (iRow .i64) a1.Kinds)), .d (.slice (rowsF api_Member_row a1.Events))]), (1000000, [.d (.slice (rowsF (iRow .i64) s8.2.1)), .d (.int .i64 s8.2.2.1)])], vec := [(45, ⟨40, 5, rowsF api_Case_row s8.2.2.2.1⟩), (50, ⟨3, 1, rowsF (iRow .i64) s8.2.2.2.2⟩)] } : St)) hI1 (wk (by simp [weak_iff])) fun G2 s8 o2 h2 hg2 he2 => ?_)
    unfold make_Cases_l0 at h2
    refine kr [0, 3, 5, 6, 13, 14, 15, 16] (by simp; rfl) ?_
    refine tr_seq ?_
    refine tr_cond (b := (decide (s8.1 < ((y2.1).length : Int)))) (by simp) (fun c28 => ?_) (fun c28 => ?_)
    · rw [if_pos c28] at h2
      refine tr_skip ?_
      refine tr_seq ?_
      refine tr_block ?_
      replace h2 := bnd h2; obtain ⟨x9, p129, h2⟩ := h2
      replace p129 := idx_some p129
      have p129' := p129; try simp at p129'
      refine kr [0, 3, 5, 6, 8, 13, 14, 15] (by simp [p129, p129']; rfl) ?_
      refine tr_seq ?_
      replace h2 := bnd h2; obtain ⟨v10, hvv10, h2⟩ := h2
      refine sjv (fun v10_ : Bool × (List Int) × Int => ({ nt := 125, env := [(0, .ptr 1000000 0), (3, .ptr 3 0), (5, .vec 45), (6, .vec 50), (8, .d (.int .i64 x9)), (13, .d (.slice (rowsF (iRow .i64) y2.1))), (14, .d (.int .i64 ((y2.1).length : Int))), (15, .d (.int .i64 s8.1)), (31, .d (.bool v10_.1))], box := [(3, [.d (.slice (rowsF (iRow .i64) a1.Kinds)), .d (.slice (rowsF api_Member_row a1.Events))]), (1000000, [.d (.slice (rowsF (iRow .i64) v10_.2.1)), .d (.int .i64 v10_.2.2)])], vec := [(45, ⟨40, 5, rowsF api_Case_row s8.2.2.2.1⟩), (50, ⟨3, 1, rowsF (iRow .i64) s8.2.2.2.2⟩)] } : St)) (fun v10_ => v10 = v10_) (fun v10_ e => ?_) ?_
      · subst e
        refine tr_cond (b := v10.1) (by simp) (fun c33 => ?_) (fun c33 => ?_)
        · rw [if_pos c33] at h2
          refine tr_wk (wk_ren 45 700045) ?_
          refine kd [[], [], [], [2], [], [4], [], [], [7], [8], [5, 6, 9], [1, 3, 5, 9, 10], [3, 5, 9, 11], [0, 3, 5, 9, 10, 12], [0, 3, 9, 13]] [5, 10, 13] [(1000000, [5, 10, 13])] (some (13, 700045)) [5, 32] 15 fol (by decide +kernel) (by simp) ?_
          refine dr_go 0 2 rfl (by simp (maxSteps := 1000000); rfl) ?_
          refine dr_go 2 2 rfl (by simp (maxSteps := 1000000); rfl) ?_
          refine dr_go 4 1 rfl (by simp (maxSteps := 1000000); rfl) ?_
          replace h2 := bnd h2; obtain ⟨y11, hy11, h2⟩ := h2
          refine dr_call 5 [1000000] (make_Tape_Between_ok hy11) rfl rfl rfl rfl rfl Tryz.call10 (by simp) ?_
          refine dr_go 6 2 rfl (by simp (maxSteps := 1000000); rfl) ?_
          refine dr_go 8 2 rfl (by simp (maxSteps := 1000000); rfl) ?_
          replace h2 := bnd h2; obtain ⟨y12, hy12, h2⟩ := h2
          refine dr_call 10 [1000000] (make_Tape_Next_ok hy12) rfl rfl rfl rfl rfl Tryz.call9 (by simp) ?_
          replace h2 := bnd h2; obtain ⟨_, p133, h2⟩ := h2
          replace p133 := ck_some p133
          have p133' := p133; try simp at p133'
          refine dr_go 11 2 rfl (by simp (maxSteps := 1000000) [p133, p133']; rfl) ?_
          refine dr_go 13 2 rfl (by simp (maxSteps := 1000000) [p133, p133']; rfl) ?_
          refine dr_end rfl (tops_nil ?_)
          replace h2 := bnd h2; obtain ⟨_, p134, h2⟩ := h2
          replace p134 := ck_some p134
          have p134' := p134; try simp at p134'
          refine kr [0, 3, 5, 6, 13, 14, 15] (by simp [p134, p134']; rfl) ?_
          refine tr_exit ?_
          refine lr (by simp; rfl) ?_
          exact ⟨_, hg2 _ (Option.some.inj h2), wk (by simp [weak_iff])⟩
        · rw [if_neg (by rw [c33]; decide)] at h2
          refine tr_skip ?_
          refine kc ?_
          refine ko [0, 3, 6, 13, 14, 15, 51, 52, 53] 3 (by simp; rfl) ?_
          replace h2 := bnd h2; obtain ⟨y13, hy13, h2⟩ := h2
          refine kcall [0, 3, 6, 13, 14, 15, 51, 52, 54] [1000000] (make_Tape_Next_ok hy13) rfl rfl rfl Tryz.call9 (by simp) (by simp; rfl) ?_
          refine ko [0, 3, 6, 13, 14, 15, 51, 55, 56] 2 (by simp; rfl) ?_
          replace h2 := bnd h2; obtain ⟨y14, hy14, h2⟩ := h2
          refine kcall [0, 3, 6, 13, 14, 15, 51, 55, 57] [1000000] (make_Tape_Between_ok hy14) rfl rfl rfl Tryz.call10 (by simp) (by simp; rfl) ?_
          refine ko [0, 3, 6, 13, 14, 15, 51, 55, 57, 58, 59, 61] 4 (by simp; rfl) ?_
          replace h2 := bnd h2; obtain ⟨y15, hy15, h2⟩ := h2
          refine kcall [0, 3, 6, 13, 14, 15, 51, 55, 57, 58, 62] [1000000] (make_Tape_Next_ok hy15) rfl rfl rfl Tryz.call9 (by simp) (by simp; rfl) ?_
          replace h2 := bnd h2; obtain ⟨_, p135, h2⟩ := h2
          replace p135 := ck_some p135
          have p135' := p135; try simp at p135'
          have p135o : y15.1 < (((s8.2.2.2.2)).length : Int) := by omega
          replace h2 := bnd h2; obtain ⟨x16, p136, h2⟩ := h2
          replace p136 := idx_some p136
          have p136' := p136; try simp at p136'
          replace h2 := bnd h2; obtain ⟨_, p137, h2⟩ := h2
          replace p137 := ck_some p137
          have p137' := p137; try simp at p137'
          refine ko [0, 3, 5, 6, 13, 14, 15] 6 (by simp [-getElem?_pos, List.getElem?_cons_zero, List.getElem?_cons_succ, p135, p135o, p136, p137, p135', p136', p137']; rfl) ?_
          refine tops_nil ?_
          replace h2 := bnd h2; obtain ⟨v17, hvv17, h2⟩ := h2
          refine sjv (fun v17_ : Bool => ({ nt := 125, env := [(0, .ptr 1000000 0), (3, .ptr 3 0), (5, .vec 67), (6, .vec 50), (13, .d (.slice (rowsF (iRow .i64) y2.1))), (14, .d (.int .i64 ((y2.1).length : Int))), (15, .d (.int .i64 s8.1)), (87, .d (.bool v17_))], box := [(3, [.d (.slice (rowsF (iRow .i64) a1.Kinds)), .d (.slice (rowsF api_Member_row a1.Events))]), (1000000, [.d (.slice (rowsF (iRow .i64) y15.2.L)), .d (.int .i64 y15.2.at_)])], vec := [(50, ⟨3, 1, rowsF (iRow .i64) s8.2.2.2.2⟩), (67, ⟨40, 5, rowsF api_Case_row (s8.2.2.2.1 ++ [(⟨IntKind.i64.wrap (x9 + y13.1), y14.1, x16, 0, 0⟩ : api_Case)])⟩)] } : St)) (fun v17_ => v17 = v17_) (fun v17_ e => ?_) ?_
          · subst e
            refine tr_cond (b := v17) (by simp) (fun c40 => ?_) (fun c40 => ?_)
            · rw [if_pos c40] at h2
              replace h2 := bnd h2; obtain ⟨_, p162, h2⟩ := h2
              replace p162 := ck_some p162
              have p162' := p162; try simp at p162'
              have p162o : IntKind.i64.wrap ((((s8.2.2.2.1 ++ [(⟨IntKind.i64.wrap (x9 + y13.1), y14.1, x16, 0, 0⟩ : api_Case)])).length : Int) - 2) < ((((s8.2.2.2.1 ++ [(⟨IntKind.i64.wrap (x9 + y13.1), y14.1, x16, 0, 0⟩ : api_Case)]))).length : Int) := by omega
              replace h2 := bnd h2; obtain ⟨x18, p163, h2⟩ := h2
              replace p163 := idx_some p163
              have p163' := p163; try simp at p163'
              have p163q : (rowsF api_Case_row (s8.2.2.2.1 ++ [(⟨IntKind.i64.wrap (x9 + y13.1), y14.1, x16, 0, 0⟩ : api_Case)]))[(Int.toNat (IntKind.i64.wrap ((((s8.2.2.2.1 ++ [(⟨IntKind.i64.wrap (x9 + y13.1), y14.1, x16, 0, 0⟩ : api_Case)])).length : Int) - 2)))]? = some (api_Case_row x18) := by (first | (rw [rowsF_get, p163.2]; rfl) | (have q := p163.2; simp at q; subst q; rfl))
              try simp [-getElem?_pos] at p163q
              replace h2 := bnd h2; obtain ⟨_, p164, h2⟩ := h2
              replace p164 := ck_some p164
              have p164' := p164; try simp at p164'
              have p164o : IntKind.i64.wrap ((((s8.2.2.2.1 ++ [(⟨IntKind.i64.wrap (x9 + y13.1), y14.1, x16, 0, 0⟩ : api_Case)])).length : Int) - 1) < ((((s8.2.2.2.1 ++ [(⟨IntKind.i64.wrap (x9 + y13.1), y14.1, x16, 0, 0⟩ : api_Case)]))).length : Int) := by omega
              replace h2 := bnd h2; obtain ⟨x19, p165, h2⟩ := h2
              replace p165 := idx_some p165
              have p165' := p165; try simp at p165'
              have p165q : (rowsF api_Case_row (s8.2.2.2.1 ++ [(⟨IntKind.i64.wrap (x9 + y13.1), y14.1, x16, 0, 0⟩ : api_Case)]))[(Int.toNat (IntKind.i64.wrap ((((s8.2.2.2.1 ++ [(⟨IntKind.i64.wrap (x9 + y13.1), y14.1, x16, 0, 0⟩ : api_Case)])).length : Int) - 1)))]? = some (api_Case_row x19) := by (first | (rw [rowsF_get, p165.2]; rfl) | (have q := p165.2; simp at q; subst q; rfl))
              try simp [-getElem?_pos] at p165q
              refine lr (by simp [-getElem?_pos, List.getElem?_cons_zero, List.getElem?_cons_succ, p162, p162o, p163, p163q, p164, p164o, p165, p165q, (List.getElem?_eq_some_iff.1 p165.2).1, p162', p163', p164', p165']; rfl) ?_
              refine lr (by simp; rfl) ?_
              exact ⟨_, hg2 _ (Option.some.inj h2), Wk.trans (wk_ren 67 45) (wk (by simp [weak_iff]))⟩
            · rw [if_neg (by rw [c40]; decide)] at h2
              refine tr_skip ?_
              refine lr (by simp; rfl) ?_
              exact ⟨_, hg2 _ (Option.some.inj h2), Wk.trans (wk_ren 67 45) (wk (by simp [weak_iff]))⟩
          · refine kd1 [[], [0], [1], [1, 2], [1, 3], [1, 3], [1, 3, 5], [1, 3, 6], [1, 3, 4, 6, 7], [1, 3, 6, 8], [1, 3, 6, 9], [1, 3], [1, 3], [1, 3, 12], [1, 3, 13], [1, 3, 11, 13, 14], [1, 3, 13, 15], [1, 3, 13, 16], [1, 3, 6, 10, 13, 17], [1, 3, 6, 13, 18]] [] [] none [] 20 fol (by decide +kernel) (by simp) ?_
            refine dr_go 0 2 rfl (by simp (maxSteps := 1000000); rfl) ?_
            refine dr_go 2 2 rfl (by simp (maxSteps := 1000000); rfl) ?_
            refine dr_split 3 71 (decide (1 < (((s8.2.2.2.1 ++ [(⟨IntKind.i64.wrap (x9 + y13.1), y14.1, x16, 0, 0⟩ : api_Case)])).length : Int))) (by simp) (fun c43 => ?_) (fun c43 => ?_)
            · rw [if_pos c43] at hvv17
              replace hvv17 := bnd hvv17; obtain ⟨_, p174, hvv17⟩ := hvv17
              replace p174 := ck_some p174
              have p174' := p174; try simp at p174'
              have p174o : IntKind.i64.wrap ((((s8.2.2.2.1 ++ [(⟨IntKind.i64.wrap (x9 + y13.1), y14.1, x16, 0, 0⟩ : api_Case)])).length : Int) - 1) < ((((s8.2.2.2.1 ++ [(⟨IntKind.i64.wrap (x9 + y13.1), y14.1, x16, 0, 0⟩ : api_Case)]))).length : Int) := by omega
              replace hvv17 := bnd hvv17; obtain ⟨x20, p175, hvv17⟩ := hvv17
              replace p175 := idx_some p175
              have p175' := p175; try simp at p175'
              have p175q : (rowsF api_Case_row (s8.2.2.2.1 ++ [(⟨IntKind.i64.wrap (x9 + y13.1), y14.1, x16, 0, 0⟩ : api_Case)]))[(Int.toNat (IntKind.i64.wrap ((((s8.2.2.2.1 ++ [(⟨IntKind.i64.wrap (x9 + y13.1), y14.1, x16, 0, 0⟩ : api_Case)])).length : Int) - 1)))]? = some (api_Case_row x20) := by (first | (rw [rowsF_get, p175.2]; rfl) | (have q := p175.2; simp at q; subst q; rfl))
              try simp [-getElem?_pos] at p175q
              replace hvv17 := bnd hvv17; obtain ⟨_, p176, hvv17⟩ := hvv17
              replace p176 := ck_some p176
              have p176' := p176; try simp at p176'
              have p176o : IntKind.i64.wrap ((((s8.2.2.2.1 ++ [(⟨IntKind.i64.wrap (x9 + y13.1), y14.1, x16, 0, 0⟩ : api_Case)])).length : Int) - 2) < ((((s8.2.2.2.1 ++ [(⟨IntKind.i64.wrap (x9 + y13.1), y14.1, x16, 0, 0⟩ : api_Case)]))).length : Int) := by omega
              replace hvv17 := bnd hvv17; obtain ⟨x21, p177, hvv17⟩ := hvv17
              replace p177 := idx_some p177
              have p177' := p177; try simp at p177'
              have p177q : (rowsF api_Case_row (s8.2.2.2.1 ++ [(⟨IntKind.i64.wrap (x9 + y13.1), y14.1, x16, 0, 0⟩ : api_Case)]))[(Int.toNat (IntKind.i64.wrap ((((s8.2.2.2.1 ++ [(⟨IntKind.i64.wrap (x9 + y13.1), y14.1, x16, 0, 0⟩ : api_Case)])).length : Int) - 2)))]? = some (api_Case_row x21) := by (first | (rw [rowsF_get, p177.2]; rfl) | (have q := p177.2; simp at q; subst q; rfl))
              try simp [-getElem?_pos] at p177q
              refine dr_go 4 2 rfl (by simp (maxSteps := 1000000) [-getElem?_pos, List.getElem?_cons_zero, List.getElem?_cons_succ, p174, p174o, p175, p175q, p176, p176o, p177, p177q, p174', p175', p176', p177']; rfl) ?_
              refine dr_go 6 2 rfl (by simp (maxSteps := 1000000) [-getElem?_pos, List.getElem?_cons_zero, List.getElem?_cons_succ, p174, p174o, p175, p175q, p176, p176o, p177, p177q, p174', p175', p176', p177']; rfl) ?_
              refine dr_go 8 2 rfl (by simp (maxSteps := 1000000) [-getElem?_pos, List.getElem?_cons_zero, List.getElem?_cons_succ, p174, p174o, p175, p175q, p176, p176o, p177, p177q, p174', p175', p176', p177']; rfl) ?_
              refine dr_go 10 2 rfl (by simp (maxSteps := 1000000) [-getElem?_pos, List.getElem?_cons_zero, List.getElem?_cons_succ, p174, p174o, p175, p175q, p176, p176o, p177, p177q, p174', p175', p176', p177']; rfl) ?_
              refine dr_go 12 2 rfl (by simp (maxSteps := 1000000) [-getElem?_pos, List.getElem?_cons_zero, List.getElem?_cons_succ, p174, p174o, p175, p175q, p176, p176o, p177, p177q, p174', p175', p176', p177']; rfl) ?_
              refine dr_go 14 2 rfl (by simp (maxSteps := 1000000) [-getElem?_pos, List.getElem?_cons_zero, List.getElem?_cons_succ, p174, p174o, p175, p175q, p176, p176o, p177, p177q, p174', p175', p176', p177']; rfl) ?_
              refine dr_go 16 2 rfl (by simp (maxSteps := 1000000) [-getElem?_pos, List.getElem?_cons_zero, List.getElem?_cons_succ, p174, p174o, p175, p175q, p176, p176o, p177, p177q, p174', p175', p176', p177']; rfl) ?_
              refine dr_go 18 2 rfl (by simp (maxSteps := 1000000) [-getElem?_pos, List.getElem?_cons_zero, List.getElem?_cons_succ, p174, p174o, p175, p175q, p176, p176o, p177, p177q, p174', p175', p176', p177']; rfl) ?_
              refine dr_end rfl (tops_nil ?_)
              cases hvv17
              exact ⟨_, rfl, wk (by simp [weak_iff])⟩
            · rw [if_neg (by rw [c43]; decide)] at hvv17
              refine dr_skip 4 125 [some 72, some 73, some 74, some 75, some 76, some 77, some 78, some 79, some 80, some 81, some 82, some 83, some 84, some 85, some 86] rfl rfl (by decide) (by kernel_rfl) (by simp only [skEf, List.map_cons, List.map_nil, List.cons_append, List.nil_append]; rfl) ?_
              refine dr_go 19 1 rfl (by simp (maxSteps := 1000000); rfl) ?_
              refine dr_end rfl (tops_nil ?_)
              cases hvv17
              exact ⟨_, rfl, wk (by simp [weak_iff])⟩
      · refine kc1 ?_
        refine ko [0, 3, 5, 6, 8, 13, 14, 15, 22] 4 (by simp; rfl) ?_
        refine tops_split 22 (decide (((s8.2.2.2.2).length : Int) < 3)) (by simp) (fun c44 => ?_) (fun c44 => ?_)
        · rw [if_pos c44] at hvv10
          refine ko [0, 3, 5, 6, 8, 13, 14, 15, 22, 23, 24, 25, 26] 4 (by simp; rfl) ?_
          refine tops_split 26 (((s8.2.2.2.2).length : Int) == 0) (by simp) (fun c45 => ?_) (fun c45 => ?_)
          · rw [if_pos c45] at hvv10
            refine kskip 3 [] (by kernel_rfl) ?_
            refine ko [0, 3, 5, 6, 8, 13, 14, 15, 23, 24, 25, 26, 30, 31] 2 (by simp; rfl) ?_
            refine tops_nil ?_
            cases hvv10
            exact ⟨_, rfl, wk (by simp [weak_iff])⟩
          · rw [if_neg (by rw [c45]; decide)] at hvv10
            refine ko [0, 3, 5, 6, 8, 13, 14, 15, 22, 23, 24, 25, 26, 27] 1 (by simp; rfl) ?_
            replace hvv10 := bnd hvv10; obtain ⟨y22, hy22, hvv10⟩ := hvv10
            refine kcall [0, 3, 5, 6, 8, 13, 14, 15, 22, 23, 24, 25, 26, 27, 28] [1000000] (make_Tape_Next_ok hy22) rfl rfl rfl Tryz.call9 (by simp) (by simp; rfl) ?_
            refine ko [0, 3, 5, 6, 8, 13, 14, 15, 23, 24, 25, 26, 27, 28, 29, 30, 31] 3 (by simp; rfl) ?_
            refine tops_nil ?_
            cases hvv10
            exact ⟨_, rfl, wk (by simp [weak_iff])⟩
        · rw [if_neg (by rw [c44]; decide)] at hvv10
          refine kskip 8 [] (by kernel_rfl) ?_
          refine ko [0, 3, 5, 6, 8, 13, 14, 15, 31] 1 (by simp; rfl) ?_
          refine tops_nil ?_
          cases hvv10
          exact ⟨_, rfl, wk (by simp [weak_iff])⟩
    · rw [if_neg (by rw [c28]; decide)] at h2
      refine tr_exit ?_
      exact ⟨_, he2 _ (Option.some.inj h2), wk (by simp [weak_iff])⟩
set_option maxHeartbeats 1000000 in
theorem ref41_Deadline_ok {a0 : Int} {r : Int} (h0 : ref41_Deadline a0 = some r) : FnOK Tryz.prog 12 [] [.d (.int .i64 a0)] (.d (.int .i64 r)) [] := by
  unfold ref41_Deadline at h0
  refine fn_ok (nt := 12) (rs := [.tmp 2]) Tryz.func12 rfl Tryz.ntmps12 rfl (by simp) (by decide) rfl fun K => ?_
  refine kr [0] (by simp; rfl) ?_
  refine tr_seq ?_
  refine kr [3] (by simp; rfl) ?_
  refine tr_block ?_
  refine kr [3, 4] (by simp; rfl) ?_
  refine tr_cond (b := (a0 == 1)) (by simp) (fun c1 => ?_) (fun c1 => ?_)
  · rw [if_pos c1] at h0
    refine kr [2] (by simp; rfl) ?_
    cases h0
    exact tr_ret ⟨[], by simp, rfl, by simp⟩
  · rw [if_neg (by rw [c1]; decide)] at h0
    refine kr [3, 6] (by simp; rfl) ?_
    refine tr_cond (b := (a0 == 2)) (by simp) (fun c2 => ?_) (fun c2 => ?_)
    · rw [if_pos c2] at h0
      refine kr [2] (by simp; rfl) ?_
      cases h0
      exact tr_ret ⟨[], by simp, rfl, by simp⟩
    · rw [if_neg (by rw [c2]; decide)] at h0
      refine kr [3, 8] (by simp; rfl) ?_
      refine tr_cond (b := (a0 == 3)) (by simp) (fun c3 => ?_) (fun c3 => ?_)
      · rw [if_pos c3] at h0
        refine kr [2] (by simp; rfl) ?_
        cases h0
        exact tr_ret ⟨[], by simp, rfl, by simp⟩
      · rw [if_neg (by rw [c3]; decide)] at h0
        refine kr [10] (by simp; rfl) ?_
        refine tr_cond (b := (a0 == 4)) (by simp) (fun c4 => ?_) (fun c4 => ?_)
        · rw [if_pos c4] at h0
          refine kr [2] (by simp; rfl) ?_
          cases h0
          exact tr_ret ⟨[], by simp, rfl, by simp⟩
        · rw [if_neg (by rw [c4]; decide)] at h0
          refine tr_skip ?_
          refine kr [2] (by simp; rfl) ?_
          cases h0
          exact tr_ret ⟨[], by simp, rfl, by simp⟩
set_option maxHeartbeats 1000000 in
theorem ref23_in_ok {a0 : Int} {a1 : Int} {a2 : Int} {r : Bool} (h0 : ref23_in a0 a1 a2 = some r) : FnOK Tryz.prog 50 [] [.d (.int .i64 a0), .d (.int .i64 a1), .d (.int .i64 a2)] (.d (.bool r)) [] := by
  unfold ref23_in at h0
  refine fn_ok (nt := 15) (rs := [.tmp 6]) Tryz.func50 rfl Tryz.ntmps50 rfl (by simp) (by decide) rfl fun K => ?_
  refine kr [0, 1, 2] (by simp; rfl) ?_
  replace h0 := bnd h0; obtain ⟨v1, hvv1, h0⟩ := h0
  refine sjv (fun v1_ : Bool => ({ nt := 15, env := [(6, .d (.bool v1_))], box := [], vec := [] } : St)) (fun v1_ => v1 = v1_) (fun v1_ e => ?_) ?_
  · subst e
    cases h0
    exact tr_ret ⟨[], by simp, rfl, by simp⟩
  · refine kc1 ?_
    refine ko [0, 2, 10] 4 (by simp; rfl) ?_
    refine tops_split 10 (decide (a1 ≤ a0)) (by simp) (fun c3 => ?_) (fun c3 => ?_)
    · rw [c3] at hvv1
      refine ko [6] 5 (by simp; rfl) ?_
      refine tops_nil ?_
      cases hvv1
      exact ⟨_, rfl, wk (by simp [weak_iff])⟩
    · rw [c3] at hvv1
      refine kskip 3 [] (by kernel_rfl) ?_
      refine ko [6] 2 (by simp; rfl) ?_
      refine tops_nil ?_
      cases hvv1
      exact ⟨_, rfl, wk (by simp [weak_iff])⟩
set_option maxHeartbeats 1000000 in
theorem ref23_Exists_ok {a0 : api_Directory} {a1 : Int} {r : Bool} (h0 : ref23_Exists a0 a1 = some r) : FnOK Tryz.prog 30 [] [.agg (api_Directory_av a0), .d (.int .i64 a1)] (.d (.bool r)) [] := by
  unfold ref23_Exists at h0
  refine fn_ok (nt := 11) (rs := [.tmp 4]) Tryz.func30 rfl Tryz.ntmps30 rfl (by simp) (by decide) rfl fun K => ?_
  refine kr [1, 2] (by simp; rfl) ?_
  refine kc ?_
  refine ko [5, 9] 5 (by simp; rfl) ?_
  replace h0 := bnd h0; obtain ⟨y1, hy1, h0⟩ := h0
  refine kcall [10] [] (ref23_in_ok hy1) rfl rfl rfl Tryz.call50 (by simp) (by simp; rfl) ?_
  refine ko [4] 1 (by simp; rfl) ?_
  refine tops_nil ?_
  cases h0
  exact tr_ret ⟨[], by simp, rfl, by simp⟩
set_option maxHeartbeats 1000000 in
theorem ref23_Group_ok {a0 : api_Directory} {a1 : Int} {r : Bool} (h0 : ref23_Group a0 a1 = some r) : FnOK Tryz.prog 51 [] [.agg (api_Directory_av a0), .d (.int .i64 a1)] (.d (.bool r)) [] := by
  unfold ref23_Group at h0
  refine fn_ok (nt := 16) (rs := [.tmp 4]) Tryz.func51 rfl Tryz.ntmps51 rfl (by simp) (by decide) rfl fun K => ?_
  refine kr [1, 2] (by simp; rfl) ?_
  replace h0 := bnd h0; obtain ⟨v1, hvv1, h0⟩ := h0
  refine sjv (fun v1_ : Bool => ({ nt := 16, env := [(4, .d (.bool v1_))], box := [], vec := [] } : St)) (fun v1_ => v1 = v1_) (fun v1_ e => ?_) ?_
  · subst e
    cases h0
    exact tr_ret ⟨[], by simp, rfl, by simp⟩
  · refine kc1 ?_
    refine ko [1, 2, 5, 6] 2 (by simp; rfl) ?_
    replace hvv1 := bnd hvv1; obtain ⟨y2, hy2, hvv1⟩ := hvv1
    refine kcall [1, 2, 7] [] (ref23_Exists_ok hy2) rfl rfl rfl Tryz.call30 (by simp) (by simp; rfl) ?_
    refine ko [1, 2, 8] 1 (by simp; rfl) ?_
    refine tops_split 8 y2 (by simp) (fun c3 => ?_) (fun c3 => ?_)
    · rw [if_pos c3] at hvv1
      replace hvv1 := bnd hvv1; obtain ⟨x3, p3, hvv1⟩ := hvv1
      replace p3 := idx_some p3
      have p3' := p3; try simp at p3'
      refine ko [4] 8 (by simp [p3, p3']; rfl) ?_
      refine tops_nil ?_
      cases hvv1
      exact ⟨_, rfl, wk (by simp [weak_iff])⟩
    · rw [if_neg (by rw [c3]; decide)] at hvv1
      refine kskip 6 [] (by kernel_rfl) ?_
      refine ko [4] 2 (by simp; rfl) ?_
      refine tops_nil ?_
      cases hvv1
      exact ⟨_, rfl, wk (by simp [weak_iff])⟩
set_option maxHeartbeats 1000000 in
theorem ref23_Valid_ok {a0 : api_Directory} {r : Bool} (h0 : ref23_Valid a0 = some r) : FnOK Tryz.prog 28 [] [.agg (api_Directory_av a0)] (.d (.bool r)) [] := by
  unfold ref23_Valid at h0
  refine fn_ok (nt := 84) (rs := [.tmp 2]) Tryz.func28 rfl Tryz.ntmps28 rfl (by simp) (by decide) rfl fun K => ?_
  refine kr [1] (by simp; rfl) ?_
  refine tr_seq ?_
  replace h0 := bnd h0; obtain ⟨v1, hvv1, h0⟩ := h0
  refine sjv (fun v1_ : Bool => ({ nt := 84, env := [(1, .ptr 1 0), (16, .d (.bool v1_))], box := [(1, [.d (.slice (rowsF (iRow .i64) a0.Kinds)), .d (.slice (rowsF api_Member_row a0.Events))])], vec := [] } : St)) (fun v1_ => v1 = v1_) (fun v1_ e => ?_) ?_
  · subst e
    refine tr_cond (b := v1) (by simp) (fun c3 => ?_) (fun c3 => ?_)
    · rw [if_pos c3] at h0
      refine kr [2] (by simp; rfl) ?_
      cases h0
      exact tr_ret ⟨[], by simp, rfl, by simp⟩
    · rw [if_neg (by rw [c3]; decide)] at h0
      refine tr_skip ?_
      refine tr_seq ?_
      refine kr [1, 18, 19, 20] (by simp; rfl) ?_
      replace h0 := bnd h0; obtain ⟨e1, hI1, h0⟩ := h0
      refine tjv (fun v2 : Unit => ({ nt := 84, env := [(1, .ptr 1 0)], box := [(1, [.d (.slice (rowsF (iRow .i64) a0.Kinds)), .d (.slice (rowsF api_Member_row a0.Events))])], vec := [] } : St)) (fun v2 => .inl v2 = e1) (fun v2 hI1e _ W1 => ?_) ?_
      · subst hI1e
        dsimp only at h0
        refine tr_wk W1 ?_
        refine tr_seq ?_
        refine kr [1, 29, 30, 31] (by simp; rfl) ?_
        replace h0 := bnd h0; obtain ⟨e2, hI2, h0⟩ := h0
        refine tjv (fun v3 : Unit => ({ nt := 84, env := [], box := [], vec := [] } : St)) (fun v3 => .inl v3 = e2) (fun v3 hI2e _ W2 => ?_) ?_
        · subst hI2e
          dsimp only at h0
          refine tr_wk W2 ?_
          refine kr [2] (by simp; rfl) ?_
          cases h0
          exact tr_ret ⟨[], by simp, rfl, by simp⟩
        · refine tr_block (tr_iter (fun s4 : Int => ({ nt := 84, env := [(1, .ptr 1 0), (29, .d (.slice (rowsF api_Member_row a0.Events))), (30, .d (.int .i64 ((a0.Events).length : Int))), (31, .d (.int .i64 s4))], box := [(1, [.d (.slice (rowsF (iRow .i64) a0.Kinds)), .d (.slice (rowsF api_Member_row a0.Events))])], vec := [] } : St)) hI2 (wk (by simp [weak_iff])) fun G2 s4 o2 h2 hg2 he2 => ?_)
          unfold ref23_Valid_l1 at h2
          refine kr [1, 29, 30, 31, 32] (by simp; rfl) ?_
          refine tr_seq ?_
          refine tr_cond (b := (decide (s4 < ((a0.Events).length : Int)))) (by simp) (fun c60 => ?_) (fun c60 => ?_)
          · rw [if_pos c60] at h2
            refine tr_skip ?_
            refine tr_seq ?_
            refine tr_block ?_
            replace h2 := bnd h2; obtain ⟨x5, p11, h2⟩ := h2
            replace p11 := idx_some p11
            have p11' := p11; try simp at p11'
            refine kr [1, 5, 6, 29, 30, 31] (by simp [p11, p11']; rfl) ?_
            replace h2 := bnd h2; obtain ⟨v6, hvv6, h2⟩ := h2
            refine sjv (fun v6_ : Bool => ({ nt := 84, env := [(1, .ptr 1 0), (29, .d (.slice (rowsF api_Member_row a0.Events))), (30, .d (.int .i64 ((a0.Events).length : Int))), (31, .d (.int .i64 s4)), (82, .d (.bool v6_))], box := [(1, [.d (.slice (rowsF (iRow .i64) a0.Kinds)), .d (.slice (rowsF api_Member_row a0.Events))])], vec := [] } : St)) (fun v6_ => v6 = v6_) (fun v6_ e => ?_) ?_
            · subst e
              refine tr_cond (b := v6) (by simp) (fun c109 => ?_) (fun c109 => ?_)
              · rw [if_pos c109] at h2
                refine kr [2] (by simp; rfl) ?_
                have k1 := he2 _ (Option.some.inj h2)
                subst k1
                dsimp only at h0
                cases h0
                exact tr_ret ⟨[], by simp, rfl, by simp⟩
              · rw [if_neg (by rw [c109]; decide)] at h2
                refine tr_skip ?_
                refine lr (by simp; rfl) ?_
                exact ⟨_, hg2 _ (Option.some.inj h2), wk (by simp [weak_iff])⟩
            · refine kd1 [[], [0], [1], [2], [3], [4], [4, 5], [4, 6], [4, 7], [4, 8], [9], [10], [10, 11], [10, 12], [13], [13, 14], [13], [13, 16], [13], [13, 18], [13, 17, 19], [13, 20], [13, 21], [13, 15, 22], [10, 13, 23], [10, 24], [25], [26], [26], [26, 28], [26, 27, 29], [26, 30], [26, 31], [32], [33], [33], [33, 35], [33, 34, 36], [33, 37], [33, 38], [39], [40], [40, 41], [40], [40, 43], [40, 42, 44], [40, 45]] [] [] none [] 47 fol (by decide +kernel) (by simp) ?_
              refine dr_go 0 2 rfl (by simp (maxSteps := 1000000); rfl) ?_
              replace hvv6 := bnd hvv6; obtain ⟨y7, hy7, hvv6⟩ := hvv6
              refine dr_call 2 [] (ref23_in_ok hy7) rfl rfl rfl rfl rfl Tryz.call50 (by simp) ?_
              refine dr_go 3 2 rfl (by simp (maxSteps := 1000000); rfl) ?_
              refine dr_split 4 40 (!y7) (by simp) (fun c126 => ?_) (fun c126 => ?_)
              · rw [if_pos c126] at hvv6
                refine dr_skip 5 84 [some 41, some 42, some 43, some 44] rfl rfl (by decide) (by kernel_rfl) (by simp only [skEf, List.map_cons, List.map_nil, List.cons_append, List.nil_append]; rfl) ?_
                refine dr_go 9 2 rfl (by simp (maxSteps := 1000000); rfl) ?_
                refine dr_skip 11 84 [some 47, some 48, some 49, some 50, some 51, some 52, some 53, some 54, some 55, some 56, some 57, some 58, some 59, some 60] rfl rfl (by decide) (by kernel_rfl) (by simp only [skEf, List.map_cons, List.map_nil, List.cons_append, List.nil_append]; rfl) ?_
                refine dr_go 25 2 rfl (by simp (maxSteps := 1000000); rfl) ?_
                refine dr_skip 27 84 [some 63, some 64, some 65, some 66, some 67] rfl rfl (by decide) (by kernel_rfl) (by simp only [skEf, List.map_cons, List.map_nil, List.cons_append, List.nil_append]; rfl) ?_
                refine dr_go 32 2 rfl (by simp (maxSteps := 1000000); rfl) ?_
                refine dr_skip 34 84 [some 70, some 71, some 72, some 73, some 74] rfl rfl (by decide) (by kernel_rfl) (by simp only [skEf, List.map_cons, List.map_nil, List.cons_append, List.nil_append]; rfl) ?_
                refine dr_go 39 2 rfl (by simp (maxSteps := 1000000); rfl) ?_
                refine dr_skip 41 84 [some 77, some 78, some 79, some 80, some 81] rfl rfl (by decide) (by kernel_rfl) (by simp only [skEf, List.map_cons, List.map_nil, List.cons_append, List.nil_append]; rfl) ?_
                refine dr_go 46 1 rfl (by simp (maxSteps := 1000000); rfl) ?_
                refine dr_end rfl (tops_nil ?_)
                cases hvv6
                exact ⟨_, rfl, wk (by simp [weak_iff])⟩
              · rw [if_neg (by rw [c126]; decide)] at hvv6
                refine dr_go 5 2 rfl (by simp (maxSteps := 1000000); rfl) ?_
                replace hvv6 := bnd hvv6; obtain ⟨y8, hy8, hvv6⟩ := hvv6
                refine dr_call 7 [] (ref23_in_ok hy8) rfl rfl rfl rfl rfl Tryz.call50 (by simp) ?_
                refine dr_go 8 2 rfl (by simp (maxSteps := 1000000); rfl) ?_
                refine dr_go 10 1 rfl (by simp (maxSteps := 1000000); rfl) ?_
                refine dr_split 10 46 (!y8) (by simp) (fun c127 => ?_) (fun c127 => ?_)
                · rw [if_pos c127] at hvv6
                  refine dr_skip 11 84 [some 47, some 48, some 49, some 50, some 51, some 52, some 53, some 54, some 55, some 56, some 57, some 58, some 59, some 60] rfl rfl (by decide) (by kernel_rfl) (by simp only [skEf, List.map_cons, List.map_nil, List.cons_append, List.nil_append]; rfl) ?_
                  refine dr_go 25 2 rfl (by simp (maxSteps := 1000000); rfl) ?_
                  refine dr_skip 27 84 [some 63, some 64, some 65, some 66, some 67] rfl rfl (by decide) (by kernel_rfl) (by simp only [skEf, List.map_cons, List.map_nil, List.cons_append, List.nil_append]; rfl) ?_
                  refine dr_go 32 2 rfl (by simp (maxSteps := 1000000); rfl) ?_
                  refine dr_skip 34 84 [some 70, some 71, some 72, some 73, some 74] rfl rfl (by decide) (by kernel_rfl) (by simp only [skEf, List.map_cons, List.map_nil, List.cons_append, List.nil_append]; rfl) ?_
                  refine dr_go 39 2 rfl (by simp (maxSteps := 1000000); rfl) ?_
                  refine dr_skip 41 84 [some 77, some 78, some 79, some 80, some 81] rfl rfl (by decide) (by kernel_rfl) (by simp only [skEf, List.map_cons, List.map_nil, List.cons_append, List.nil_append]; rfl) ?_
                  refine dr_go 46 1 rfl (by simp (maxSteps := 1000000); rfl) ?_
                  refine dr_end rfl (tops_nil ?_)
                  cases hvv6
                  exact ⟨_, rfl, wk (by simp [weak_iff])⟩
                · rw [if_neg (by rw [c127]; decide)] at hvv6
                  refine dr_go 11 2 rfl (by simp (maxSteps := 1000000); rfl) ?_
                  refine dr_go 13 1 rfl (by simp (maxSteps := 1000000); rfl) ?_
                  refine dr_split 13 49 (decide (0 < s4)) (by simp) (fun c128 => ?_) (fun c128 => ?_)
                  · rw [if_pos c128] at hvv6
                    replace hvv6 := bnd hvv6; obtain ⟨x9, p20, hvv6⟩ := hvv6
                    replace p20 := idx_some p20
                    have p20' := p20; try simp at p20'
                    refine dr_go 14 2 rfl (by simp (maxSteps := 1000000) [p20, p20']; rfl) ?_
                    refine dr_go 16 2 rfl (by simp (maxSteps := 1000000) [p20, p20']; rfl) ?_
                    refine dr_go 18 2 rfl (by simp (maxSteps := 1000000) [p20, p20']; rfl) ?_
                    refine dr_go 20 2 rfl (by simp (maxSteps := 1000000) [p20, p20']; rfl) ?_
                    refine dr_go 22 2 rfl (by simp (maxSteps := 1000000) [p20, p20']; rfl) ?_
                    refine dr_go 24 2 rfl (by simp (maxSteps := 1000000) [p20, p20']; rfl) ?_
                    refine dr_go 26 1 rfl (by simp (maxSteps := 1000000) [p20, p20']; rfl) ?_
                    refine dr_split 26 62 (decide (x5.Time < x9.Time)) (by simp) (fun c129 => ?_) (fun c129 => ?_)
                    · rw [if_pos c129] at hvv6
                      refine dr_skip 27 84 [some 63, some 64, some 65, some 66, some 67] rfl rfl (by decide) (by kernel_rfl) (by simp only [skEf, List.map_cons, List.map_nil, List.cons_append, List.nil_append]; rfl) ?_
                      refine dr_go 32 2 rfl (by simp (maxSteps := 1000000); rfl) ?_
                      refine dr_skip 34 84 [some 70, some 71, some 72, some 73, some 74] rfl rfl (by decide) (by kernel_rfl) (by simp only [skEf, List.map_cons, List.map_nil, List.cons_append, List.nil_append]; rfl) ?_
                      refine dr_go 39 2 rfl (by simp (maxSteps := 1000000); rfl) ?_
                      refine dr_skip 41 84 [some 77, some 78, some 79, some 80, some 81] rfl rfl (by decide) (by kernel_rfl) (by simp only [skEf, List.map_cons, List.map_nil, List.cons_append, List.nil_append]; rfl) ?_
                      refine dr_go 46 1 rfl (by simp (maxSteps := 1000000); rfl) ?_
                      refine dr_end rfl (tops_nil ?_)
                      cases hvv6
                      exact ⟨_, rfl, wk (by simp [weak_iff])⟩
                    · rw [if_neg (by rw [c129]; decide)] at hvv6
                      refine dr_go 27 2 rfl (by simp (maxSteps := 1000000); rfl) ?_
                      refine dr_go 29 1 rfl (by simp (maxSteps := 1000000); rfl) ?_
                      replace hvv6 := bnd hvv6; obtain ⟨y10, hy10, hvv6⟩ := hvv6
                      refine dr_call 30 [] (ref23_Exists_ok hy10) rfl rfl rfl rfl rfl Tryz.call30 (by simp) ?_
                      refine dr_go 31 2 rfl (by simp (maxSteps := 1000000); rfl) ?_
                      refine dr_go 33 1 rfl (by simp (maxSteps := 1000000); rfl) ?_
                      refine dr_split 33 69 (!y10) (by simp) (fun c130 => ?_) (fun c130 => ?_)
                      · rw [if_pos c130] at hvv6
                        refine dr_skip 34 84 [some 70, some 71, some 72, some 73, some 74] rfl rfl (by decide) (by kernel_rfl) (by simp only [skEf, List.map_cons, List.map_nil, List.cons_append, List.nil_append]; rfl) ?_
                        refine dr_go 39 2 rfl (by simp (maxSteps := 1000000); rfl) ?_
                        refine dr_skip 41 84 [some 77, some 78, some 79, some 80, some 81] rfl rfl (by decide) (by kernel_rfl) (by simp only [skEf, List.map_cons, List.map_nil, List.cons_append, List.nil_append]; rfl) ?_
                        refine dr_go 46 1 rfl (by simp (maxSteps := 1000000); rfl) ?_
                        refine dr_end rfl (tops_nil ?_)
                        cases hvv6
                        exact ⟨_, rfl, wk (by simp [weak_iff])⟩
                      · rw [if_neg (by rw [c130]; decide)] at hvv6
                        refine dr_go 34 2 rfl (by simp (maxSteps := 1000000); rfl) ?_
                        refine dr_go 36 1 rfl (by simp (maxSteps := 1000000); rfl) ?_
                        replace hvv6 := bnd hvv6; obtain ⟨y11, hy11, hvv6⟩ := hvv6
                        refine dr_call 37 [] (ref23_Group_ok hy11) rfl rfl rfl rfl rfl Tryz.call51 (by simp) ?_
                        refine dr_go 38 2 rfl (by simp (maxSteps := 1000000); rfl) ?_
                        refine dr_go 40 1 rfl (by simp (maxSteps := 1000000); rfl) ?_
                        refine dr_split 40 76 (!y11) (by simp) (fun c131 => ?_) (fun c131 => ?_)
                        · rw [if_pos c131] at hvv6
                          refine dr_skip 41 84 [some 77, some 78, some 79, some 80, some 81] rfl rfl (by decide) (by kernel_rfl) (by simp only [skEf, List.map_cons, List.map_nil, List.cons_append, List.nil_append]; rfl) ?_
                          refine dr_go 46 1 rfl (by simp (maxSteps := 1000000); rfl) ?_
                          refine dr_end rfl (tops_nil ?_)
                          cases hvv6
                          exact ⟨_, rfl, wk (by simp [weak_iff])⟩
                        · rw [if_neg (by rw [c131]; decide)] at hvv6
                          refine dr_go 41 2 rfl (by simp (maxSteps := 1000000); rfl) ?_
                          refine dr_go 43 2 rfl (by simp (maxSteps := 1000000); rfl) ?_
                          refine dr_go 45 2 rfl (by simp (maxSteps := 1000000); rfl) ?_
                          refine dr_end rfl (tops_nil ?_)
                          cases hvv6
                          exact ⟨_, rfl, wk (by simp [weak_iff])⟩
                  · rw [if_neg (by rw [c128]; decide)] at hvv6
                    refine dr_skip 14 84 [some 50, some 51, some 52, some 53, some 54, some 55, some 56, some 57, some 58, some 59] rfl rfl (by decide) (by kernel_rfl) (by simp only [skEf, List.map_cons, List.map_nil, List.cons_append, List.nil_append]; rfl) ?_
                    refine dr_go 24 2 rfl (by simp (maxSteps := 1000000); rfl) ?_
                    refine dr_go 26 2 rfl (by simp (maxSteps := 1000000); rfl) ?_
                    refine dr_go 28 2 rfl (by simp (maxSteps := 1000000); rfl) ?_
                    replace hvv6 := bnd hvv6; obtain ⟨y12, hy12, hvv6⟩ := hvv6
                    refine dr_call 30 [] (ref23_Exists_ok hy12) rfl rfl rfl rfl rfl Tryz.call30 (by simp) ?_
                    refine dr_go 31 2 rfl (by simp (maxSteps := 1000000); rfl) ?_
                    refine dr_go 33 1 rfl (by simp (maxSteps := 1000000); rfl) ?_
                    refine dr_split 33 69 (!y12) (by simp) (fun c132 => ?_) (fun c132 => ?_)
                    · rw [if_pos c132] at hvv6
                      refine dr_skip 34 84 [some 70, some 71, some 72, some 73, some 74] rfl rfl (by decide) (by kernel_rfl) (by simp only [skEf, List.map_cons, List.map_nil, List.cons_append, List.nil_append]; rfl) ?_
                      refine dr_go 39 2 rfl (by simp (maxSteps := 1000000); rfl) ?_
                      refine dr_skip 41 84 [some 77, some 78, some 79, some 80, some 81] rfl rfl (by decide) (by kernel_rfl) (by simp only [skEf, List.map_cons, List.map_nil, List.cons_append, List.nil_append]; rfl) ?_
                      refine dr_go 46 1 rfl (by simp (maxSteps := 1000000); rfl) ?_
                      refine dr_end rfl (tops_nil ?_)
                      cases hvv6
                      exact ⟨_, rfl, wk (by simp [weak_iff])⟩
                    · rw [if_neg (by rw [c132]; decide)] at hvv6
                      refine dr_go 34 2 rfl (by simp (maxSteps := 1000000); rfl) ?_
                      refine dr_go 36 1 rfl (by simp (maxSteps := 1000000); rfl) ?_
                      replace hvv6 := bnd hvv6; obtain ⟨y13, hy13, hvv6⟩ := hvv6
                      refine dr_call 37 [] (ref23_Group_ok hy13) rfl rfl rfl rfl rfl Tryz.call51 (by simp) ?_
                      refine dr_go 38 2 rfl (by simp (maxSteps := 1000000); rfl) ?_
                      refine dr_go 40 1 rfl (by simp (maxSteps := 1000000); rfl) ?_
                      refine dr_split 40 76 (!y13) (by simp) (fun c133 => ?_) (fun c133 => ?_)
                      · rw [if_pos c133] at hvv6
                        refine dr_skip 41 84 [some 77, some 78, some 79, some 80, some 81] rfl rfl (by decide) (by kernel_rfl) (by simp only [skEf, List.map_cons, List.map_nil, List.cons_append, List.nil_append]; rfl) ?_
                        refine dr_go 46 1 rfl (by simp (maxSteps := 1000000); rfl) ?_
                        refine dr_end rfl (tops_nil ?_)
                        cases hvv6
                        exact ⟨_, rfl, wk (by simp [weak_iff])⟩
                      · rw [if_neg (by rw [c133]; decide)] at hvv6
                        refine dr_go 41 2 rfl (by simp (maxSteps := 1000000); rfl) ?_
                        refine dr_go 43 2 rfl (by simp (maxSteps := 1000000); rfl) ?_
                        refine dr_go 45 2 rfl (by simp (maxSteps := 1000000); rfl) ?_
                        refine dr_end rfl (tops_nil ?_)
                        cases hvv6
                        exact ⟨_, rfl, wk (by simp [weak_iff])⟩
          · rw [if_neg (by rw [c60]; decide)] at h2
            refine tr_exit ?_
            exact ⟨_, he2 _ (Option.some.inj h2), wk (by simp [weak_iff])⟩
      · refine tr_block (tr_iter (fun s16 : Int => ({ nt := 84, env := [(1, .ptr 1 0), (18, .d (.slice (rowsF (iRow .i64) a0.Kinds))), (19, .d (.int .i64 ((a0.Kinds).length : Int))), (20, .d (.int .i64 s16))], box := [(1, [.d (.slice (rowsF (iRow .i64) a0.Kinds)), .d (.slice (rowsF api_Member_row a0.Events))])], vec := [] } : St)) hI1 (wk (by simp [weak_iff])) fun G2 s16 o2 h2 hg2 he2 => ?_)
        unfold ref23_Valid_l0 at h2
        refine kr [1, 18, 19, 20, 21] (by simp; rfl) ?_
        refine tr_seq ?_
        refine tr_cond (b := (decide (s16 < ((a0.Kinds).length : Int)))) (by simp) (fun c134 => ?_) (fun c134 => ?_)
        · rw [if_pos c134] at h2
          refine tr_skip ?_
          refine tr_seq ?_
          refine tr_block ?_
          replace h2 := bnd h2; obtain ⟨x17, p21, h2⟩ := h2
          replace p21 := idx_some p21
          have p21' := p21; try simp at p21'
          refine kr [1, 4, 18, 19, 20] (by simp [p21, p21']; rfl) ?_
          refine kc ?_
          refine ko [1, 18, 19, 20, 24] 1 (by simp; rfl) ?_
          replace h2 := bnd h2; obtain ⟨y18, hy18, h2⟩ := h2
          refine kcall [1, 18, 19, 20, 25] [] (ref23_in_ok hy18) rfl rfl rfl Tryz.call50 (by simp) (by simp; rfl) ?_
          refine ko [1, 18, 19, 20, 26] 1 (by simp; rfl) ?_
          refine tops_nil ?_
          refine tr_cond (b := (!y18)) (by simp) (fun c135 => ?_) (fun c135 => ?_)
          · rw [if_pos c135] at h2
            refine kr [2] (by simp; rfl) ?_
            have k1 := he2 _ (Option.some.inj h2)
            subst k1
            dsimp only at h0
            cases h0
            exact tr_ret ⟨[], by simp, rfl, by simp⟩
          · rw [if_neg (by rw [c135]; decide)] at h2
            refine tr_skip ?_
            refine lr (by simp; rfl) ?_
            exact ⟨_, hg2 _ (Option.some.inj h2), wk (by simp [weak_iff])⟩
        · rw [if_neg (by rw [c134]; decide)] at h2
          refine tr_exit ?_
          exact ⟨_, he2 _ (Option.some.inj h2), wk (by simp [weak_iff])⟩
  · refine kc1 ?_
    refine ko [1, 11] 5 (by simp; rfl) ?_
    refine tops_split 11 (decide (24 < ((a0.Kinds).length : Int))) (by simp) (fun c136 => ?_) (fun c136 => ?_)
    · rw [c136] at hvv1
      refine kskip 4 [] (by kernel_rfl) ?_
      refine ko [1, 16] 1 (by simp; rfl) ?_
      refine tops_nil ?_
      cases hvv1
      exact ⟨_, rfl, wk (by simp [weak_iff])⟩
    · rw [c136] at hvv1
      refine ko [1, 16] 5 (by simp; rfl) ?_
      refine tops_nil ?_
      cases hvv1
      exact ⟨_, rfl, wk (by simp [weak_iff])⟩
set_option maxHeartbeats 1000000 in
theorem ref41_in_ok {a0 : Int} {a1 : Int} {a2 : Int} {r : Bool} (h0 : ref41_in a0 a1 a2 = some r) : FnOK Tryz.prog 29 [] [.d (.int .i64 a0), .d (.int .i64 a1), .d (.int .i64 a2)] (.d (.bool r)) [] := by
  unfold ref41_in at h0
  refine fn_ok (nt := 15) (rs := [.tmp 6]) Tryz.func29 rfl Tryz.ntmps29 rfl (by simp) (by decide) rfl fun K => ?_
  refine kr [0, 1, 2] (by simp; rfl) ?_
  replace h0 := bnd h0; obtain ⟨v1, hvv1, h0⟩ := h0
  refine sjv (fun v1_ : Bool => ({ nt := 15, env := [(6, .d (.bool v1_))], box := [], vec := [] } : St)) (fun v1_ => v1 = v1_) (fun v1_ e => ?_) ?_
  · subst e
    cases h0
    exact tr_ret ⟨[], by simp, rfl, by simp⟩
  · refine kc1 ?_
    refine ko [0, 2, 10] 4 (by simp; rfl) ?_
    refine tops_split 10 (decide (a1 ≤ a0)) (by simp) (fun c3 => ?_) (fun c3 => ?_)
    · rw [c3] at hvv1
      refine ko [6] 5 (by simp; rfl) ?_
      refine tops_nil ?_
      cases hvv1
      exact ⟨_, rfl, wk (by simp [weak_iff])⟩
    · rw [c3] at hvv1
      refine kskip 3 [] (by kernel_rfl) ?_
      refine ko [6] 2 (by simp; rfl) ?_
      refine tops_nil ?_
      cases hvv1
      exact ⟨_, rfl, wk (by simp [weak_iff])⟩
set_option maxHeartbeats 1000000 in
theorem ref41_Check_ok {a0 : api_Directory} {a1 : List api_Case} {r : Int} (h0 : ref41_Check a0 a1 = some r) : FnOK Tryz.prog 14 [] [.agg (api_Directory_av a0), .d (.slice (rowsF api_Case_row a1))] (.d (.int .i64 r)) [] := by
  unfold ref41_Check at h0
  refine fn_ok (nt := 91) (rs := [.tmp 4]) Tryz.func14 rfl Tryz.ntmps14 rfl (by simp) (by decide) rfl fun K => ?_
  refine kr [1, 2] (by simp; rfl) ?_
  refine tr_seq ?_
  refine kc ?_
  refine ko [1, 2, 8] 1 (by simp; rfl) ?_
  replace h0 := bnd h0; obtain ⟨y1, hy1, h0⟩ := h0
  refine kcall [1, 2, 9] [] (ref23_Valid_ok hy1) rfl rfl rfl Tryz.call28 (by simp) (by simp; rfl) ?_
  refine ko [1, 2, 10] 1 (by simp; rfl) ?_
  refine tops_nil ?_
  refine tr_cond (b := (!y1)) (by simp) (fun c1 => ?_) (fun c1 => ?_)
  · rw [if_pos c1] at h0
    refine kr [4] (by simp; rfl) ?_
    cases h0
    exact tr_ret ⟨[], by simp, rfl, by simp⟩
  · rw [if_neg (by rw [c1]; decide)] at h0
    refine tr_skip ?_
    refine tr_seq ?_
    refine kr [1, 2, 13] (by simp; rfl) ?_
    refine tr_cond (b := (decide (100 < ((a1).length : Int)))) (by simp) (fun c2 => ?_) (fun c2 => ?_)
    · rw [if_pos c2] at h0
      refine kr [4] (by simp; rfl) ?_
      cases h0
      exact tr_ret ⟨[], by simp, rfl, by simp⟩
    · rw [if_neg (by rw [c2]; decide)] at h0
      refine tr_skip ?_
      refine kr [1, 2, 5] (by simp; rfl) ?_
      refine tr_seq ?_
      refine kr [1, 2, 5, 14, 15, 16] (by simp; rfl) ?_
      replace h0 := bnd h0; obtain ⟨e1, hI1, h0⟩ := h0
      refine tjv (fun v2 : Unit => ({ nt := 91, env := [], box := [], vec := [] } : St)) (fun v2 => .inl v2 = e1) (fun v2 hI1e _ W1 => ?_) ?_
      · subst hI1e
        dsimp only at h0
        refine tr_wk W1 ?_
        refine kr [4] (by simp; rfl) ?_
        cases h0
        exact tr_ret ⟨[], by simp, rfl, by simp⟩
      · refine tr_block (tr_iter (fun s3 : Int × (List Bool) => ({ nt := 91, env := [(1, .d (.slice (rowsF api_Case_row a1))), (2, .ptr 2 0), (5, .ptr 5 0), (14, .d (.slice (rowsF api_Case_row a1))), (15, .d (.int .i64 ((a1).length : Int))), (16, .d (.int .i64 s3.1))], box := [(2, [.d (.slice (rowsF (iRow .i64) a0.Kinds)), .d (.slice (rowsF api_Member_row a0.Events))]), (5, arC bRow s3.2)], vec := [] } : St)) hI1 (wk (by simp [weak_iff])) fun G1 s3 o1 h1 hg1 he1 => ?_)
        unfold ref41_Check_l0 at h1
        refine kr [1, 2, 5, 14, 15, 16, 17] (by simp; rfl) ?_
        refine tr_seq ?_
        refine tr_cond (b := (decide (s3.1 < ((a1).length : Int)))) (by simp) (fun c51 => ?_) (fun c51 => ?_)
        · rw [if_pos c51] at h1
          refine tr_skip ?_
          refine tr_seq ?_
          refine tr_block ?_
          replace h1 := bnd h1; obtain ⟨x4, p21, h1⟩ := h1
          replace p21 := idx_some p21
          have p21' := p21; try simp at p21'
          refine kr [1, 2, 5, 6, 7, 14, 15, 16] (by simp [p21, p21']; rfl) ?_
          refine tr_seq ?_
          replace h1 := bnd h1; obtain ⟨v5, hvv5, h1⟩ := h1
          refine sjv (fun v5_ : Bool => ({ nt := 91, env := [(1, .d (.slice (rowsF api_Case_row a1))), (2, .ptr 2 0), (5, .ptr 5 0), (7, .ptr 7 0), (14, .d (.slice (rowsF api_Case_row a1))), (15, .d (.int .i64 ((a1).length : Int))), (16, .d (.int .i64 s3.1)), (51, .d (.bool v5_))], box := [(2, [.d (.slice (rowsF (iRow .i64) a0.Kinds)), .d (.slice (rowsF api_Member_row a0.Events))]), (5, arC bRow s3.2), (7, [.d (.int .i64 x4.Time), .d (.int .i64 x4.Kind), .d (.int .i64 x4.Case), .d (.int .i64 x4.Level), .d (.int .i64 x4.Owner)])], vec := [] } : St)) (fun v5_ => v5 = v5_) (fun v5_ e => ?_) ?_
          · subst e
            refine tr_cond (b := v5) (by simp) (fun c82 => ?_) (fun c82 => ?_)
            · rw [if_pos c82] at h1
              refine kr [4] (by simp; rfl) ?_
              have k1 := he1 _ (Option.some.inj h1)
              subst k1
              dsimp only at h0
              cases h0
              exact tr_ret ⟨[], by simp, rfl, by simp⟩
            · rw [if_neg (by rw [c82]; decide)] at h1
              refine tr_skip ?_
              refine kr [1, 2, 5, 7, 14, 15, 16, 54] (by simp; rfl) ?_
              refine tr_cond (b := (x4.Kind == 1)) (by simp) (fun c83 => ?_) (fun c83 => ?_)
              · rw [if_pos c83] at h1
                refine tr_seq ?_
                replace h1 := bnd h1; obtain ⟨v6, hvv6, h1⟩ := h1
                refine sjv (fun v6_ : Bool => ({ nt := 91, env := [(1, .d (.slice (rowsF api_Case_row a1))), (2, .ptr 2 0), (5, .ptr 5 0), (7, .ptr 7 0), (14, .d (.slice (rowsF api_Case_row a1))), (15, .d (.int .i64 ((a1).length : Int))), (16, .d (.int .i64 s3.1)), (71, .d (.bool v6_))], box := [(2, [.d (.slice (rowsF (iRow .i64) a0.Kinds)), .d (.slice (rowsF api_Member_row a0.Events))]), (5, arC bRow s3.2), (7, [.d (.int .i64 x4.Time), .d (.int .i64 x4.Kind), .d (.int .i64 x4.Case), .d (.int .i64 x4.Level), .d (.int .i64 x4.Owner)])], vec := [] } : St)) (fun v6_ => v6 = v6_) (fun v6_ e => ?_) ?_
                · subst e
                  refine tr_cond (b := v6) (by simp) (fun c88 => ?_) (fun c88 => ?_)
                  · rw [if_pos c88] at h1
                    refine kr [4] (by simp; rfl) ?_
                    have k1 := he1 _ (Option.some.inj h1)
                    subst k1
                    dsimp only at h0
                    cases h0
                    exact tr_ret ⟨[], by simp, rfl, by simp⟩
                  · rw [if_neg (by rw [c88]; decide)] at h1
                    refine tr_skip ?_
                    replace h1 := bnd h1; obtain ⟨_, p32, h1⟩ := h1
                    replace p32 := ck_some p32
                    have p32' := p32; try simp at p32'
                    replace h1 := bnd h1; obtain ⟨_, p33, h1⟩ := h1
                    replace p33 := ck_some p33
                    refine lr (by simp [p32, show (Int.toNat x4.Case) + 1 ≤ (s3.2).length from p33, arC_putB p33, p32']; rfl) ?_
                    refine lr (by simp; rfl) ?_
                    exact ⟨_, hg1 _ (Option.some.inj h1), wk (by simp [weak_iff])⟩
                · refine kc1 ?_
                  replace hvv6 := bnd hvv6; obtain ⟨_, p34, hvv6⟩ := hvv6
                  replace p34 := ck_some p34
                  have p34' := p34; try simp at p34'
                  replace hvv6 := bnd hvv6; obtain ⟨x7, p35, hvv6⟩ := hvv6
                  replace p35 := idx_some p35
                  have p35' := p35; try simp at p35'
                  refine ko [1, 2, 5, 7, 14, 15, 16, 59] 5 (by simp [p34, p35, p34', p35']; rfl) ?_
                  refine tops_split 59 x7 (by simp) (fun c89 => ?_) (fun c89 => ?_)
                  · rw [if_pos c89] at hvv6
                    refine kskip 4 [] (by kernel_rfl) ?_
                    refine ko [1, 2, 5, 7, 14, 15, 16, 65] 2 (by simp; rfl) ?_
                    refine kskip 5 [] (by kernel_rfl) ?_
                    refine ko [1, 2, 5, 7, 14, 15, 16, 71] 1 (by simp; rfl) ?_
                    refine tops_nil ?_
                    cases hvv6
                    exact ⟨_, rfl, wk (by simp [weak_iff])⟩
                  · rw [if_neg (by rw [c89]; decide)] at hvv6
                    refine ko [1, 2, 5, 7, 14, 15, 16, 59, 60, 61] 2 (by simp; rfl) ?_
                    replace hvv6 := bnd hvv6; obtain ⟨y8, hy8, hvv6⟩ := hvv6
                    refine kcall [1, 2, 5, 7, 14, 15, 16, 59, 60, 61, 62] [] (ref41_in_ok hy8) rfl rfl rfl Tryz.call29 (by simp) (by simp; rfl) ?_
                    refine ko [1, 2, 5, 7, 14, 15, 16, 60, 61, 62, 63, 65] 3 (by simp; rfl) ?_
                    refine tops_split 65 (!y8) (by simp) (fun c90 => ?_) (fun c90 => ?_)
                    · rw [if_pos c90] at hvv6
                      refine kskip 5 [] (by kernel_rfl) ?_
                      refine ko [1, 2, 5, 7, 14, 15, 16, 60, 61, 62, 63, 71] 1 (by simp; rfl) ?_
                      refine tops_nil ?_
                      cases hvv6
                      exact ⟨_, rfl, wk (by simp [weak_iff])⟩
                    · rw [if_neg (by rw [c90]; decide)] at hvv6
                      refine ko [1, 2, 5, 7, 14, 15, 16, 60, 61, 62, 63, 65, 66, 67, 68] 3 (by simp; rfl) ?_
                      replace hvv6 := bnd hvv6; obtain ⟨y9, hy9, hvv6⟩ := hvv6
                      refine kcall [1, 2, 5, 7, 14, 15, 16, 60, 61, 62, 63, 65, 66, 67, 68, 69] [] (ref23_Exists_ok hy9) rfl rfl rfl Tryz.call30 (by simp) (by simp; rfl) ?_
                      refine ko [1, 2, 5, 7, 14, 15, 16, 60, 61, 62, 63, 66, 67, 68, 69, 70, 71] 2 (by simp; rfl) ?_
                      refine tops_nil ?_
                      cases hvv6
                      exact ⟨_, rfl, wk (by simp [weak_iff])⟩
              · rw [if_neg (by rw [c83]; decide)] at h1
                replace h1 := bnd h1; obtain ⟨v10, hvv10, h1⟩ := h1
                refine sjv (fun v10_ : Bool => ({ nt := 91, env := [(1, .d (.slice (rowsF api_Case_row a1))), (2, .ptr 2 0), (5, .ptr 5 0), (14, .d (.slice (rowsF api_Case_row a1))), (15, .d (.int .i64 ((a1).length : Int))), (16, .d (.int .i64 s3.1)), (89, .d (.bool v10_))], box := [(2, [.d (.slice (rowsF (iRow .i64) a0.Kinds)), .d (.slice (rowsF api_Member_row a0.Events))]), (5, arC bRow s3.2)], vec := [] } : St)) (fun v10_ => v10 = v10_) (fun v10_ e => ?_) ?_
                · subst e
                  refine tr_cond (b := v10) (by simp) (fun c95 => ?_) (fun c95 => ?_)
                  · rw [if_pos c95] at h1
                    refine kr [4] (by simp; rfl) ?_
                    have k1 := he1 _ (Option.some.inj h1)
                    subst k1
                    dsimp only at h0
                    cases h0
                    exact tr_ret ⟨[], by simp, rfl, by simp⟩
                  · rw [if_neg (by rw [c95]; decide)] at h1
                    refine tr_skip ?_
                    refine lr (by simp; rfl) ?_
                    exact ⟨_, hg1 _ (Option.some.inj h1), wk (by simp [weak_iff])⟩
                · refine kc1 ?_
                  replace hvv10 := bnd hvv10; obtain ⟨_, p40, hvv10⟩ := hvv10
                  replace p40 := ck_some p40
                  have p40' := p40; try simp at p40'
                  replace hvv10 := bnd hvv10; obtain ⟨x11, p41, hvv10⟩ := hvv10
                  replace p41 := idx_some p41
                  have p41' := p41; try simp at p41'
                  refine ko [1, 2, 5, 7, 14, 15, 16, 80] 6 (by simp [p40, p41, p40', p41']; rfl) ?_
                  refine tops_split 80 (!x11) (by simp) (fun c96 => ?_) (fun c96 => ?_)
                  · rw [if_pos c96] at hvv10
                    refine kskip 3 [] (by kernel_rfl) ?_
                    refine ko [1, 2, 5, 7, 14, 15, 16, 85] 2 (by simp; rfl) ?_
                    refine kskip 3 [] (by kernel_rfl) ?_
                    refine ko [1, 2, 5, 14, 15, 16, 89] 1 (by simp; rfl) ?_
                    refine tops_nil ?_
                    cases hvv10
                    exact ⟨_, rfl, wk (by simp [weak_iff])⟩
                  · rw [if_neg (by rw [c96]; decide)] at hvv10
                    refine ko [1, 2, 5, 7, 14, 15, 16, 81, 82, 83, 85] 5 (by simp; rfl) ?_
                    refine tops_split 85 (x4.Level != 0) (by simp) (fun c97 => ?_) (fun c97 => ?_)
                    · rw [if_pos c97] at hvv10
                      refine kskip 3 [] (by kernel_rfl) ?_
                      refine ko [1, 2, 5, 14, 15, 16, 81, 82, 83, 89] 1 (by simp; rfl) ?_
                      refine tops_nil ?_
                      cases hvv10
                      exact ⟨_, rfl, wk (by simp [weak_iff])⟩
                    · rw [if_neg (by rw [c97]; decide)] at hvv10
                      refine ko [1, 2, 5, 14, 15, 16, 81, 82, 83, 86, 87, 88, 89] 4 (by simp; rfl) ?_
                      refine tops_nil ?_
                      cases hvv10
                      exact ⟨_, rfl, wk (by simp [weak_iff])⟩
          · refine kd1 [[], [0], [1], [2], [3], [4], [4, 5], [4, 6], [7], [7, 8], [7], [7], [7, 11], [7, 10, 12], [7, 13], [7, 14], [7, 9, 15], [4, 7, 16], [4, 17], [18], [19], [19, 20], [19, 21], [19, 22], [19, 23], [24], [25], [25, 26], [25, 27], [25, 28], [25, 29]] [] [] none [] 31 fol (by decide +kernel) (by simp) ?_
            refine dr_go 0 2 rfl (by simp (maxSteps := 1000000); rfl) ?_
            replace hvv5 := bnd hvv5; obtain ⟨y12, hy12, hvv5⟩ := hvv5
            refine dr_call 2 [] (ref41_in_ok hy12) rfl rfl rfl rfl rfl Tryz.call29 (by simp) ?_
            refine dr_go 3 2 rfl (by simp (maxSteps := 1000000); rfl) ?_
            refine dr_split 4 25 (!y12) (by simp) (fun c108 => ?_) (fun c108 => ?_)
            · rw [if_pos c108] at hvv5
              refine dr_skip 5 91 [some 26, some 27, some 28, some 29, some 30, some 31, some 32, some 33, some 34, some 35, some 36, some 37, some 38] rfl rfl (by decide) (by kernel_rfl) (by simp only [skEf, List.map_cons, List.map_nil, List.cons_append, List.nil_append]; rfl) ?_
              refine dr_go 18 2 rfl (by simp (maxSteps := 1000000); rfl) ?_
              refine dr_skip 20 91 [some 41, some 42, some 43, some 44] rfl rfl (by decide) (by kernel_rfl) (by simp only [skEf, List.map_cons, List.map_nil, List.cons_append, List.nil_append]; rfl) ?_
              refine dr_go 24 2 rfl (by simp (maxSteps := 1000000); rfl) ?_
              refine dr_skip 26 91 [some 47, some 48, some 49, some 50] rfl rfl (by decide) (by kernel_rfl) (by simp only [skEf, List.map_cons, List.map_nil, List.cons_append, List.nil_append]; rfl) ?_
              refine dr_go 30 1 rfl (by simp (maxSteps := 1000000); rfl) ?_
              refine dr_end rfl (tops_nil ?_)
              cases hvv5
              exact ⟨_, rfl, wk (by simp [weak_iff])⟩
            · rw [if_neg (by rw [c108]; decide)] at hvv5
              refine dr_go 5 2 rfl (by simp (maxSteps := 1000000); rfl) ?_
              refine dr_go 7 1 rfl (by simp (maxSteps := 1000000); rfl) ?_
              refine dr_split 7 28 (decide (0 < s3.1)) (by simp) (fun c109 => ?_) (fun c109 => ?_)
              · rw [if_pos c109] at hvv5
                replace hvv5 := bnd hvv5; obtain ⟨x13, p44, hvv5⟩ := hvv5
                replace p44 := idx_some p44
                have p44' := p44; try simp at p44'
                refine dr_go 8 2 rfl (by simp (maxSteps := 1000000) [p44, p44']; rfl) ?_
                refine dr_go 10 2 rfl (by simp (maxSteps := 1000000) [p44, p44']; rfl) ?_
                refine dr_go 12 2 rfl (by simp (maxSteps := 1000000) [p44, p44']; rfl) ?_
                refine dr_go 14 2 rfl (by simp (maxSteps := 1000000) [p44, p44']; rfl) ?_
                refine dr_go 16 2 rfl (by simp (maxSteps := 1000000) [p44, p44']; rfl) ?_
                refine dr_go 18 2 rfl (by simp (maxSteps := 1000000) [p44, p44']; rfl) ?_
                refine dr_split 19 40 (decide (x4.Time < x13.Time)) (by simp) (fun c110 => ?_) (fun c110 => ?_)
                · rw [if_pos c110] at hvv5
                  refine dr_skip 20 91 [some 41, some 42, some 43, some 44] rfl rfl (by decide) (by kernel_rfl) (by simp only [skEf, List.map_cons, List.map_nil, List.cons_append, List.nil_append]; rfl) ?_
                  refine dr_go 24 2 rfl (by simp (maxSteps := 1000000); rfl) ?_
                  refine dr_skip 26 91 [some 47, some 48, some 49, some 50] rfl rfl (by decide) (by kernel_rfl) (by simp only [skEf, List.map_cons, List.map_nil, List.cons_append, List.nil_append]; rfl) ?_
                  refine dr_go 30 1 rfl (by simp (maxSteps := 1000000); rfl) ?_
                  refine dr_end rfl (tops_nil ?_)
                  cases hvv5
                  exact ⟨_, rfl, wk (by simp [weak_iff])⟩
                · rw [if_neg (by rw [c110]; decide)] at hvv5
                  refine dr_go 20 2 rfl (by simp (maxSteps := 1000000); rfl) ?_
                  replace hvv5 := bnd hvv5; obtain ⟨y14, hy14, hvv5⟩ := hvv5
                  refine dr_call 22 [] (ref41_in_ok hy14) rfl rfl rfl rfl rfl Tryz.call29 (by simp) ?_
                  refine dr_go 23 2 rfl (by simp (maxSteps := 1000000); rfl) ?_
                  refine dr_go 25 1 rfl (by simp (maxSteps := 1000000); rfl) ?_
                  refine dr_split 25 46 (!y14) (by simp) (fun c111 => ?_) (fun c111 => ?_)
                  · rw [if_pos c111] at hvv5
                    refine dr_skip 26 91 [some 47, some 48, some 49, some 50] rfl rfl (by decide) (by kernel_rfl) (by simp only [skEf, List.map_cons, List.map_nil, List.cons_append, List.nil_append]; rfl) ?_
                    refine dr_go 30 1 rfl (by simp (maxSteps := 1000000); rfl) ?_
                    refine dr_end rfl (tops_nil ?_)
                    cases hvv5
                    exact ⟨_, rfl, wk (by simp [weak_iff])⟩
                  · rw [if_neg (by rw [c111]; decide)] at hvv5
                    refine dr_go 26 2 rfl (by simp (maxSteps := 1000000); rfl) ?_
                    replace hvv5 := bnd hvv5; obtain ⟨y15, hy15, hvv5⟩ := hvv5
                    refine dr_call 28 [] (ref41_in_ok hy15) rfl rfl rfl rfl rfl Tryz.call29 (by simp) ?_
                    refine dr_go 29 2 rfl (by simp (maxSteps := 1000000); rfl) ?_
                    refine dr_end rfl (tops_nil ?_)
                    cases hvv5
                    exact ⟨_, rfl, wk (by simp [weak_iff])⟩
              · rw [if_neg (by rw [c109]; decide)] at hvv5
                refine dr_skip 8 91 [some 29, some 30, some 31, some 32, some 33, some 34, some 35, some 36, some 37] rfl rfl (by decide) (by kernel_rfl) (by simp only [skEf, List.map_cons, List.map_nil, List.cons_append, List.nil_append]; rfl) ?_
                refine dr_go 17 2 rfl (by simp (maxSteps := 1000000); rfl) ?_
                refine dr_go 19 2 rfl (by simp (maxSteps := 1000000); rfl) ?_
                refine dr_go 21 1 rfl (by simp (maxSteps := 1000000); rfl) ?_
                replace hvv5 := bnd hvv5; obtain ⟨y16, hy16, hvv5⟩ := hvv5
                refine dr_call 22 [] (ref41_in_ok hy16) rfl rfl rfl rfl rfl Tryz.call29 (by simp) ?_
                refine dr_go 23 2 rfl (by simp (maxSteps := 1000000); rfl) ?_
                refine dr_go 25 1 rfl (by simp (maxSteps := 1000000); rfl) ?_
                refine dr_split 25 46 (!y16) (by simp) (fun c112 => ?_) (fun c112 => ?_)
                · rw [if_pos c112] at hvv5
                  refine dr_skip 26 91 [some 47, some 48, some 49, some 50] rfl rfl (by decide) (by kernel_rfl) (by simp only [skEf, List.map_cons, List.map_nil, List.cons_append, List.nil_append]; rfl) ?_
                  refine dr_go 30 1 rfl (by simp (maxSteps := 1000000); rfl) ?_
                  refine dr_end rfl (tops_nil ?_)
                  cases hvv5
                  exact ⟨_, rfl, wk (by simp [weak_iff])⟩
                · rw [if_neg (by rw [c112]; decide)] at hvv5
                  refine dr_go 26 2 rfl (by simp (maxSteps := 1000000); rfl) ?_
                  replace hvv5 := bnd hvv5; obtain ⟨y17, hy17, hvv5⟩ := hvv5
                  refine dr_call 28 [] (ref41_in_ok hy17) rfl rfl rfl rfl rfl Tryz.call29 (by simp) ?_
                  refine dr_go 29 2 rfl (by simp (maxSteps := 1000000); rfl) ?_
                  refine dr_end rfl (tops_nil ?_)
                  cases hvv5
                  exact ⟨_, rfl, wk (by simp [weak_iff])⟩
        · rw [if_neg (by rw [c51]; decide)] at h1
          refine tr_exit ?_
          exact ⟨_, he1 _ (Option.some.inj h1), wk (by simp [weak_iff])⟩
set_option maxHeartbeats 1000000 in
theorem ref40_in_ok {a0 : Int} {a1 : Int} {a2 : Int} {r : Bool} (h0 : ref40_in a0 a1 a2 = some r) : FnOK Tryz.prog 65 [] [.d (.int .i64 a0), .d (.int .i64 a1), .d (.int .i64 a2)] (.d (.bool r)) [] := by
  unfold ref40_in at h0
  refine fn_ok (nt := 15) (rs := [.tmp 6]) Tryz.func65 rfl Tryz.ntmps65 rfl (by simp) (by decide) rfl fun K => ?_
  refine kr [0, 1, 2] (by simp; rfl) ?_
  replace h0 := bnd h0; obtain ⟨v1, hvv1, h0⟩ := h0
  refine sjv (fun v1_ : Bool => ({ nt := 15, env := [(6, .d (.bool v1_))], box := [], vec := [] } : St)) (fun v1_ => v1 = v1_) (fun v1_ e => ?_) ?_
  · subst e
    cases h0
    exact tr_ret ⟨[], by simp, rfl, by simp⟩
  · refine kc1 ?_
    refine ko [0, 2, 10] 4 (by simp; rfl) ?_
    refine tops_split 10 (decide (a1 ≤ a0)) (by simp) (fun c3 => ?_) (fun c3 => ?_)
    · rw [c3] at hvv1
      refine ko [6] 5 (by simp; rfl) ?_
      refine tops_nil ?_
      cases hvv1
      exact ⟨_, rfl, wk (by simp [weak_iff])⟩
    · rw [c3] at hvv1
      refine kskip 3 [] (by kernel_rfl) ?_
      refine ko [6] 2 (by simp; rfl) ?_
      refine tops_nil ?_
      cases hvv1
      exact ⟨_, rfl, wk (by simp [weak_iff])⟩
set_option maxHeartbeats 1000000 in
theorem ref40_Valid_ok {a0 : api_Calendar} {r : Bool} (h0 : ref40_Valid a0 = some r) : FnOK Tryz.prog 61 [] [.agg (api_Calendar_av a0)] (.d (.bool r)) [] := by
  unfold ref40_Valid at h0
  refine fn_ok (nt := 65) (rs := [.tmp 2]) Tryz.func61 rfl Tryz.ntmps61 rfl (by simp) (by decide) rfl fun K => ?_
  refine kr [1] (by simp; rfl) ?_
  refine tr_seq ?_
  replace h0 := bnd h0; obtain ⟨v1, hvv1, h0⟩ := h0
  refine sjv (fun v1_ : Bool => ({ nt := 65, env := [(1, .ptr 1 0), (39, .d (.bool v1_))], box := [(1, [.d (.int .i64 a0.Day), .d (.int .i64 a0.From), .d (.int .i64 a0.To), .d (.int .i64 a0.Week), .d (.slice (rowsF (iRow .i64) a0.Holidays))])], vec := [] } : St)) (fun v1_ => v1 = v1_) (fun v1_ e => ?_) ?_
  · subst e
    refine tr_cond (b := v1) (by simp) (fun c11 => ?_) (fun c11 => ?_)
    · rw [if_pos c11] at h0
      refine kr [2] (by simp; rfl) ?_
      cases h0
      exact tr_ret ⟨[], by simp, rfl, by simp⟩
    · rw [if_neg (by rw [c11]; decide)] at h0
      refine tr_skip ?_
      refine tr_seq ?_
      refine kr [1, 41, 42, 43] (by simp; rfl) ?_
      replace h0 := bnd h0; obtain ⟨e1, hI1, h0⟩ := h0
      refine tjv (fun v2 : Unit => ({ nt := 65, env := [], box := [], vec := [] } : St)) (fun v2 => .inl v2 = e1) (fun v2 hI1e _ W1 => ?_) ?_
      · subst hI1e
        dsimp only at h0
        refine tr_wk W1 ?_
        refine kr [2] (by simp; rfl) ?_
        cases h0
        exact tr_ret ⟨[], by simp, rfl, by simp⟩
      · refine tr_block (tr_iter (fun s3 : Int => ({ nt := 65, env := [(1, .ptr 1 0), (41, .d (.slice (rowsF (iRow .i64) a0.Holidays))), (42, .d (.int .i64 ((a0.Holidays).length : Int))), (43, .d (.int .i64 s3))], box := [(1, [.d (.int .i64 a0.Day), .d (.int .i64 a0.From), .d (.int .i64 a0.To), .d (.int .i64 a0.Week), .d (.slice (rowsF (iRow .i64) a0.Holidays))])], vec := [] } : St)) hI1 (wk (by simp [weak_iff])) fun G1 s3 o1 h1 hg1 he1 => ?_)
        unfold ref40_Valid_l0 at h1
        refine kr [1, 41, 42, 43, 44] (by simp; rfl) ?_
        refine tr_seq ?_
        refine tr_cond (b := (decide (s3 < ((a0.Holidays).length : Int)))) (by simp) (fun c20 => ?_) (fun c20 => ?_)
        · rw [if_pos c20] at h1
          refine tr_skip ?_
          refine tr_seq ?_
          refine tr_block ?_
          replace h1 := bnd h1; obtain ⟨x4, p5, h1⟩ := h1
          replace p5 := idx_some p5
          have p5' := p5; try simp at p5'
          refine kr [1, 3, 4, 41, 42, 43] (by simp [p5, p5']; rfl) ?_
          replace h1 := bnd h1; obtain ⟨v5, hvv5, h1⟩ := h1
          refine sjv (fun v5_ : Bool => ({ nt := 65, env := [(1, .ptr 1 0), (41, .d (.slice (rowsF (iRow .i64) a0.Holidays))), (42, .d (.int .i64 ((a0.Holidays).length : Int))), (43, .d (.int .i64 s3)), (63, .d (.bool v5_))], box := [(1, [.d (.int .i64 a0.Day), .d (.int .i64 a0.From), .d (.int .i64 a0.To), .d (.int .i64 a0.Week), .d (.slice (rowsF (iRow .i64) a0.Holidays))])], vec := [] } : St)) (fun v5_ => v5 = v5_) (fun v5_ e => ?_) ?_
          · subst e
            refine tr_cond (b := v5) (by simp) (fun c25 => ?_) (fun c25 => ?_)
            · rw [if_pos c25] at h1
              refine kr [2] (by simp; rfl) ?_
              have k1 := he1 _ (Option.some.inj h1)
              subst k1
              dsimp only at h0
              cases h0
              exact tr_ret ⟨[], by simp, rfl, by simp⟩
            · rw [if_neg (by rw [c25]; decide)] at h1
              refine tr_skip ?_
              refine lr (by simp; rfl) ?_
              exact ⟨_, hg1 _ (Option.some.inj h1), wk (by simp [weak_iff])⟩
          · refine kc1 ?_
            refine ko [1, 3, 4, 41, 42, 43, 50] 3 (by simp; rfl) ?_
            refine tops_split 50 (decide (x4 < 0)) (by simp) (fun c26 => ?_) (fun c26 => ?_)
            · rw [if_pos c26] at hvv5
              refine kskip 12 [] (by kernel_rfl) ?_
              refine ko [1, 41, 42, 43, 63] 1 (by simp; rfl) ?_
              refine tops_nil ?_
              cases hvv5
              exact ⟨_, rfl, wk (by simp [weak_iff])⟩
            · rw [if_neg (by rw [c26]; decide)] at hvv5
              refine ko [1, 3, 4, 41, 42, 43, 50, 51, 52, 53] 3 (by simp; rfl) ?_
              refine tops_split 53 (decide (0 < s3)) (by simp) (fun c27 => ?_) (fun c27 => ?_)
              · rw [if_pos c27] at hvv5
                replace hvv5 := bnd hvv5; obtain ⟨x6, p8, hvv5⟩ := hvv5
                replace p8 := idx_some p8
                have p8' := p8; try simp at p8'
                refine ko [1, 41, 42, 43, 51, 52, 53, 54, 55, 56, 57, 58, 59, 60, 61, 62, 63] 10 (by simp [p8, p8']; rfl) ?_
                refine tops_nil ?_
                cases hvv5
                exact ⟨_, rfl, wk (by simp [weak_iff])⟩
              · rw [if_neg (by rw [c27]; decide)] at hvv5
                refine kskip 8 [] (by kernel_rfl) ?_
                refine ko [1, 41, 42, 43, 51, 52, 53, 62, 63] 2 (by simp; rfl) ?_
                refine tops_nil ?_
                cases hvv5
                exact ⟨_, rfl, wk (by simp [weak_iff])⟩
        · rw [if_neg (by rw [c20]; decide)] at h1
          refine tr_exit ?_
          exact ⟨_, he1 _ (Option.some.inj h1), wk (by simp [weak_iff])⟩
  · refine kc1 ?_
    refine ko [1, 6] 2 (by simp; rfl) ?_
    replace hvv1 := bnd hvv1; obtain ⟨y9, hy9, hvv1⟩ := hvv1
    refine kcall [1, 7] [] (ref40_in_ok hy9) rfl rfl rfl Tryz.call65 (by simp) (by simp; rfl) ?_
    refine ko [1, 9] 2 (by simp; rfl) ?_
    refine tops_split 9 (!y9) (by simp) (fun c28 => ?_) (fun c28 => ?_)
    · rw [if_pos c28] at hvv1
      refine kskip 3 [] (by kernel_rfl) ?_
      refine ko [1, 14] 2 (by simp; rfl) ?_
      refine kskip 5 [] (by kernel_rfl) ?_
      refine ko [1, 21] 2 (by simp; rfl) ?_
      refine kskip 5 [] (by kernel_rfl) ?_
      refine ko [1, 28] 2 (by simp; rfl) ?_
      refine kskip 4 [] (by kernel_rfl) ?_
      refine ko [1, 34] 2 (by simp; rfl) ?_
      refine kskip 4 [] (by kernel_rfl) ?_
      refine ko [1, 39] 1 (by simp; rfl) ?_
      refine tops_nil ?_
      cases hvv1
      exact ⟨_, rfl, wk (by simp [weak_iff])⟩
    · rw [if_neg (by rw [c28]; decide)] at hvv1
      refine ko [1, 14] 5 (by simp; rfl) ?_
      refine tops_split 14 (decide (a0.From < 0)) (by simp) (fun c29 => ?_) (fun c29 => ?_)
      · rw [if_pos c29] at hvv1
        refine kskip 5 [] (by kernel_rfl) ?_
        refine ko [1, 21] 2 (by simp; rfl) ?_
        refine kskip 5 [] (by kernel_rfl) ?_
        refine ko [1, 28] 2 (by simp; rfl) ?_
        refine kskip 4 [] (by kernel_rfl) ?_
        refine ko [1, 34] 2 (by simp; rfl) ?_
        refine kskip 4 [] (by kernel_rfl) ?_
        refine ko [1, 39] 1 (by simp; rfl) ?_
        refine tops_nil ?_
        cases hvv1
        exact ⟨_, rfl, wk (by simp [weak_iff])⟩
      · rw [if_neg (by rw [c29]; decide)] at hvv1
        refine ko [1, 21] 7 (by simp; rfl) ?_
        refine tops_split 21 (decide (a0.To ≤ a0.From)) (by simp) (fun c30 => ?_) (fun c30 => ?_)
        · rw [if_pos c30] at hvv1
          refine kskip 5 [] (by kernel_rfl) ?_
          refine ko [1, 28] 2 (by simp; rfl) ?_
          refine kskip 4 [] (by kernel_rfl) ?_
          refine ko [1, 34] 2 (by simp; rfl) ?_
          refine kskip 4 [] (by kernel_rfl) ?_
          refine ko [1, 39] 1 (by simp; rfl) ?_
          refine tops_nil ?_
          cases hvv1
          exact ⟨_, rfl, wk (by simp [weak_iff])⟩
        · rw [if_neg (by rw [c30]; decide)] at hvv1
          refine ko [1, 28] 7 (by simp; rfl) ?_
          refine tops_split 28 (decide (a0.Day < a0.To)) (by simp) (fun c31 => ?_) (fun c31 => ?_)
          · rw [if_pos c31] at hvv1
            refine kskip 4 [] (by kernel_rfl) ?_
            refine ko [1, 34] 2 (by simp; rfl) ?_
            refine kskip 4 [] (by kernel_rfl) ?_
            refine ko [1, 39] 1 (by simp; rfl) ?_
            refine tops_nil ?_
            cases hvv1
            exact ⟨_, rfl, wk (by simp [weak_iff])⟩
          · rw [if_neg (by rw [c31]; decide)] at hvv1
            refine ko [1, 28, 30] 2 (by simp; rfl) ?_
            replace hvv1 := bnd hvv1; obtain ⟨y10, hy10, hvv1⟩ := hvv1
            refine kcall [1, 28, 31] [] (ref40_in_ok hy10) rfl rfl rfl Tryz.call65 (by simp) (by simp; rfl) ?_
            refine ko [1, 34] 3 (by simp; rfl) ?_
            refine tops_split 34 (!y10) (by simp) (fun c32 => ?_) (fun c32 => ?_)
            · rw [if_pos c32] at hvv1
              refine kskip 4 [] (by kernel_rfl) ?_
              refine ko [1, 39] 1 (by simp; rfl) ?_
              refine tops_nil ?_
              cases hvv1
              exact ⟨_, rfl, wk (by simp [weak_iff])⟩
            · rw [if_neg (by rw [c32]; decide)] at hvv1
              refine ko [1, 39] 5 (by simp; rfl) ?_
              refine tops_nil ?_
              cases hvv1
              exact ⟨_, rfl, wk (by simp [weak_iff])⟩
set_option maxHeartbeats 1000000 in
theorem ref26_Check_ok {a0 : api_Directory} {a1 : List api_Steward} {r : Int} (h0 : ref26_Check a0 a1 = some r) : FnOK Tryz.prog 62 [] [.agg (api_Directory_av a0), .d (.slice (rowsF api_Steward_row a1))] (.d (.int .i64 r)) [] := by
  unfold ref26_Check at h0
  refine fn_ok (nt := 70) (rs := [.tmp 4]) Tryz.func62 rfl Tryz.ntmps62 rfl (by simp) (by decide) rfl fun K => ?_
  refine kr [1, 2] (by simp; rfl) ?_
  refine tr_seq ?_
  refine kc ?_
  refine ko [1, 2, 7] 1 (by simp; rfl) ?_
  replace h0 := bnd h0; obtain ⟨y1, hy1, h0⟩ := h0
  refine kcall [1, 2, 8] [] (ref23_Valid_ok hy1) rfl rfl rfl Tryz.call28 (by simp) (by simp; rfl) ?_
  refine ko [1, 2, 9] 1 (by simp; rfl) ?_
  refine tops_nil ?_
  refine tr_cond (b := (!y1)) (by simp) (fun c1 => ?_) (fun c1 => ?_)
  · rw [if_pos c1] at h0
    refine kr [4] (by simp; rfl) ?_
    cases h0
    exact tr_ret ⟨[], by simp, rfl, by simp⟩
  · rw [if_neg (by rw [c1]; decide)] at h0
    refine tr_skip ?_
    refine tr_seq ?_
    refine kr [1, 2, 12] (by simp; rfl) ?_
    refine tr_cond (b := (decide (120 < ((a1).length : Int)))) (by simp) (fun c2 => ?_) (fun c2 => ?_)
    · rw [if_pos c2] at h0
      refine kr [4] (by simp; rfl) ?_
      cases h0
      exact tr_ret ⟨[], by simp, rfl, by simp⟩
    · rw [if_neg (by rw [c2]; decide)] at h0
      refine tr_skip ?_
      refine tr_seq ?_
      refine kr [1, 2, 13, 14, 15] (by simp; rfl) ?_
      replace h0 := bnd h0; obtain ⟨e1, hI1, h0⟩ := h0
      refine tjv (fun v2 : Unit => ({ nt := 70, env := [], box := [], vec := [] } : St)) (fun v2 => .inl v2 = e1) (fun v2 hI1e _ W1 => ?_) ?_
      · subst hI1e
        dsimp only at h0
        refine tr_wk W1 ?_
        refine kr [4] (by simp; rfl) ?_
        cases h0
        exact tr_ret ⟨[], by simp, rfl, by simp⟩
      · refine tr_block (tr_iter (fun s3 : Int => ({ nt := 70, env := [(1, .d (.slice (rowsF api_Steward_row a1))), (2, .ptr 2 0), (13, .d (.slice (rowsF api_Steward_row a1))), (14, .d (.int .i64 ((a1).length : Int))), (15, .d (.int .i64 s3))], box := [(2, [.d (.slice (rowsF (iRow .i64) a0.Kinds)), .d (.slice (rowsF api_Member_row a0.Events))])], vec := [] } : St)) hI1 (wk (by simp [weak_iff])) fun G1 s3 o1 h1 hg1 he1 => ?_)
        unfold ref26_Check_l0 at h1
        refine kr [1, 2, 13, 14, 15, 16] (by simp; rfl) ?_
        refine tr_seq ?_
        refine tr_cond (b := (decide (s3 < ((a1).length : Int)))) (by simp) (fun c67 => ?_) (fun c67 => ?_)
        · rw [if_pos c67] at h1
          refine tr_skip ?_
          refine tr_seq ?_
          refine tr_block ?_
          replace h1 := bnd h1; obtain ⟨x4, p9, h1⟩ := h1
          replace p9 := idx_some p9
          have p9' := p9; try simp at p9'
          refine kr [1, 2, 5, 6, 13, 14, 15] (by simp [p9, p9']; rfl) ?_
          replace h1 := bnd h1; obtain ⟨v5, hvv5, h1⟩ := h1
          refine sjv (fun v5_ : Bool => ({ nt := 70, env := [(1, .d (.slice (rowsF api_Steward_row a1))), (2, .ptr 2 0), (13, .d (.slice (rowsF api_Steward_row a1))), (14, .d (.int .i64 ((a1).length : Int))), (15, .d (.int .i64 s3)), (68, .d (.bool v5_))], box := [(2, [.d (.slice (rowsF (iRow .i64) a0.Kinds)), .d (.slice (rowsF api_Member_row a0.Events))])], vec := [] } : St)) (fun v5_ => v5 = v5_) (fun v5_ e => ?_) ?_
          · subst e
            refine tr_cond (b := v5) (by simp) (fun c128 => ?_) (fun c128 => ?_)
            · rw [if_pos c128] at h1
              refine kr [4] (by simp; rfl) ?_
              have k1 := he1 _ (Option.some.inj h1)
              subst k1
              dsimp only at h0
              cases h0
              exact tr_ret ⟨[], by simp, rfl, by simp⟩
            · rw [if_neg (by rw [c128]; decide)] at h1
              refine tr_skip ?_
              refine lr (by simp; rfl) ?_
              exact ⟨_, hg1 _ (Option.some.inj h1), wk (by simp [weak_iff])⟩
          · refine kd1 [[], [0], [1], [2], [3], [3, 4], [3, 5], [3, 6], [7], [8], [8, 9], [8, 10], [11], [11, 12], [11], [11], [11, 15], [11, 14, 16], [11, 17], [11, 18], [11, 13, 19], [8, 11, 20], [8, 21], [22], [23], [23], [23, 25], [23, 24, 26], [23, 27], [23, 28], [29], [30], [30, 31], [30, 32], [30, 33], [34], [34], [34, 36], [34, 35, 37], [34, 38], [30, 34, 39], [30, 40], [41], [42], [42, 43], [42], [42, 45], [42, 44, 46], [42, 47]] [] [] none [] 49 fol (by decide +kernel) (by simp) ?_
            refine dr_go 0 2 rfl (by simp (maxSteps := 1000000); rfl) ?_
            refine dr_go 2 2 rfl (by simp (maxSteps := 1000000); rfl) ?_
            refine dr_split 3 23 (decide (x4.Time < 0)) (by simp) (fun c149 => ?_) (fun c149 => ?_)
            · rw [if_pos c149] at hvv5
              refine dr_skip 4 70 [some 24, some 25, some 26] rfl rfl (by decide) (by kernel_rfl) (by simp only [skEf, List.map_cons, List.map_nil, List.cons_append, List.nil_append]; rfl) ?_
              refine dr_go 7 2 rfl (by simp (maxSteps := 1000000); rfl) ?_
              refine dr_skip 9 70 [some 29, some 30, some 31, some 32, some 33, some 34, some 35, some 36, some 37, some 38, some 39, some 40, some 41] rfl rfl (by decide) (by kernel_rfl) (by simp only [skEf, List.map_cons, List.map_nil, List.cons_append, List.nil_append]; rfl) ?_
              refine dr_go 22 2 rfl (by simp (maxSteps := 1000000); rfl) ?_
              refine dr_skip 24 70 [some 44, some 45, some 46, some 47, some 48] rfl rfl (by decide) (by kernel_rfl) (by simp only [skEf, List.map_cons, List.map_nil, List.cons_append, List.nil_append]; rfl) ?_
              refine dr_go 29 2 rfl (by simp (maxSteps := 1000000); rfl) ?_
              refine dr_skip 31 70 [some 51, some 52, some 53, some 54, some 55, some 56, some 57, some 58, some 59, some 60] rfl rfl (by decide) (by kernel_rfl) (by simp only [skEf, List.map_cons, List.map_nil, List.cons_append, List.nil_append]; rfl) ?_
              refine dr_go 41 2 rfl (by simp (maxSteps := 1000000); rfl) ?_
              refine dr_skip 43 70 [some 63, some 64, some 65, some 66, some 67] rfl rfl (by decide) (by kernel_rfl) (by simp only [skEf, List.map_cons, List.map_nil, List.cons_append, List.nil_append]; rfl) ?_
              refine dr_go 48 1 rfl (by simp (maxSteps := 1000000); rfl) ?_
              refine dr_end rfl (tops_nil ?_)
              cases hvv5
              exact ⟨_, rfl, wk (by simp [weak_iff])⟩
            · rw [if_neg (by rw [c149]; decide)] at hvv5
              refine dr_go 4 2 rfl (by simp (maxSteps := 1000000); rfl) ?_
              refine dr_go 6 2 rfl (by simp (maxSteps := 1000000); rfl) ?_
              refine dr_go 8 1 rfl (by simp (maxSteps := 1000000); rfl) ?_
              refine dr_split 8 28 (decide (1099511627776 < x4.Time)) (by simp) (fun c150 => ?_) (fun c150 => ?_)
              · rw [if_pos c150] at hvv5
                refine dr_skip 9 70 [some 29, some 30, some 31, some 32, some 33, some 34, some 35, some 36, some 37, some 38, some 39, some 40, some 41] rfl rfl (by decide) (by kernel_rfl) (by simp only [skEf, List.map_cons, List.map_nil, List.cons_append, List.nil_append]; rfl) ?_
                refine dr_go 22 2 rfl (by simp (maxSteps := 1000000); rfl) ?_
                refine dr_skip 24 70 [some 44, some 45, some 46, some 47, some 48] rfl rfl (by decide) (by kernel_rfl) (by simp only [skEf, List.map_cons, List.map_nil, List.cons_append, List.nil_append]; rfl) ?_
                refine dr_go 29 2 rfl (by simp (maxSteps := 1000000); rfl) ?_
                refine dr_skip 31 70 [some 51, some 52, some 53, some 54, some 55, some 56, some 57, some 58, some 59, some 60] rfl rfl (by decide) (by kernel_rfl) (by simp only [skEf, List.map_cons, List.map_nil, List.cons_append, List.nil_append]; rfl) ?_
                refine dr_go 41 2 rfl (by simp (maxSteps := 1000000); rfl) ?_
                refine dr_skip 43 70 [some 63, some 64, some 65, some 66, some 67] rfl rfl (by decide) (by kernel_rfl) (by simp only [skEf, List.map_cons, List.map_nil, List.cons_append, List.nil_append]; rfl) ?_
                refine dr_go 48 1 rfl (by simp (maxSteps := 1000000); rfl) ?_
                refine dr_end rfl (tops_nil ?_)
                cases hvv5
                exact ⟨_, rfl, wk (by simp [weak_iff])⟩
              · rw [if_neg (by rw [c150]; decide)] at hvv5
                refine dr_go 9 2 rfl (by simp (maxSteps := 1000000); rfl) ?_
                refine dr_go 11 1 rfl (by simp (maxSteps := 1000000); rfl) ?_
                refine dr_split 11 31 (decide (0 < s3)) (by simp) (fun c151 => ?_) (fun c151 => ?_)
                · rw [if_pos c151] at hvv5
                  replace hvv5 := bnd hvv5; obtain ⟨x6, p18, hvv5⟩ := hvv5
                  replace p18 := idx_some p18
                  have p18' := p18; try simp at p18'
                  refine dr_go 12 2 rfl (by simp (maxSteps := 1000000) [p18, p18']; rfl) ?_
                  refine dr_go 14 2 rfl (by simp (maxSteps := 1000000) [p18, p18']; rfl) ?_
                  refine dr_go 16 2 rfl (by simp (maxSteps := 1000000) [p18, p18']; rfl) ?_
                  refine dr_go 18 2 rfl (by simp (maxSteps := 1000000) [p18, p18']; rfl) ?_
                  refine dr_go 20 2 rfl (by simp (maxSteps := 1000000) [p18, p18']; rfl) ?_
                  refine dr_go 22 2 rfl (by simp (maxSteps := 1000000) [p18, p18']; rfl) ?_
                  refine dr_split 23 43 (decide (x4.Time < x6.Time)) (by simp) (fun c152 => ?_) (fun c152 => ?_)
                  · rw [if_pos c152] at hvv5
                    refine dr_skip 24 70 [some 44, some 45, some 46, some 47, some 48] rfl rfl (by decide) (by kernel_rfl) (by simp only [skEf, List.map_cons, List.map_nil, List.cons_append, List.nil_append]; rfl) ?_
                    refine dr_go 29 2 rfl (by simp (maxSteps := 1000000); rfl) ?_
                    refine dr_skip 31 70 [some 51, some 52, some 53, some 54, some 55, some 56, some 57, some 58, some 59, some 60] rfl rfl (by decide) (by kernel_rfl) (by simp only [skEf, List.map_cons, List.map_nil, List.cons_append, List.nil_append]; rfl) ?_
                    refine dr_go 41 2 rfl (by simp (maxSteps := 1000000); rfl) ?_
                    refine dr_skip 43 70 [some 63, some 64, some 65, some 66, some 67] rfl rfl (by decide) (by kernel_rfl) (by simp only [skEf, List.map_cons, List.map_nil, List.cons_append, List.nil_append]; rfl) ?_
                    refine dr_go 48 1 rfl (by simp (maxSteps := 1000000); rfl) ?_
                    refine dr_end rfl (tops_nil ?_)
                    cases hvv5
                    exact ⟨_, rfl, wk (by simp [weak_iff])⟩
                  · rw [if_neg (by rw [c152]; decide)] at hvv5
                    refine dr_go 24 2 rfl (by simp (maxSteps := 1000000); rfl) ?_
                    refine dr_go 26 1 rfl (by simp (maxSteps := 1000000); rfl) ?_
                    replace hvv5 := bnd hvv5; obtain ⟨y7, hy7, hvv5⟩ := hvv5
                    refine dr_call 27 [] (ref23_Exists_ok hy7) rfl rfl rfl rfl rfl Tryz.call30 (by simp) ?_
                    refine dr_go 28 2 rfl (by simp (maxSteps := 1000000); rfl) ?_
                    refine dr_go 30 1 rfl (by simp (maxSteps := 1000000); rfl) ?_
                    refine dr_split 30 50 (!y7) (by simp) (fun c153 => ?_) (fun c153 => ?_)
                    · rw [if_pos c153] at hvv5
                      refine dr_skip 31 70 [some 51, some 52, some 53, some 54, some 55, some 56, some 57, some 58, some 59, some 60] rfl rfl (by decide) (by kernel_rfl) (by simp only [skEf, List.map_cons, List.map_nil, List.cons_append, List.nil_append]; rfl) ?_
                      refine dr_go 41 2 rfl (by simp (maxSteps := 1000000); rfl) ?_
                      refine dr_skip 43 70 [some 63, some 64, some 65, some 66, some 67] rfl rfl (by decide) (by kernel_rfl) (by simp only [skEf, List.map_cons, List.map_nil, List.cons_append, List.nil_append]; rfl) ?_
                      refine dr_go 48 1 rfl (by simp (maxSteps := 1000000); rfl) ?_
                      refine dr_end rfl (tops_nil ?_)
                      cases hvv5
                      exact ⟨_, rfl, wk (by simp [weak_iff])⟩
                    · rw [if_neg (by rw [c153]; decide)] at hvv5
                      refine dr_go 31 2 rfl (by simp (maxSteps := 1000000); rfl) ?_
                      refine dr_go 33 2 rfl (by simp (maxSteps := 1000000); rfl) ?_
                      refine dr_split 34 54 (x4.Steward != (-1)) (by simp) (fun c154 => ?_) (fun c154 => ?_)
                      · rw [if_pos c154] at hvv5
                        refine dr_go 35 2 rfl (by simp (maxSteps := 1000000); rfl) ?_
                        refine dr_go 37 1 rfl (by simp (maxSteps := 1000000); rfl) ?_
                        replace hvv5 := bnd hvv5; obtain ⟨y8, hy8, hvv5⟩ := hvv5
                        refine dr_call 38 [] (ref23_Exists_ok hy8) rfl rfl rfl rfl rfl Tryz.call30 (by simp) ?_
                        refine dr_go 39 2 rfl (by simp (maxSteps := 1000000); rfl) ?_
                        refine dr_go 41 2 rfl (by simp (maxSteps := 1000000); rfl) ?_
                        refine dr_split 42 62 (!y8) (by simp) (fun c155 => ?_) (fun c155 => ?_)
                        · rw [if_pos c155] at hvv5
                          refine dr_skip 43 70 [some 63, some 64, some 65, some 66, some 67] rfl rfl (by decide) (by kernel_rfl) (by simp only [skEf, List.map_cons, List.map_nil, List.cons_append, List.nil_append]; rfl) ?_
                          refine dr_go 48 1 rfl (by simp (maxSteps := 1000000); rfl) ?_
                          refine dr_end rfl (tops_nil ?_)
                          cases hvv5
                          exact ⟨_, rfl, wk (by simp [weak_iff])⟩
                        · rw [if_neg (by rw [c155]; decide)] at hvv5
                          refine dr_go 43 2 rfl (by simp (maxSteps := 1000000); rfl) ?_
                          refine dr_go 45 2 rfl (by simp (maxSteps := 1000000); rfl) ?_
                          refine dr_go 47 2 rfl (by simp (maxSteps := 1000000); rfl) ?_
                          refine dr_end rfl (tops_nil ?_)
                          cases hvv5
                          exact ⟨_, rfl, wk (by simp [weak_iff])⟩
                      · rw [if_neg (by rw [c154]; decide)] at hvv5
                        refine dr_skip 35 70 [some 55, some 56, some 57, some 58, some 59] rfl rfl (by decide) (by kernel_rfl) (by simp only [skEf, List.map_cons, List.map_nil, List.cons_append, List.nil_append]; rfl) ?_
                        refine dr_go 40 2 rfl (by simp (maxSteps := 1000000); rfl) ?_
                        refine dr_go 42 2 rfl (by simp (maxSteps := 1000000); rfl) ?_
                        refine dr_go 44 2 rfl (by simp (maxSteps := 1000000); rfl) ?_
                        refine dr_go 46 2 rfl (by simp (maxSteps := 1000000); rfl) ?_
                        refine dr_go 48 1 rfl (by simp (maxSteps := 1000000); rfl) ?_
                        refine dr_end rfl (tops_nil ?_)
                        cases hvv5
                        exact ⟨_, rfl, wk (by simp [weak_iff])⟩
                · rw [if_neg (by rw [c151]; decide)] at hvv5
                  refine dr_skip 12 70 [some 32, some 33, some 34, some 35, some 36, some 37, some 38, some 39, some 40] rfl rfl (by decide) (by kernel_rfl) (by simp only [skEf, List.map_cons, List.map_nil, List.cons_append, List.nil_append]; rfl) ?_
                  refine dr_go 21 2 rfl (by simp (maxSteps := 1000000); rfl) ?_
                  refine dr_go 23 2 rfl (by simp (maxSteps := 1000000); rfl) ?_
                  refine dr_go 25 2 rfl (by simp (maxSteps := 1000000); rfl) ?_
                  replace hvv5 := bnd hvv5; obtain ⟨y9, hy9, hvv5⟩ := hvv5
                  refine dr_call 27 [] (ref23_Exists_ok hy9) rfl rfl rfl rfl rfl Tryz.call30 (by simp) ?_
                  refine dr_go 28 2 rfl (by simp (maxSteps := 1000000); rfl) ?_
                  refine dr_go 30 1 rfl (by simp (maxSteps := 1000000); rfl) ?_
                  refine dr_split 30 50 (!y9) (by simp) (fun c156 => ?_) (fun c156 => ?_)
                  · rw [if_pos c156] at hvv5
                    refine dr_skip 31 70 [some 51, some 52, some 53, some 54, some 55, some 56, some 57, some 58, some 59, some 60] rfl rfl (by decide) (by kernel_rfl) (by simp only [skEf, List.map_cons, List.map_nil, List.cons_append, List.nil_append]; rfl) ?_
                    refine dr_go 41 2 rfl (by simp (maxSteps := 1000000); rfl) ?_
                    refine dr_skip 43 70 [some 63, some 64, some 65, some 66, some 67] rfl rfl (by decide) (by kernel_rfl) (by simp only [skEf, List.map_cons, List.map_nil, List.cons_append, List.nil_append]; rfl) ?_
                    refine dr_go 48 1 rfl (by simp (maxSteps := 1000000); rfl) ?_
                    refine dr_end rfl (tops_nil ?_)
                    cases hvv5
                    exact ⟨_, rfl, wk (by simp [weak_iff])⟩
                  · rw [if_neg (by rw [c156]; decide)] at hvv5
                    refine dr_go 31 2 rfl (by simp (maxSteps := 1000000); rfl) ?_
                    refine dr_go 33 2 rfl (by simp (maxSteps := 1000000); rfl) ?_
                    refine dr_split 34 54 (x4.Steward != (-1)) (by simp) (fun c157 => ?_) (fun c157 => ?_)
                    · rw [if_pos c157] at hvv5
                      refine dr_go 35 2 rfl (by simp (maxSteps := 1000000); rfl) ?_
                      refine dr_go 37 1 rfl (by simp (maxSteps := 1000000); rfl) ?_
                      replace hvv5 := bnd hvv5; obtain ⟨y10, hy10, hvv5⟩ := hvv5
                      refine dr_call 38 [] (ref23_Exists_ok hy10) rfl rfl rfl rfl rfl Tryz.call30 (by simp) ?_
                      refine dr_go 39 2 rfl (by simp (maxSteps := 1000000); rfl) ?_
                      refine dr_go 41 2 rfl (by simp (maxSteps := 1000000); rfl) ?_
                      refine dr_split 42 62 (!y10) (by simp) (fun c158 => ?_) (fun c158 => ?_)
                      · rw [if_pos c158] at hvv5
                        refine dr_skip 43 70 [some 63, some 64, some 65, some 66, some 67] rfl rfl (by decide) (by kernel_rfl) (by simp only [skEf, List.map_cons, List.map_nil, List.cons_append, List.nil_append]; rfl) ?_
                        refine dr_go 48 1 rfl (by simp (maxSteps := 1000000); rfl) ?_
                        refine dr_end rfl (tops_nil ?_)
                        cases hvv5
                        exact ⟨_, rfl, wk (by simp [weak_iff])⟩
                      · rw [if_neg (by rw [c158]; decide)] at hvv5
                        refine dr_go 43 2 rfl (by simp (maxSteps := 1000000); rfl) ?_
                        refine dr_go 45 2 rfl (by simp (maxSteps := 1000000); rfl) ?_
                        refine dr_go 47 2 rfl (by simp (maxSteps := 1000000); rfl) ?_
                        refine dr_end rfl (tops_nil ?_)
                        cases hvv5
                        exact ⟨_, rfl, wk (by simp [weak_iff])⟩
                    · rw [if_neg (by rw [c157]; decide)] at hvv5
                      refine dr_skip 35 70 [some 55, some 56, some 57, some 58, some 59] rfl rfl (by decide) (by kernel_rfl) (by simp only [skEf, List.map_cons, List.map_nil, List.cons_append, List.nil_append]; rfl) ?_
                      refine dr_go 40 2 rfl (by simp (maxSteps := 1000000); rfl) ?_
                      refine dr_go 42 2 rfl (by simp (maxSteps := 1000000); rfl) ?_
                      refine dr_go 44 2 rfl (by simp (maxSteps := 1000000); rfl) ?_
                      refine dr_go 46 2 rfl (by simp (maxSteps := 1000000); rfl) ?_
                      refine dr_go 48 1 rfl (by simp (maxSteps := 1000000); rfl) ?_
                      refine dr_end rfl (tops_nil ?_)
                      cases hvv5
                      exact ⟨_, rfl, wk (by simp [weak_iff])⟩
        · rw [if_neg (by rw [c67]; decide)] at h1
          refine tr_exit ?_
          exact ⟨_, he1 _ (Option.some.inj h1), wk (by simp [weak_iff])⟩
set_option maxHeartbeats 1000000 in
theorem ref41_check_ok {a0 : api_Calendar} {a1 : api_Directory} {a2 : List api_Steward} {a3 : List api_Case} {a4 : Int} {r : Int} (h0 : ref41_check a0 a1 a2 a3 a4 = some r) : FnOK Tryz.prog 39 [] [.agg (api_Calendar_av a0), .agg (api_Directory_av a1), .d (.slice (rowsF api_Steward_row a2)), .d (.slice (rowsF api_Case_row a3)), .d (.int .i64 a4)] (.d (.int .i64 r)) [] := by
  unfold ref41_check at h0
  refine fn_ok (nt := 31) (rs := [.tmp 10]) Tryz.func39 rfl Tryz.ntmps39 rfl (by simp) (by decide) rfl fun K => ?_
  refine kr [2, 3, 4, 5, 6] (by simp; rfl) ?_
  refine tr_seq ?_
  refine kc ?_
  refine ko [2, 3, 4, 6, 13] 1 (by simp; rfl) ?_
  replace h0 := bnd h0; obtain ⟨y1, hy1, h0⟩ := h0
  refine kcall [2, 3, 4, 6, 14] [] (ref40_Valid_ok hy1) rfl rfl rfl Tryz.call61 (by simp) (by simp; rfl) ?_
  refine ko [2, 3, 4, 6, 15] 1 (by simp; rfl) ?_
  refine tops_nil ?_
  refine tr_cond (b := (!y1)) (by simp) (fun c1 => ?_) (fun c1 => ?_)
  · rw [if_pos c1] at h0
    refine kr [10] (by simp; rfl) ?_
    cases h0
    exact tr_ret ⟨[], by simp, rfl, by simp⟩
  · rw [if_neg (by rw [c1]; decide)] at h0
    refine tr_skip ?_
    refine tr_seq ?_
    refine kc ?_
    refine ko [3, 4, 6, 16, 17] 2 (by simp; rfl) ?_
    replace h0 := bnd h0; obtain ⟨y2, hy2, h0⟩ := h0
    refine kcall [3, 4, 6, 18] [] (ref26_Check_ok hy2) rfl rfl rfl Tryz.call62 (by simp) (by simp; rfl) ?_
    refine ko [3, 4, 6, 11] 1 (by simp; rfl) ?_
    refine tops_nil ?_
    refine kr [3, 4, 6, 11, 20] (by simp; rfl) ?_
    refine tr_cond (b := (y2 != 0)) (by simp) (fun c2 => ?_) (fun c2 => ?_)
    · rw [if_pos c2] at h0
      refine kr [10] (by simp; rfl) ?_
      cases h0
      exact tr_ret ⟨[], by simp, rfl, by simp⟩
    · rw [if_neg (by rw [c2]; decide)] at h0
      refine tr_skip ?_
      refine tr_seq ?_
      refine kc ?_
      refine ko [4, 22, 23] 2 (by simp; rfl) ?_
      replace h0 := bnd h0; obtain ⟨y3, hy3, h0⟩ := h0
      refine kcall [4, 24] [] (ref41_Check_ok hy3) rfl rfl rfl Tryz.call14 (by simp) (by simp; rfl) ?_
      refine ko [4, 12] 1 (by simp; rfl) ?_
      refine tops_nil ?_
      refine kr [4, 12, 26] (by simp; rfl) ?_
      refine tr_cond (b := (y3 != 0)) (by simp) (fun c3 => ?_) (fun c3 => ?_)
      · rw [if_pos c3] at h0
        refine kr [10] (by simp; rfl) ?_
        cases h0
        exact tr_ret ⟨[], by simp, rfl, by simp⟩
      · rw [if_neg (by rw [c3]; decide)] at h0
        refine tr_skip ?_
        refine tr_seq ?_
        refine kc ?_
        refine ko [28] 1 (by simp; rfl) ?_
        replace h0 := bnd h0; obtain ⟨y4, hy4, h0⟩ := h0
        refine kcall [29] [] (ref41_in_ok hy4) rfl rfl rfl Tryz.call29 (by simp) (by simp; rfl) ?_
        refine ko [30] 1 (by simp; rfl) ?_
        refine tops_nil ?_
        refine tr_cond (b := (!y4)) (by simp) (fun c4 => ?_) (fun c4 => ?_)
        · rw [if_pos c4] at h0
          refine kr [10] (by simp; rfl) ?_
          cases h0
          exact tr_ret ⟨[], by simp, rfl, by simp⟩
        · rw [if_neg (by rw [c4]; decide)] at h0
          refine tr_skip ?_
          refine kr [10] (by simp; rfl) ?_
          cases h0
          exact tr_ret ⟨[], by simp, rfl, by simp⟩
set_option maxHeartbeats 1000000 in
theorem ref23_Has_ok {a0 : List Int} {a1 : Int} {r : Bool} (h0 : ref23_Has a0 a1 = some r) : FnOK Tryz.prog 63 [] [.d (.slice (rowsF (iRow .i64) a0)), .d (.int .i64 a1)] (.d (.bool r)) [] := by
  unfold ref23_Has at h0
  refine fn_ok (nt := 17) (rs := [.tmp 4]) Tryz.func63 rfl Tryz.ntmps63 rfl (by simp) (by decide) rfl fun K => ?_
  refine kr [0, 1] (by simp; rfl) ?_
  refine tr_seq ?_
  refine kr [1, 7, 8, 9] (by simp; rfl) ?_
  replace h0 := bnd h0; obtain ⟨e1, hI1, h0⟩ := h0
  refine tjv (fun v1 : Unit => ({ nt := 17, env := [], box := [], vec := [] } : St)) (fun v1 => .inl v1 = e1) (fun v1 hI1e _ W1 => ?_) ?_
  · subst hI1e
    dsimp only at h0
    refine tr_wk W1 ?_
    refine kr [4] (by simp; rfl) ?_
    cases h0
    exact tr_ret ⟨[], by simp, rfl, by simp⟩
  · refine tr_block (tr_iter (fun s2 : Int => ({ nt := 17, env := [(1, .d (.int .i64 a1)), (7, .d (.slice (rowsF (iRow .i64) a0))), (8, .d (.int .i64 ((a0).length : Int))), (9, .d (.int .i64 s2))], box := [], vec := [] } : St)) hI1 (wk (by simp [weak_iff])) fun G1 s2 o1 h1 hg1 he1 => ?_)
    unfold ref23_Has_l0 at h1
    refine kr [1, 7, 8, 9, 10] (by simp; rfl) ?_
    refine tr_seq ?_
    refine tr_cond (b := (decide (s2 < ((a0).length : Int)))) (by simp) (fun c5 => ?_) (fun c5 => ?_)
    · rw [if_pos c5] at h1
      refine tr_skip ?_
      refine tr_seq ?_
      refine tr_block ?_
      replace h1 := bnd h1; obtain ⟨x3, p3, h1⟩ := h1
      replace p3 := idx_some p3
      have p3' := p3; try simp at p3'
      refine kr [1, 6, 7, 8, 9] (by simp [p3, p3']; rfl) ?_
      refine kr [1, 7, 8, 9, 15] (by simp; rfl) ?_
      refine tr_cond (b := (x3 == a1)) (by simp) (fun c6 => ?_) (fun c6 => ?_)
      · rw [if_pos c6] at h1
        refine kr [4] (by simp; rfl) ?_
        have k1 := he1 _ (Option.some.inj h1)
        subst k1
        dsimp only at h0
        cases h0
        exact tr_ret ⟨[], by simp, rfl, by simp⟩
      · rw [if_neg (by rw [c6]; decide)] at h1
        refine tr_skip ?_
        refine lr (by simp; rfl) ?_
        exact ⟨_, hg1 _ (Option.some.inj h1), wk (by simp [weak_iff])⟩
    · rw [if_neg (by rw [c5]; decide)] at h1
      refine tr_exit ?_
      exact ⟨_, he1 _ (Option.some.inj h1), wk (by simp [weak_iff])⟩
set_option maxHeartbeats 1000000 in
theorem ref26_of_ok {a0 : List api_Steward} {a1 : Int} {a2 : Int} {r : Int} (h0 : ref26_of a0 a1 a2 = some r) : FnOK Tryz.prog 64 [] [.d (.slice (rowsF api_Steward_row a0)), .d (.int .i64 a1), .d (.int .i64 a2)] (.d (.int .i64 r)) [] := by
  unfold ref26_of at h0
  refine fn_ok (nt := 30) (rs := [.tmp 6]) Tryz.func64 rfl Tryz.ntmps64 rfl (by simp) (by decide) rfl fun K => ?_
  refine kr [0, 1, 2] (by simp; rfl) ?_
  refine kr [0, 1, 2, 7] (by simp; rfl) ?_
  refine tr_seq ?_
  refine kr [1, 2, 7, 10, 11, 12] (by simp; rfl) ?_
  replace h0 := bnd h0; obtain ⟨e1, hI1, h0⟩ := h0
  refine tjv (fun v1 : Int => ({ nt := 30, env := [(7, .d (.int .i64 v1))], box := [], vec := [] } : St)) (fun v1 => v1 = e1) (fun v1 hI1e _ W1 => ?_) ?_
  · subst hI1e
    refine tr_wk W1 ?_
    refine kr [6] (by simp; rfl) ?_
    cases h0
    exact tr_ret ⟨[], by simp, rfl, by simp⟩
  · refine tr_block (tr_iter (fun s2 : Int × Int => ({ nt := 30, env := [(1, .d (.int .i64 a1)), (2, .d (.int .i64 a2)), (7, .d (.int .i64 s2.1)), (10, .d (.slice (rowsF api_Steward_row a0))), (11, .d (.int .i64 ((a0).length : Int))), (12, .d (.int .i64 s2.2))], box := [], vec := [] } : St)) hI1 (wk (by simp [weak_iff])) fun G1 s2 o1 h1 hg1 he1 => ?_)
    unfold ref26_of_l0 at h1
    refine kr [1, 2, 7, 10, 11, 12, 13] (by simp; rfl) ?_
    refine tr_seq ?_
    refine tr_cond (b := (decide (s2.2 < ((a0).length : Int)))) (by simp) (fun c7 => ?_) (fun c7 => ?_)
    · rw [if_pos c7] at h1
      refine tr_skip ?_
      refine tr_seq ?_
      refine tr_block ?_
      replace h1 := bnd h1; obtain ⟨x3, p3, h1⟩ := h1
      replace p3 := idx_some p3
      have p3' := p3; try simp at p3'
      refine kr [1, 2, 7, 9, 10, 11, 12] (by simp [p3, p3']; rfl) ?_
      replace h1 := bnd h1; obtain ⟨v4, hvv4, h1⟩ := h1
      refine sjv (fun v4_ : Bool => ({ nt := 30, env := [(1, .d (.int .i64 a1)), (2, .d (.int .i64 a2)), (7, .d (.int .i64 s2.1)), (9, .ptr 9 0), (10, .d (.slice (rowsF api_Steward_row a0))), (11, .d (.int .i64 ((a0).length : Int))), (12, .d (.int .i64 s2.2)), (25, .d (.bool v4_))], box := [(9, [.d (.int .i64 x3.Time), .d (.int .i64 x3.Subject), .d (.int .i64 x3.Steward)])], vec := [] } : St)) (fun v4_ => v4 = v4_) (fun v4_ e => ?_) ?_
      · subst e
        refine tr_cond (b := v4) (by simp) (fun c10 => ?_) (fun c10 => ?_)
        · rw [if_pos c10] at h1
          refine lr (by simp; rfl) ?_
          refine lr (by simp; rfl) ?_
          exact ⟨_, hg1 _ (Option.some.inj h1), wk (by simp [weak_iff])⟩
        · rw [if_neg (by rw [c10]; decide)] at h1
          refine tr_skip ?_
          refine lr (by simp; rfl) ?_
          exact ⟨_, hg1 _ (Option.some.inj h1), wk (by simp [weak_iff])⟩
      · refine kc1 ?_
        refine ko [1, 2, 7, 9, 10, 11, 12, 20] 5 (by simp; rfl) ?_
        refine tops_split 20 (decide (x3.Time ≤ a2)) (by simp) (fun c11 => ?_) (fun c11 => ?_)
        · rw [c11] at hvv4
          refine ko [1, 2, 7, 9, 10, 11, 12, 21, 22, 23, 24, 25] 5 (by simp; rfl) ?_
          refine tops_nil ?_
          cases hvv4
          exact ⟨_, rfl, wk (by simp [weak_iff])⟩
        · rw [c11] at hvv4
          refine kskip 4 [] (by kernel_rfl) ?_
          refine ko [1, 2, 7, 9, 10, 11, 12, 25] 1 (by simp; rfl) ?_
          refine tops_nil ?_
          cases hvv4
          exact ⟨_, rfl, wk (by simp [weak_iff])⟩
    · rw [if_neg (by rw [c7]; decide)] at h1
      refine tr_exit ?_
      exact ⟨_, he1 _ (Option.some.inj h1), wk (by simp [weak_iff])⟩
set_option maxHeartbeats 1000000 in
theorem ref26_Way_ok {a0 : api_Directory} {a1 : List api_Steward} {a2 : Int} {a3 : Int} {r : (List Int)} (h0 : ref26_Way a0 a1 a2 a3 = some r) : FnOK Tryz.prog 40 [] [.agg (api_Directory_av a0), .d (.slice (rowsF api_Steward_row a1)), .d (.int .i64 a2), .d (.int .i64 a3)] (.d (.slice (rowsF (iRow .i64) r))) [] := by
  unfold ref26_Way at h0
  refine fn_ok (nt := 37) (rs := [.tmp 8]) Tryz.func40 rfl Tryz.ntmps40 rfl (by simp) (by decide) rfl fun K => ?_
  refine kr [1, 2, 3, 4] (by simp; rfl) ?_
  refine tr_seq ?_
  replace h0 := bnd h0; obtain ⟨v1, hvv1, h0⟩ := h0
  refine sjv (fun v1_ : Bool => ({ nt := 37, env := [(1, .d (.slice (rowsF api_Steward_row a1))), (2, .d (.int .i64 a2)), (3, .d (.int .i64 a3)), (19, .d (.bool v1_))], box := [], vec := [] } : St)) (fun v1_ => v1 = v1_) (fun v1_ e => ?_) ?_
  · subst e
    refine tr_cond (b := v1) (by simp) (fun c3 => ?_) (fun c3 => ?_)
    · rw [if_pos c3] at h0
      refine kr [8] (by simp; rfl) ?_
      cases h0
      exact tr_ret ⟨[], by simp, rfl, by simp⟩
    · rw [if_neg (by rw [c3]; decide)] at h0
      refine tr_skip ?_
      refine kr [1, 2, 3, 9] (by simp; rfl) ?_
      refine tr_wk (wk_own 9 31 3 1 (by simp) (by simp)) ?_
      replace h0 := bnd h0; obtain ⟨e1, hI1, h0⟩ := h0
      refine sjv (fun v2 : (List Int) => ({ nt := 37, env := [(9, .vec 31)], box := [], vec := [(31, ⟨3, 1, rowsF (iRow .i64) v2⟩)] } : St)) (fun v2 => v2 = e1) (fun v2 hI1e => ?_) ?_
      · subst hI1e
        refine kr [8] (by simp; rfl) ?_
        cases h0
        exact tr_ret ⟨[31], by simp, rfl, by simp⟩
      · refine tr_block (tr_iter (fun s3 : Int × (List Int) => ({ nt := 37, env := [(1, .d (.slice (rowsF api_Steward_row a1))), (2, .d (.int .i64 s3.1)), (3, .d (.int .i64 a3)), (9, .vec 31)], box := [], vec := [(31, ⟨3, 1, rowsF (iRow .i64) s3.2⟩)] } : St)) hI1 (wk (by simp [weak_iff])) fun G1 s3 o1 h1 hg1 he1 => ?_)
        unfold ref26_Way_l0 at h1
        refine tr_seq ?_
        replace h1 := bnd h1; obtain ⟨v4, hvv4, h1⟩ := h1
        refine sjv (fun v4_ : Bool => ({ nt := 37, env := [(1, .d (.slice (rowsF api_Steward_row a1))), (2, .d (.int .i64 s3.1)), (3, .d (.int .i64 a3)), (9, .vec 31), (27, .d (.bool v4_))], box := [], vec := [(31, ⟨3, 1, rowsF (iRow .i64) s3.2⟩)] } : St)) (fun v4_ => v4 = v4_) (fun v4_ e => ?_) ?_
        · subst e
          refine tr_cond (b := v4) (by simp) (fun c12 => ?_) (fun c12 => ?_)
          · rw [if_pos c12] at h1
            refine tr_skip ?_
            refine tr_block ?_
            replace h1 := bnd h1; obtain ⟨_, p3, h1⟩ := h1
            replace p3 := ck_some p3
            have p3' := p3; try simp at p3'
            refine kr [1, 2, 3, 9] (by simp [p3, p3']; rfl) ?_
            refine kc1 ?_
            refine ko [1, 3, 9, 32, 33, 34] 3 (by simp; rfl) ?_
            replace h1 := bnd h1; obtain ⟨y5, hy5, h1⟩ := h1
            refine kcall [1, 3, 9, 35] [] (ref26_of_ok hy5) rfl rfl rfl Tryz.call64 (by simp) (by simp; rfl) ?_
            refine ko [1, 2, 3, 9] 1 (by simp; rfl) ?_
            refine tops_nil ?_
            exact ⟨_, hg1 _ (Option.some.inj h1), wk (by simp [weak_iff])⟩
          · rw [if_neg (by rw [c12]; decide)] at h1
            refine tr_exit ?_
            exact ⟨_, he1 _ (Option.some.inj h1), wk (by simp [weak_iff])⟩
        · refine kc1 ?_
          refine ko [1, 2, 3, 9, 22] 3 (by simp; rfl) ?_
          refine tops_split 22 (s3.1 != (-1)) (by simp) (fun c13 => ?_) (fun c13 => ?_)
          · rw [if_pos c13] at hvv4
            refine ko [1, 2, 3, 9, 22, 23, 24] 2 (by simp; rfl) ?_
            replace hvv4 := bnd hvv4; obtain ⟨y6, hy6, hvv4⟩ := hvv4
            refine kcallv [1, 2, 3, 9, 22, 23, 24, 25] (ref23_Has_ok hy6) rfl rfl rfl Tryz.call63 (by simp) (by simp; rfl) ?_
            refine ko [1, 2, 3, 9, 23, 24, 25, 26, 27] 2 (by simp; rfl) ?_
            refine tops_nil ?_
            cases hvv4
            exact ⟨_, rfl, wk (by simp [weak_iff])⟩
          · rw [if_neg (by rw [c13]; decide)] at hvv4
            refine kskip 4 [] (by kernel_rfl) ?_
            refine ko [1, 2, 3, 9, 27] 1 (by simp; rfl) ?_
            refine tops_nil ?_
            cases hvv4
            exact ⟨_, rfl, wk (by simp [weak_iff])⟩
  · refine kc1 ?_
    refine ko [1, 2, 3, 4, 10, 11] 2 (by simp; rfl) ?_
    replace hvv1 := bnd hvv1; obtain ⟨y7, hy7, hvv1⟩ := hvv1
    refine kcall [1, 2, 3, 4, 12] [] (ref26_Check_ok hy7) rfl rfl rfl Tryz.call62 (by simp) (by simp; rfl) ?_
    refine ko [1, 2, 3, 4, 14] 2 (by simp; rfl) ?_
    refine tops_split 14 (y7 != 0) (by simp) (fun c14 => ?_) (fun c14 => ?_)
    · rw [if_pos c14] at hvv1
      refine kskip 4 [] (by kernel_rfl) ?_
      refine ko [1, 2, 3, 19] 1 (by simp; rfl) ?_
      refine tops_nil ?_
      cases hvv1
      exact ⟨_, rfl, wk (by simp [weak_iff])⟩
    · rw [if_neg (by rw [c14]; decide)] at hvv1
      refine ko [1, 2, 3, 14, 15, 16] 2 (by simp; rfl) ?_
      replace hvv1 := bnd hvv1; obtain ⟨y8, hy8, hvv1⟩ := hvv1
      refine kcall [1, 2, 3, 14, 17] [] (ref23_Exists_ok hy8) rfl rfl rfl Tryz.call30 (by simp) (by simp; rfl) ?_
      refine ko [1, 2, 3, 19] 2 (by simp; rfl) ?_
      refine tops_nil ?_
      cases hvv1
      exact ⟨_, rfl, wk (by simp [weak_iff])⟩
set_option maxHeartbeats 1000000 in
theorem ref41_before_ok {a0 : api_Notice} {a1 : api_Notice} {r : Bool} (h0 : ref41_before a0 a1 = some r) : FnOK Tryz.prog 41 [] [.agg (api_Notice_av a0), .agg (api_Notice_av a1)] (.d (.bool r)) [] := by
  unfold ref41_before at h0
  refine fn_ok (nt := 30) (rs := [.tmp 4]) Tryz.func41 rfl Tryz.ntmps41 rfl (by simp) (by decide) rfl fun K => ?_
  refine kr [2, 3] (by simp; rfl) ?_
  refine tr_seq ?_
  refine kr [2, 3, 9] (by simp; rfl) ?_
  refine tr_cond (b := (a0.Time != a1.Time)) (by simp) (fun c1 => ?_) (fun c1 => ?_)
  · rw [if_pos c1] at h0
    refine kr [4] (by simp; rfl) ?_
    cases h0
    exact tr_ret ⟨[], by simp, rfl, by simp⟩
  · rw [if_neg (by rw [c1]; decide)] at h0
    refine tr_skip ?_
    refine tr_seq ?_
    refine kr [2, 3, 19] (by simp; rfl) ?_
    refine tr_cond (b := (a0.Case != a1.Case)) (by simp) (fun c2 => ?_) (fun c2 => ?_)
    · rw [if_pos c2] at h0
      refine kr [4] (by simp; rfl) ?_
      cases h0
      exact tr_ret ⟨[], by simp, rfl, by simp⟩
    · rw [if_neg (by rw [c2]; decide)] at h0
      refine tr_skip ?_
      refine kr [4] (by simp; rfl) ?_
      cases h0
      exact tr_ret ⟨[], by simp, rfl, by simp⟩
set_option maxHeartbeats 1000000 in
theorem ref40_working_ok {a0 : api_Calendar} {a1 : Int} {r : Bool} (h0 : ref40_working a0 a1 = some r) : FnOK Tryz.prog 66 [] [.agg (api_Calendar_av a0), .d (.int .i64 a1)] (.d (.bool r)) [] := by
  unfold ref40_working at h0
  refine fn_ok (nt := 47) (rs := [.tmp 4]) Tryz.func66 rfl Tryz.ntmps66 rfl (by simp) (by decide) rfl fun K => ?_
  refine kr [1, 2] (by simp; rfl) ?_
  refine kd [[], [], [1], [0, 2], [], [], [5], [4, 6], [3], [7]] [] [] none [] 10 fol (by decide +kernel) (by simp) ?_
  replace h0 := bnd h0; obtain ⟨_, p5, h0⟩ := h0
  replace p5 := ck_some p5
  have p5' := p5; try simp at p5'
  replace h0 := bnd h0; obtain ⟨_, p6, h0⟩ := h0
  replace p6 := ck_some p6
  have p6' := p6; try simp at p6'
  refine dr_go 0 2 rfl (by simp (maxSteps := 1000000) [p5, p6, p5', p6']; rfl) ?_
  refine dr_go 2 2 rfl (by simp (maxSteps := 1000000) [p5, p6, p5', p6']; rfl) ?_
  refine dr_go 4 2 rfl (by simp (maxSteps := 1000000) [p5, p6, p5', p6']; rfl) ?_
  refine dr_go 6 2 rfl (by simp (maxSteps := 1000000) [p5, p6, p5', p6']; rfl) ?_
  refine dr_go 8 2 rfl (by simp (maxSteps := 1000000) [p5, p6, p5', p6']; rfl) ?_
  refine dr_end rfl (tops_nil ?_)
  refine tr_seq ?_
  replace h0 := bnd h0; obtain ⟨v1, hvv1, h0⟩ := h0
  refine sjv (fun v1_ : Bool => ({ nt := 47, env := [(2, .ptr 2 0), (5, .d (.int .i64 (IntKind.i64.wrap ((a1).tdiv a0.Day)))), (35, .d (.bool v1_))], box := [(2, [.d (.int .i64 a0.Day), .d (.int .i64 a0.From), .d (.int .i64 a0.To), .d (.int .i64 a0.Week), .d (.slice (rowsF (iRow .i64) a0.Holidays))])], vec := [] } : St)) (fun v1_ => v1 = v1_) (fun v1_ e => ?_) ?_
  · subst e
    refine tr_cond (b := v1) (by simp) (fun c5 => ?_) (fun c5 => ?_)
    · rw [if_pos c5] at h0
      refine kr [4] (by simp; rfl) ?_
      cases h0
      exact tr_ret ⟨[], by simp, rfl, by simp⟩
    · rw [if_neg (by rw [c5]; decide)] at h0
      refine tr_skip ?_
      refine tr_seq ?_
      refine kr [5, 37, 38, 39] (by simp; rfl) ?_
      replace h0 := bnd h0; obtain ⟨e1, hI1, h0⟩ := h0
      refine tjv (fun v2 : Unit => ({ nt := 47, env := [], box := [], vec := [] } : St)) (fun v2 => .inl v2 = e1) (fun v2 hI1e _ W1 => ?_) ?_
      · subst hI1e
        dsimp only at h0
        refine tr_wk W1 ?_
        refine kr [4] (by simp; rfl) ?_
        cases h0
        exact tr_ret ⟨[], by simp, rfl, by simp⟩
      · refine tr_block (tr_iter (fun s3 : Int => ({ nt := 47, env := [(5, .d (.int .i64 (IntKind.i64.wrap ((a1).tdiv a0.Day)))), (37, .d (.slice (rowsF (iRow .i64) a0.Holidays))), (38, .d (.int .i64 ((a0.Holidays).length : Int))), (39, .d (.int .i64 s3))], box := [], vec := [] } : St)) hI1 (wk (by simp [weak_iff])) fun G1 s3 o1 h1 hg1 he1 => ?_)
        unfold ref40_working_l0 at h1
        refine kr [5, 37, 38, 39, 40] (by simp; rfl) ?_
        refine tr_seq ?_
        refine tr_cond (b := (decide (s3 < ((a0.Holidays).length : Int)))) (by simp) (fun c10 => ?_) (fun c10 => ?_)
        · rw [if_pos c10] at h1
          refine tr_skip ?_
          refine tr_seq ?_
          refine tr_block ?_
          replace h1 := bnd h1; obtain ⟨x4, p11, h1⟩ := h1
          replace p11 := idx_some p11
          have p11' := p11; try simp at p11'
          refine kr [5, 8, 37, 38, 39] (by simp [p11, p11']; rfl) ?_
          refine kr [5, 37, 38, 39, 45] (by simp; rfl) ?_
          refine tr_cond (b := (x4 == (IntKind.i64.wrap ((a1).tdiv a0.Day)))) (by simp) (fun c11 => ?_) (fun c11 => ?_)
          · rw [if_pos c11] at h1
            refine kr [4] (by simp; rfl) ?_
            have k1 := he1 _ (Option.some.inj h1)
            subst k1
            dsimp only at h0
            cases h0
            exact tr_ret ⟨[], by simp, rfl, by simp⟩
          · rw [if_neg (by rw [c11]; decide)] at h1
            refine tr_skip ?_
            refine lr (by simp; rfl) ?_
            exact ⟨_, hg1 _ (Option.some.inj h1), wk (by simp [weak_iff])⟩
        · rw [if_neg (by rw [c10]; decide)] at h1
          refine tr_exit ?_
          exact ⟨_, he1 _ (Option.some.inj h1), wk (by simp [weak_iff])⟩
  · refine kc1 ?_
    refine ko [2, 5, 6, 21] 5 (by simp; rfl) ?_
    refine tops_split 21 (decide (((a1).tmod a0.Day) < a0.From)) (by simp) (fun c12 => ?_) (fun c12 => ?_)
    · rw [if_pos c12] at hvv1
      refine kskip 4 [] (by kernel_rfl) ?_
      refine ko [2, 5, 27] 2 (by simp; rfl) ?_
      refine kskip 7 [] (by kernel_rfl) ?_
      refine ko [2, 5, 35] 1 (by simp; rfl) ?_
      refine tops_nil ?_
      cases hvv1
      exact ⟨_, rfl, wk (by simp [weak_iff])⟩
    · rw [if_neg (by rw [c12]; decide)] at hvv1
      refine ko [2, 5, 27] 6 (by simp; rfl) ?_
      refine tops_split 27 (decide (a0.To ≤ ((a1).tmod a0.Day))) (by simp) (fun c13 => ?_) (fun c13 => ?_)
      · rw [if_pos c13] at hvv1
        refine kskip 7 [] (by kernel_rfl) ?_
        refine ko [2, 5, 35] 1 (by simp; rfl) ?_
        refine tops_nil ?_
        cases hvv1
        exact ⟨_, rfl, wk (by simp [weak_iff])⟩
      · rw [if_neg (by rw [c13]; decide)] at hvv1
        replace hvv1 := bnd hvv1; obtain ⟨_, p12, hvv1⟩ := hvv1
        replace p12 := ck_some p12
        have p12' := p12; try simp at p12'
        refine ko [2, 5, 35] 8 (by simp [p12, p12']; rfl) ?_
        refine tops_nil ?_
        cases hvv1
        exact ⟨_, rfl, wk (by simp [weak_iff])⟩
set_option maxHeartbeats 1000000 in
theorem ref40_Add_ok {a0 : api_Calendar} {a1 : Int} {a2 : Int} {r : Int × Int} (h0 : ref40_Add a0 a1 a2 = some r) : FnOK Tryz.prog 42 [] [.agg (api_Calendar_av a0), .d (.int .i64 a1), .d (.int .i64 a2)] (.tup [.d (.int .i64 r.1), .d (.int .i64 r.2)]) [] := by
  unfold ref40_Add at h0
  refine fn_ok (nt := 39) (rs := [.tmp 6, .tmp 7]) Tryz.func42 rfl Tryz.ntmps42 rfl (by simp) (by decide) rfl fun K => ?_
  refine kr [1, 2, 3] (by simp; rfl) ?_
  refine tr_seq ?_
  refine kc ?_
  refine ko [1, 2, 3, 9] 1 (by simp; rfl) ?_
  replace h0 := bnd h0; obtain ⟨y1, hy1, h0⟩ := h0
  refine kcall [1, 2, 3, 10] [] (ref40_Valid_ok hy1) rfl rfl rfl Tryz.call61 (by simp) (by simp; rfl) ?_
  refine ko [1, 2, 3, 11] 1 (by simp; rfl) ?_
  refine tops_nil ?_
  refine tr_cond (b := (!y1)) (by simp) (fun c1 => ?_) (fun c1 => ?_)
  · rw [if_pos c1] at h0
    refine kr [6, 7] (by simp; rfl) ?_
    cases h0
    exact tr_ret ⟨[], by simp, rfl, by simp⟩
  · rw [if_neg (by rw [c1]; decide)] at h0
    refine tr_skip ?_
    refine tr_seq ?_
    replace h0 := bnd h0; obtain ⟨v2, hvv2, h0⟩ := h0
    refine sjv (fun v2_ : Bool => ({ nt := 39, env := [(1, .d (.int .i64 a1)), (2, .d (.int .i64 a2)), (3, .ptr 3 0), (19, .d (.bool v2_))], box := [(3, [.d (.int .i64 a0.Day), .d (.int .i64 a0.From), .d (.int .i64 a0.To), .d (.int .i64 a0.Week), .d (.slice (rowsF (iRow .i64) a0.Holidays))])], vec := [] } : St)) (fun v2_ => v2 = v2_) (fun v2_ e => ?_) ?_
    · subst e
      refine tr_cond (b := v2) (by simp) (fun c4 => ?_) (fun c4 => ?_)
      · rw [if_pos c4] at h0
        refine kr [6, 7] (by simp; rfl) ?_
        cases h0
        exact tr_ret ⟨[], by simp, rfl, by simp⟩
      · rw [if_neg (by rw [c4]; decide)] at h0
        refine tr_skip ?_
        refine kr [1, 2, 3, 8] (by simp; rfl) ?_
        replace h0 := bnd h0; obtain ⟨e1, hI1, h0⟩ := h0
        refine sjv (fun v3 : Int => ({ nt := 39, env := [(8, .d (.int .i64 v3))], box := [], vec := [] } : St)) (fun v3 => .inl v3 = e1) (fun v3 hI1e => ?_) ?_
        · subst hI1e
          dsimp only at h0
          refine kr [6, 7] (by simp; rfl) ?_
          cases h0
          exact tr_ret ⟨[], by simp, rfl, by simp⟩
        · refine tr_block (tr_iter (fun s4 : Int × Int => ({ nt := 39, env := [(1, .d (.int .i64 a1)), (2, .d (.int .i64 s4.1)), (3, .ptr 3 0), (8, .d (.int .i64 s4.2))], box := [(3, [.d (.int .i64 a0.Day), .d (.int .i64 a0.From), .d (.int .i64 a0.To), .d (.int .i64 a0.Week), .d (.slice (rowsF (iRow .i64) a0.Holidays))])], vec := [] } : St)) hI1 (wk (by simp [weak_iff])) fun G1 s4 o1 h1 hg1 he1 => ?_)
          unfold ref40_Add_l0 at h1
          refine tr_seq ?_
          refine kr [1, 2, 3, 8, 22] (by simp; rfl) ?_
          refine tr_cond (b := (decide (0 < s4.1))) (by simp) (fun c13 => ?_) (fun c13 => ?_)
          · rw [if_pos c13] at h1
            refine tr_skip ?_
            refine tr_block ?_
            refine tr_seq ?_
            replace h1 := bnd h1; obtain ⟨v5, hvv5, h1⟩ := h1
            refine sjv (fun v5_ : Bool => ({ nt := 39, env := [(1, .d (.int .i64 a1)), (2, .d (.int .i64 s4.1)), (3, .ptr 3 0), (8, .d (.int .i64 s4.2)), (30, .d (.bool v5_))], box := [(3, [.d (.int .i64 a0.Day), .d (.int .i64 a0.From), .d (.int .i64 a0.To), .d (.int .i64 a0.Week), .d (.slice (rowsF (iRow .i64) a0.Holidays))])], vec := [] } : St)) (fun v5_ => v5 = v5_) (fun v5_ e => ?_) ?_
            · subst e
              refine tr_cond (b := v5) (by simp) (fun c16 => ?_) (fun c16 => ?_)
              · rw [if_pos c16] at h1
                refine kr [6, 7] (by simp; rfl) ?_
                have k1 := he1 _ (Option.some.inj h1)
                subst k1
                dsimp only at h0
                cases h0
                exact tr_ret ⟨[], by simp, rfl, by simp⟩
              · rw [if_neg (by rw [c16]; decide)] at h1
                refine tr_skip ?_
                refine tr_seq ?_
                refine kc ?_
                refine ko [1, 2, 3, 8, 31, 32] 2 (by simp; rfl) ?_
                replace h1 := bnd h1; obtain ⟨y6, hy6, h1⟩ := h1
                refine kcall [1, 2, 3, 8, 33] [] (ref40_working_ok hy6) rfl rfl rfl Tryz.call66 (by simp) (by simp; rfl) ?_
                refine tops_nil ?_
                refine tr_cond (b := y6) (by simp) (fun c17 => ?_) (fun c17 => ?_)
                · rw [if_pos c17] at h1
                  refine lr (by simp; rfl) ?_
                  refine lr (by simp; rfl) ?_
                  exact ⟨_, hg1 _ (Option.some.inj h1), wk (by simp [weak_iff])⟩
                · rw [if_neg (by rw [c17]; decide)] at h1
                  refine tr_skip ?_
                  refine lr (by simp; rfl) ?_
                  exact ⟨_, hg1 _ (Option.some.inj h1), wk (by simp [weak_iff])⟩
            · refine kc1 ?_
              refine ko [1, 2, 3, 8, 27] 5 (by simp; rfl) ?_
              refine tops_split 27 (decide ((IntKind.i64.wrap (a1 + 100000)) ≤ s4.2)) (by simp) (fun c18 => ?_) (fun c18 => ?_)
              · rw [c18] at hvv5
                refine ko [1, 2, 3, 8, 28, 29, 30] 3 (by simp; rfl) ?_
                refine tops_nil ?_
                cases hvv5
                exact ⟨_, rfl, wk (by simp [weak_iff])⟩
              · rw [c18] at hvv5
                refine ko [1, 2, 3, 8, 28, 29, 30] 3 (by simp; rfl) ?_
                refine tops_nil ?_
                cases hvv5
                exact ⟨_, rfl, wk (by simp [weak_iff])⟩
          · rw [if_neg (by rw [c13]; decide)] at h1
            refine tr_exit ?_
            exact ⟨_, he1 _ (Option.some.inj h1), wk (by simp [weak_iff])⟩
    · refine kc1 ?_
      refine ko [1, 2, 3, 12] 1 (by simp; rfl) ?_
      replace hvv2 := bnd hvv2; obtain ⟨y9, hy9, hvv2⟩ := hvv2
      refine kcall [1, 2, 3, 13] [] (ref40_in_ok hy9) rfl rfl rfl Tryz.call65 (by simp) (by simp; rfl) ?_
      refine ko [1, 2, 3, 15] 2 (by simp; rfl) ?_
      refine tops_split 15 (!y9) (by simp) (fun c19 => ?_) (fun c19 => ?_)
      · rw [if_pos c19] at hvv2
        refine kskip 3 [] (by kernel_rfl) ?_
        refine ko [1, 2, 3, 19] 1 (by simp; rfl) ?_
        refine tops_nil ?_
        cases hvv2
        exact ⟨_, rfl, wk (by simp [weak_iff])⟩
      · rw [if_neg (by rw [c19]; decide)] at hvv2
        refine ko [1, 2, 3, 15, 16] 1 (by simp; rfl) ?_
        replace hvv2 := bnd hvv2; obtain ⟨y10, hy10, hvv2⟩ := hvv2
        refine kcall [1, 2, 3, 15, 17] [] (ref40_in_ok hy10) rfl rfl rfl Tryz.call65 (by simp) (by simp; rfl) ?_
        refine ko [1, 2, 3, 19] 2 (by simp; rfl) ?_
        refine tops_nil ?_
        cases hvv2
        exact ⟨_, rfl, wk (by simp [weak_iff])⟩
end Go.Vl
