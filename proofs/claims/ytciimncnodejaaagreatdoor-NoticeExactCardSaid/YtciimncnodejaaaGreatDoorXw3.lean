/- Walks: each function of the given program computes what its mirror says. Conditions: none. -/
import Derived.Test.YtciimncnodejaaaGreatDoorVmQ
import Derived.Test.YtciimncnodejaaaGreatDoorXw2
set_option linter.unusedSimpArgs false
set_option linter.unusedVariables false
namespace Go.Vl
open Go Go.Proofs
set_option maxHeartbeats 1000000 in
theorem ref41_answered_ok {a0 : List api_Case} {a1 : Int} {a2 : Int} {r : Bool} (h0 : ref41_answered a0 a1 a2 = some r) : FnOK Tryz.prog 43 [] [.d (.slice (rowsF api_Case_row a0)), .d (.int .i64 a1), .d (.int .i64 a2)] (.d (.bool r)) [] := by
  unfold ref41_answered at h0
  refine fn_ok (nt := 33) (rs := [.tmp 6]) Tryz.func43 rfl Tryz.ntmps43 rfl (by simp) (by decide) rfl fun K => ?_
  refine kr [0, 1, 2] (by simp; rfl) ?_
  refine tr_seq ?_
  replace h0 := bnd h0; obtain ⟨_, p1, h0⟩ := h0
  replace p1 := ck_some p1
  have p1' := p1; try simp at p1'
  refine kr [0, 1, 2, 12, 13, 14] (by simp [p1, p1']; rfl) ?_
  replace h0 := bnd h0; obtain ⟨e1, hI1, h0⟩ := h0
  refine tjv (fun v1 : Unit => ({ nt := 33, env := [], box := [], vec := [] } : St)) (fun v1 => .inl v1 = e1) (fun v1 hI1e _ W1 => ?_) ?_
  · subst hI1e
    dsimp only at h0
    refine tr_wk W1 ?_
    refine kr [6] (by simp; rfl) ?_
    cases h0
    exact tr_ret ⟨[], by simp, rfl, by simp⟩
  · refine tr_block (tr_iter (fun s2 : Int => ({ nt := 33, env := [(0, .d (.slice (rowsF api_Case_row a0))), (1, .d (.int .i64 a1)), (2, .d (.int .i64 a2)), (12, .d (.slice (rowsF api_Case_row ((a0).drop (Int.toNat (IntKind.i64.wrap (a1 + 1))))))), (13, .d (.int .i64 ((((a0).drop (Int.toNat (IntKind.i64.wrap (a1 + 1))))).length : Int))), (14, .d (.int .i64 s2))], box := [], vec := [] } : St)) hI1 (wk (by simp [weak_iff])) fun G1 s2 o1 h1 hg1 he1 => ?_)
    unfold ref41_answered_l0 at h1
    refine kr [0, 1, 2, 12, 13, 14, 15] (by simp; rfl) ?_
    refine tr_seq ?_
    refine tr_cond (b := (decide (s2 < ((((a0).drop (Int.toNat (IntKind.i64.wrap (a1 + 1))))).length : Int)))) (by simp) (fun c11 => ?_) (fun c11 => ?_)
    · rw [if_pos c11] at h1
      refine tr_skip ?_
      refine tr_seq ?_
      refine tr_block ?_
      replace h1 := bnd h1; obtain ⟨x3, p10, h1⟩ := h1
      replace p10 := idx_some p10
      have p10' := p10; try simp at p10'
      refine kr [0, 1, 2, 8, 12, 13, 14] (by simp [p10, p10']; rfl) ?_
      replace h1 := bnd h1; obtain ⟨v4, hvv4, h1⟩ := h1
      refine sjv (fun v4_ : Bool => ({ nt := 33, env := [(0, .d (.slice (rowsF api_Case_row a0))), (1, .d (.int .i64 a1)), (2, .d (.int .i64 a2)), (12, .d (.slice (rowsF api_Case_row ((a0).drop (Int.toNat (IntKind.i64.wrap (a1 + 1))))))), (13, .d (.int .i64 ((((a0).drop (Int.toNat (IntKind.i64.wrap (a1 + 1))))).length : Int))), (14, .d (.int .i64 s2)), (31, .d (.bool v4_))], box := [], vec := [] } : St)) (fun v4_ => v4 = v4_) (fun v4_ e => ?_) ?_
      · subst e
        refine tr_cond (b := v4) (by simp) (fun c18 => ?_) (fun c18 => ?_)
        · rw [if_pos c18] at h1
          refine kr [6] (by simp; rfl) ?_
          have k1 := he1 _ (Option.some.inj h1)
          subst k1
          dsimp only at h0
          cases h0
          exact tr_ret ⟨[], by simp, rfl, by simp⟩
        · rw [if_neg (by rw [c18]; decide)] at h1
          refine tr_skip ?_
          refine lr (by simp; rfl) ?_
          exact ⟨_, hg1 _ (Option.some.inj h1), wk (by simp [weak_iff])⟩
      · refine kd1 [[], [0], [], [], [2, 3], [4], [5], [1, 6], [7], [8], [8, 9], [8], [8, 10, 11], [8, 12]] [] [] none [] 14 fol (by decide +kernel) (by simp) ?_
        replace hvv4 := bnd hvv4; obtain ⟨x5, p19, hvv4⟩ := hvv4
        replace p19 := idx_some p19
        have p19' := p19; try simp at p19'
        refine dr_go 0 2 rfl (by simp (maxSteps := 1000000) [p19, p19']; rfl) ?_
        refine dr_go 2 2 rfl (by simp (maxSteps := 1000000) [p19, p19']; rfl) ?_
        refine dr_go 4 2 rfl (by simp (maxSteps := 1000000) [p19, p19']; rfl) ?_
        refine dr_go 6 2 rfl (by simp (maxSteps := 1000000) [p19, p19']; rfl) ?_
        refine dr_go 8 1 rfl (by simp (maxSteps := 1000000) [p19, p19']; rfl) ?_
        refine dr_split 8 26 (x3.Case == x5.Case) (by simp) (fun c21 => ?_) (fun c21 => ?_)
        · rw [if_pos c21] at hvv4
          refine dr_go 9 2 rfl (by simp (maxSteps := 1000000); rfl) ?_
          refine dr_go 11 2 rfl (by simp (maxSteps := 1000000); rfl) ?_
          refine dr_go 13 1 rfl (by simp (maxSteps := 1000000); rfl) ?_
          refine dr_end rfl (tops_nil ?_)
          cases hvv4
          exact ⟨_, rfl, wk (by simp [weak_iff])⟩
        · rw [if_neg (by rw [c21]; decide)] at hvv4
          refine dr_skip 9 33 [some 27, some 28, some 29, some 30] rfl rfl (by decide) (by kernel_rfl) (by simp only [skEf, List.map_cons, List.map_nil, List.cons_append, List.nil_append]; rfl) ?_
          refine dr_go 13 1 rfl (by simp (maxSteps := 1000000); rfl) ?_
          refine dr_end rfl (tops_nil ?_)
          cases hvv4
          exact ⟨_, rfl, wk (by simp [weak_iff])⟩
    · rw [if_neg (by rw [c11]; decide)] at h1
      refine tr_exit ?_
      exact ⟨_, he1 _ (Option.some.inj h1), wk (by simp [weak_iff])⟩
set_option maxHeartbeats 1000000 in
theorem ref41_All_ok {a0 : api_Calendar} {a1 : api_Directory} {a2 : List api_Steward} {a3 : List api_Case} {a4 : Int} {r : (List api_Notice) × Int} (h0 : ref41_All a0 a1 a2 a3 a4 = some r) : FnOK Tryz.prog 16 [] [.agg (api_Calendar_av a0), .agg (api_Directory_av a1), .d (.slice (rowsF api_Steward_row a2)), .d (.slice (rowsF api_Case_row a3)), .d (.int .i64 a4)] (.tup [.d (.slice (rowsF api_Notice_row r.1)), .d (.int .i64 r.2)]) [] := by
  unfold ref41_All at h0
  refine fn_okK (nt := 117) (rs := [.tmp 10, .tmp 11]) Tryz.func16 rfl Tryz.ntmps16 rfl (by simp) (by decide) rfl fun K hK => ?_
  refine kr [2, 3, 4, 5, 6] (by simp; rfl) ?_
  refine tr_seq ?_
  refine kc ?_
  refine ko [2, 3, 4, 5, 6, 23, 24, 25, 26, 27] 5 (by simp; rfl) ?_
  replace h0 := bnd h0; obtain ⟨y1, hy1, h0⟩ := h0
  refine kcall [2, 3, 4, 5, 6, 28] [] (ref41_check_ok hy1) rfl rfl rfl Tryz.call39 (by simp) (by simp; rfl) ?_
  refine ko [2, 3, 4, 5, 6, 12] 1 (by simp; rfl) ?_
  refine tops_nil ?_
  refine kr [2, 3, 4, 5, 6, 12, 30] (by simp; rfl) ?_
  refine tr_cond (b := (y1 != 0)) (by simp) (fun c1 => ?_) (fun c1 => ?_)
  · rw [if_pos c1] at h0
    refine kr [10, 11] (by simp; rfl) ?_
    cases h0
    exact tr_ret ⟨[], by simp, rfl, by simp⟩
  · rw [if_neg (by rw [c1]; decide)] at h0
    refine tr_skip ?_
    refine kr [2, 3, 4, 5, 6, 13] (by simp; rfl) ?_
    refine tr_seq ?_
    refine kr [2, 3, 4, 5, 6, 13, 32, 33, 34] (by simp; rfl) ?_
    refine tr_wk (wk_own 13 95 59 4 (by simp) (by simp)) ?_
    replace h0 := bnd h0; obtain ⟨e1, hI1, h0⟩ := h0
    refine tjv (fun v2 : (List api_Notice) => ({ nt := 117, env := [(13, .vec 95)], box := [], vec := [(95, ⟨59, 4, rowsF api_Notice_row v2⟩)] } : St)) (fun v2 => .inl v2 = e1) (fun v2 hI1e _ W1 => ?_) ?_
    · subst hI1e
      dsimp only at h0
      refine tr_wk W1 ?_
      refine kr [10, 11] (by simp; rfl) ?_
      cases h0
      exact tr_ret ⟨[95], by simp, rfl, by simp⟩
    · refine tr_block (tr_iter (fun s3 : Int × (List api_Notice) => ({ nt := 117, env := [(2, .d (.slice (rowsF api_Steward_row a2))), (3, .d (.slice (rowsF api_Case_row a3))), (4, .d (.int .i64 a4)), (5, .ptr 5 0), (6, .ptr 6 0), (13, .vec 95), (32, .d (.slice (rowsF api_Case_row a3))), (33, .d (.int .i64 ((a3).length : Int))), (34, .d (.int .i64 s3.1))], box := [(5, [.d (.int .i64 a0.Day), .d (.int .i64 a0.From), .d (.int .i64 a0.To), .d (.int .i64 a0.Week), .d (.slice (rowsF (iRow .i64) a0.Holidays))]), (6, [.d (.slice (rowsF (iRow .i64) a1.Kinds)), .d (.slice (rowsF api_Member_row a1.Events))])], vec := [(95, ⟨59, 4, rowsF api_Notice_row s3.2⟩)] } : St)) hI1 (wk (by simp [weak_iff])) fun G1 s3 o1 h1 hg1 he1 => ?_)
      unfold ref41_All_l0 at h1
      refine kr [2, 3, 4, 5, 6, 13, 32, 33, 34, 35] (by simp; rfl) ?_
      refine tr_seq ?_
      refine tr_cond (b := (decide (s3.1 < ((a3).length : Int)))) (by simp) (fun c99 => ?_) (fun c99 => ?_)
      · rw [if_pos c99] at h1
        refine tr_skip ?_
        refine tr_seq ?_
        refine tr_block ?_
        replace h1 := bnd h1; obtain ⟨x4, p164, h1⟩ := h1
        replace p164 := idx_some p164
        have p164' := p164; try simp at p164'
        refine kr [2, 3, 4, 5, 6, 13, 14, 15, 32, 33, 34] (by simp [p164, p164']; rfl) ?_
        refine tr_seq ?_
        refine kr [2, 3, 4, 5, 6, 13, 14, 15, 32, 33, 34, 41] (by simp; rfl) ?_
        refine tr_cond (b := (x4.Kind != 1)) (by simp) (fun c100 => ?_) (fun c100 => ?_)
        · rw [if_pos c100] at h1
          refine tr_exit ?_
          refine lr (by simp; rfl) ?_
          exact ⟨_, hg1 _ (Option.some.inj h1), wk (by simp [weak_iff])⟩
        · rw [if_neg (by rw [c100]; decide)] at h1
          refine tr_skip ?_
          refine kr [2, 3, 4, 5, 6, 13, 14, 15, 16, 32, 33, 34] (by simp; rfl) ?_
          refine kr [2, 3, 4, 5, 6, 13, 14, 15, 16, 17, 32, 33, 34] (by simp; rfl) ?_
          replace h1 := bnd h1; obtain ⟨e2, hI2, h1⟩ := h1
          refine tjv (fun v5 : (List api_Notice) => ({ nt := 117, env := [(2, .d (.slice (rowsF api_Steward_row a2))), (3, .d (.slice (rowsF api_Case_row a3))), (4, .d (.int .i64 a4)), (5, .ptr 5 0), (6, .ptr 6 0), (13, .vec 95), (32, .d (.slice (rowsF api_Case_row a3))), (33, .d (.int .i64 ((a3).length : Int))), (34, .d (.int .i64 s3.1))], box := [(5, [.d (.int .i64 a0.Day), .d (.int .i64 a0.From), .d (.int .i64 a0.To), .d (.int .i64 a0.Week), .d (.slice (rowsF (iRow .i64) a0.Holidays))]), (6, [.d (.slice (rowsF (iRow .i64) a1.Kinds)), .d (.slice (rowsF api_Member_row a1.Events))])], vec := [(95, ⟨59, 4, rowsF api_Notice_row v5⟩)] } : St)) (fun v5 => .inl v5 = e2) (fun v5 hI2e _ W2 => ?_) ?_
          · subst hI2e
            dsimp only at h1
            refine tr_wk W2 ?_
            refine lr (by simp; rfl) ?_
            exact ⟨_, hg1 _ (Option.some.inj h1), wk (by simp [weak_iff])⟩
          · refine tr_block (tr_iter (fun s6 : Int × Int × (List api_Notice) => ({ nt := 117, env := [(2, .d (.slice (rowsF api_Steward_row a2))), (3, .d (.slice (rowsF api_Case_row a3))), (4, .d (.int .i64 a4)), (5, .ptr 5 0), (6, .ptr 6 0), (13, .vec 95), (14, .d (.int .i64 s3.1)), (15, .ptr 15 0), (16, .d (.int .i64 s6.1)), (17, .d (.int .i64 s6.2.1)), (32, .d (.slice (rowsF api_Case_row a3))), (33, .d (.int .i64 ((a3).length : Int))), (34, .d (.int .i64 s3.1))], box := [(5, [.d (.int .i64 a0.Day), .d (.int .i64 a0.From), .d (.int .i64 a0.To), .d (.int .i64 a0.Week), .d (.slice (rowsF (iRow .i64) a0.Holidays))]), (6, [.d (.slice (rowsF (iRow .i64) a1.Kinds)), .d (.slice (rowsF api_Member_row a1.Events))]), (15, [.d (.int .i64 x4.Time), .d (.int .i64 x4.Kind), .d (.int .i64 x4.Case), .d (.int .i64 x4.Level), .d (.int .i64 x4.Owner)])], vec := [(95, ⟨59, 4, rowsF api_Notice_row s6.2.2⟩)] } : St)) hI2 (wk (by simp [weak_iff])) fun G2 s6 o2 h2 hg2 he2 => ?_)
            unfold ref41_All_l1 at h2
            refine tr_seq ?_
            replace h2 := bnd h2; obtain ⟨v7, hvv7, h2⟩ := h2
            refine sjv (fun v7_ : Bool => ({ nt := 117, env := [(2, .d (.slice (rowsF api_Steward_row a2))), (3, .d (.slice (rowsF api_Case_row a3))), (4, .d (.int .i64 a4)), (5, .ptr 5 0), (6, .ptr 6 0), (13, .vec 95), (14, .d (.int .i64 s3.1)), (15, .ptr 15 0), (16, .d (.int .i64 s6.1)), (17, .d (.int .i64 s6.2.1)), (32, .d (.slice (rowsF api_Case_row a3))), (33, .d (.int .i64 ((a3).length : Int))), (34, .d (.int .i64 s3.1)), (50, .d (.bool v7_))], box := [(5, [.d (.int .i64 a0.Day), .d (.int .i64 a0.From), .d (.int .i64 a0.To), .d (.int .i64 a0.Week), .d (.slice (rowsF (iRow .i64) a0.Holidays))]), (6, [.d (.slice (rowsF (iRow .i64) a1.Kinds)), .d (.slice (rowsF api_Member_row a1.Events))]), (15, [.d (.int .i64 x4.Time), .d (.int .i64 x4.Kind), .d (.int .i64 x4.Case), .d (.int .i64 x4.Level), .d (.int .i64 x4.Owner)])], vec := [(95, ⟨59, 4, rowsF api_Notice_row s6.2.2⟩)] } : St)) (fun v7_ => v7 = v7_) (fun v7_ e => ?_) ?_
            · subst e
              refine tr_cond (b := v7) (by simp) (fun c129 => ?_) (fun c129 => ?_)
              · rw [if_pos c129] at h2
                refine tr_skip ?_
                refine tr_seq ?_
                refine tr_block ?_
                refine kc ?_
                refine ko [2, 3, 4, 5, 6, 13, 14, 15, 16, 17, 32, 33, 34, 53, 54, 56, 57] 5 (by simp; rfl) ?_
                replace h2 := bnd h2; obtain ⟨y8, hy8, h2⟩ := h2
                refine kcall [2, 3, 4, 5, 6, 13, 14, 15, 16, 17, 32, 33, 34, 58] [] (ref26_Way_ok hy8) rfl rfl rfl Tryz.call40 (by simp) (by simp; rfl) ?_
                refine ko [2, 3, 4, 5, 6, 13, 14, 15, 16, 17, 18, 32, 33, 34] 1 (by simp; rfl) ?_
                refine tops_nil ?_
                refine kd [[], [], [1], [], [], [], [5], [6], [4, 6, 7], [3, 6, 8], [6, 8, 9], [], [0, 2, 6, 8, 10, 11], [], [6, 8, 12, 13]] [13, 14] [(19, [13, 14])] none [] 15 fol (by decide +kernel) (by simp) ?_
                replace h2 := bnd h2; obtain ⟨x9, p215, h2⟩ := h2
                replace p215 := idx_some p215
                have p215' := p215; try simp at p215'
                refine dr_go 0 2 rfl (by simp (maxSteps := 1000000) [p215, p215']; rfl) ?_
                refine dr_go 2 2 rfl (by simp (maxSteps := 1000000) [p215, p215']; rfl) ?_
                refine dr_go 4 2 rfl (by simp (maxSteps := 1000000) [p215, p215']; rfl) ?_
                refine dr_go 6 2 rfl (by simp (maxSteps := 1000000) [p215, p215']; rfl) ?_
                refine dr_go 8 2 rfl (by simp (maxSteps := 1000000) [p215, p215']; rfl) ?_
                refine dr_go 10 2 rfl (by simp (maxSteps := 1000000) [p215, p215']; rfl) ?_
                refine dr_go 12 2 rfl (by simp (maxSteps := 1000000) [p215, p215']; rfl) ?_
                refine dr_go 14 1 rfl (by simp (maxSteps := 1000000) [p215, p215']; rfl) ?_
                refine dr_end rfl (tops_nil ?_)
                refine kr [2, 3, 4, 5, 6, 13, 14, 15, 16, 17, 19, 20, 32, 33, 34] (by simp; rfl) ?_
                replace h2 := bnd h2; obtain ⟨e3, hI3, h2⟩ := h2
                refine sjv (fun v10 : Int => ({ nt := 117, env := [(2, .d (.slice (rowsF api_Steward_row a2))), (3, .d (.slice (rowsF api_Case_row a3))), (4, .d (.int .i64 a4)), (5, .ptr 5 0), (6, .ptr 6 0), (13, .vec 95), (14, .d (.int .i64 s3.1)), (15, .ptr 15 0), (16, .d (.int .i64 s6.1)), (17, .d (.int .i64 s6.2.1)), (19, .ptr 19 0), (20, .d (.int .i64 v10)), (32, .d (.slice (rowsF api_Case_row a3))), (33, .d (.int .i64 ((a3).length : Int))), (34, .d (.int .i64 s3.1))], box := [(5, [.d (.int .i64 a0.Day), .d (.int .i64 a0.From), .d (.int .i64 a0.To), .d (.int .i64 a0.Week), .d (.slice (rowsF (iRow .i64) a0.Holidays))]), (6, [.d (.slice (rowsF (iRow .i64) a1.Kinds)), .d (.slice (rowsF api_Member_row a1.Events))]), (15, [.d (.int .i64 x4.Time), .d (.int .i64 x4.Kind), .d (.int .i64 x4.Case), .d (.int .i64 x4.Level), .d (.int .i64 x4.Owner)]), (19, [.d (.int .i64 s6.1), .d (.int .i64 x4.Case), .d (.int .i64 x9), .d (.int .i64 s6.2.1)])], vec := [(95, ⟨59, 4, rowsF api_Notice_row s6.2.2⟩)] } : St)) (fun v10 => v10 = e3) (fun v10 hI3e => ?_) ?_
                · subst hI3e
                  replace h2 := bnd h2; obtain ⟨_, p228, h2⟩ := h2
                  replace p228 := ck_some p228
                  have p228' := p228; try simp at p228'
                  replace h2 := bnd h2; obtain ⟨_, p229, h2⟩ := h2
                  replace p229 := ck_some p229
                  have p229' := p229; try simp at p229'
                  replace h2 := bnd h2; obtain ⟨_, p230, h2⟩ := h2
                  replace p230 := ck_some p230
                  have p230' := p230; try simp at p230'
                  replace h2 := bnd h2; obtain ⟨_, p231, h2⟩ := h2
                  replace p231 := ck_some p231
                  have p231' := p231; try simp at p231'
                  replace h2 := bnd h2; obtain ⟨_, p232, h2⟩ := h2
                  replace p232 := ck_some p232
                  have p232' := p232; try simp at p232'
                  replace h2 := bnd h2; obtain ⟨_, p233, h2⟩ := h2
                  replace p233 := ck_some p233
                  have p233' := p233; try simp at p233'
                  refine kheld (S0 := ({ nt := 117, env := [(2, .d (.slice (rowsF api_Steward_row a2))), (3, .d (.slice (rowsF api_Case_row a3))), (4, .d (.int .i64 a4)), (5, .ptr 5 0), (6, .ptr 6 0), (13, .vec 95), (14, .d (.int .i64 s3.1)), (15, .ptr 15 0), (16, .d (.int .i64 s6.1)), (17, .d (.int .i64 s6.2.1)), (32, .d (.slice (rowsF api_Case_row a3))), (33, .d (.int .i64 ((a3).length : Int))), (34, .d (.int .i64 s3.1))], box := [(5, [.d (.int .i64 a0.Day), .d (.int .i64 a0.From), .d (.int .i64 a0.To), .d (.int .i64 a0.Week), .d (.slice (rowsF (iRow .i64) a0.Holidays))]), (6, [.d (.slice (rowsF (iRow .i64) a1.Kinds)), .d (.slice (rowsF api_Member_row a1.Events))]), (15, [.d (.int .i64 x4.Time), .d (.int .i64 x4.Kind), .d (.int .i64 x4.Case), .d (.int .i64 x4.Level), .d (.int .i64 x4.Owner)])], vec := [(95, ⟨59, 4, rowsF api_Notice_row (((s6.2.2).take (Int.toNat v10)) ++ ([(⟨s6.1, x4.Case, x9, s6.2.1⟩ : api_Notice)] ++ ((((s6.2.2).drop (Int.toNat v10))).take ((s6.2.2).length - (Int.toNat v10)))))⟩)] } : St)) [0, 1, 2, 5, 6, 7] 5 (by simpa using hK) fol (by decide +kernel) rfl rfl rfl (by simp [stillsL, stillB, pureP, pureB, p228, p229, p230, p231, p232, p233, p228', p229', p230', p231', p232', p233']; rfl) (fun K' S F C => ?_) ?_
                  ·
                    refine ho_all C [3] (by decide +kernel) (by decide) ?_
                    refine hall_cons rfl (by simp [p228, p229, p230, p231, p232, p233, p228', p229', p230', p231', p232', p233']; rfl) ?_ ?_
                    ·
                      refine ho_all C [4] (by decide +kernel) (by decide) ?_
                      refine hall_cons rfl (by simp [p228, p229, p230, p231, p232, p233, p228', p229', p230', p231', p232', p233']; rfl) ?_ ?_
                      ·
                        refine ho_all C [8] (by decide +kernel) (by decide) ?_
                        refine hall_cons rfl (by simp [p228, p229, p230, p231, p232, p233, p228', p229', p230', p231', p232', p233']; rfl) ?_ ?_
                        ·
                          refine ho_all C [9] (by decide +kernel) (by decide) ?_
                          refine hall_cons rfl (by simp [p228, p229, p230, p231, p232, p233, p228', p229', p230', p231', p232', p233']; rfl) ?_ ?_
                          ·
                            refine ho_pure C 10 rfl (by decide +kernel) (by decide +kernel) (by simp [pureP, pureB]) (by simp [p228, p229, p230, p231, p232, p233, p228', p229', p230', p231', p232', p233']; rfl) ?_
                            exact ho_end C (by decide +kernel) ⟨rfl, weak_iff.2 (by simp)⟩
                          exact trivial
                        exact trivial
                      exact trivial
                    exact trivial
                  ·
                    refine tr_seq ?_
                    refine kr [2, 3, 4, 5, 6, 13, 14, 15, 16, 17, 32, 33, 34, 97] (by simp; rfl) ?_
                    refine tr_cond (b := (s6.2.1 == 3)) (by simp) (fun c138 => ?_) (fun c138 => ?_)
                    · rw [if_pos c138] at h2
                      refine tr_exit ?_
                      exact ⟨_, he2 _ (Option.some.inj h2), wk (by simp [weak_iff])⟩
                    · rw [if_neg (by rw [c138]; decide)] at h2
                      refine tr_skip ?_
                      refine kd [[], [], [], [2], [3], [0, 1, 4], [5], [6], [6], [7], [8]] [] [] none [] 11 fol (by decide +kernel) (by simp) ?_
                      refine dr_go 0 2 rfl (by simp (maxSteps := 1000000); rfl) ?_
                      refine dr_go 2 2 rfl (by simp (maxSteps := 1000000); rfl) ?_
                      replace h2 := bnd h2; obtain ⟨y11, hy11, h2⟩ := h2
                      refine dr_call 4 [] (ref41_Deadline_ok hy11) rfl rfl rfl rfl rfl Tryz.call12 (by simp) ?_
                      replace h2 := bnd h2; obtain ⟨y12, hy12, h2⟩ := h2
                      refine dr_call 5 [] (ref40_Add_ok hy12) rfl rfl rfl rfl rfl Tryz.call42 (by simp) ?_
                      refine dr_go 6 2 rfl (by simp (maxSteps := 1000000); rfl) ?_
                      refine dr_go 8 2 rfl (by simp (maxSteps := 1000000); rfl) ?_
                      refine dr_go 10 1 rfl (by simp (maxSteps := 1000000); rfl) ?_
                      refine dr_end rfl (tops_nil ?_)
                      refine tr_seq ?_
                      refine kr [2, 3, 4, 5, 6, 13, 14, 15, 17, 21, 22, 32, 33, 34, 108] (by simp; rfl) ?_
                      refine tr_cond (b := (y12.2 != 0)) (by simp) (fun c139 => ?_) (fun c139 => ?_)
                      · rw [if_pos c139] at h2
                        refine kr [10, 11] (by simp; rfl) ?_
                        have k2 := he2 _ (Option.some.inj h2)
                        subst k2
                        dsimp only at h1
                        have k1 := he1 _ (Option.some.inj h1)
                        subst k1
                        dsimp only at h0
                        cases h0
                        exact tr_ret ⟨[], by simp, rfl, by simp⟩
                      · rw [if_neg (by rw [c139]; decide)] at h2
                        refine tr_skip ?_
                        refine tr_seq ?_
                        refine kc ?_
                        refine ko [2, 3, 4, 5, 6, 13, 14, 15, 17, 21, 32, 33, 34, 110, 111, 112] 3 (by simp; rfl) ?_
                        replace h2 := bnd h2; obtain ⟨y13, hy13, h2⟩ := h2
                        refine kcall [2, 3, 4, 5, 6, 13, 14, 15, 17, 21, 32, 33, 34, 113] [] (ref41_answered_ok hy13) rfl rfl rfl Tryz.call43 (by simp) (by simp; rfl) ?_
                        refine tops_nil ?_
                        refine tr_cond (b := y13) (by simp) (fun c140 => ?_) (fun c140 => ?_)
                        · rw [if_pos c140] at h2
                          refine tr_exit ?_
                          exact ⟨_, he2 _ (Option.some.inj h2), wk (by simp [weak_iff])⟩
                        · rw [if_neg (by rw [c140]; decide)] at h2
                          refine tr_skip ?_
                          refine lr (by simp; rfl) ?_
                          refine lr (by simp; rfl) ?_
                          exact ⟨_, hg2 _ (Option.some.inj h2), wk (by simp [weak_iff])⟩
                · refine tr_block (tr_iter (fun s14 : Int => ({ nt := 117, env := [(2, .d (.slice (rowsF api_Steward_row a2))), (3, .d (.slice (rowsF api_Case_row a3))), (4, .d (.int .i64 a4)), (5, .ptr 5 0), (6, .ptr 6 0), (13, .vec 95), (14, .d (.int .i64 s3.1)), (15, .ptr 15 0), (16, .d (.int .i64 s6.1)), (17, .d (.int .i64 s6.2.1)), (19, .ptr 19 0), (20, .d (.int .i64 s14)), (32, .d (.slice (rowsF api_Case_row a3))), (33, .d (.int .i64 ((a3).length : Int))), (34, .d (.int .i64 s3.1))], box := [(5, [.d (.int .i64 a0.Day), .d (.int .i64 a0.From), .d (.int .i64 a0.To), .d (.int .i64 a0.Week), .d (.slice (rowsF (iRow .i64) a0.Holidays))]), (6, [.d (.slice (rowsF (iRow .i64) a1.Kinds)), .d (.slice (rowsF api_Member_row a1.Events))]), (15, [.d (.int .i64 x4.Time), .d (.int .i64 x4.Kind), .d (.int .i64 x4.Case), .d (.int .i64 x4.Level), .d (.int .i64 x4.Owner)]), (19, [.d (.int .i64 s6.1), .d (.int .i64 x4.Case), .d (.int .i64 x9), .d (.int .i64 s6.2.1)])], vec := [(95, ⟨59, 4, rowsF api_Notice_row s6.2.2⟩)] } : St)) hI3 (wk (by simp [weak_iff])) fun G3 s14 o3 h3 hg3 he3 => ?_)
                  unfold ref41_All_l2 at h3
                  refine tr_seq ?_
                  replace h3 := bnd h3; obtain ⟨v15, hvv15, h3⟩ := h3
                  refine sjv (fun v15_ : Bool => ({ nt := 117, env := [(2, .d (.slice (rowsF api_Steward_row a2))), (3, .d (.slice (rowsF api_Case_row a3))), (4, .d (.int .i64 a4)), (5, .ptr 5 0), (6, .ptr 6 0), (13, .vec 95), (14, .d (.int .i64 s3.1)), (15, .ptr 15 0), (16, .d (.int .i64 s6.1)), (17, .d (.int .i64 s6.2.1)), (19, .ptr 19 0), (20, .d (.int .i64 s14)), (32, .d (.slice (rowsF api_Case_row a3))), (33, .d (.int .i64 ((a3).length : Int))), (34, .d (.int .i64 s3.1)), (83, .d (.bool v15_))], box := [(5, [.d (.int .i64 a0.Day), .d (.int .i64 a0.From), .d (.int .i64 a0.To), .d (.int .i64 a0.Week), .d (.slice (rowsF (iRow .i64) a0.Holidays))]), (6, [.d (.slice (rowsF (iRow .i64) a1.Kinds)), .d (.slice (rowsF api_Member_row a1.Events))]), (15, [.d (.int .i64 x4.Time), .d (.int .i64 x4.Kind), .d (.int .i64 x4.Case), .d (.int .i64 x4.Level), .d (.int .i64 x4.Owner)]), (19, [.d (.int .i64 s6.1), .d (.int .i64 x4.Case), .d (.int .i64 x9), .d (.int .i64 s6.2.1)])], vec := [(95, ⟨59, 4, rowsF api_Notice_row s6.2.2⟩)] } : St)) (fun v15_ => v15 = v15_) (fun v15_ e => ?_) ?_
                  · subst e
                    refine tr_cond (b := v15) (by simp) (fun c147 => ?_) (fun c147 => ?_)
                    · rw [if_pos c147] at h3
                      refine tr_skip ?_
                      refine tr_block ?_
                      refine lr (by simp; rfl) ?_
                      exact ⟨_, hg3 _ (Option.some.inj h3), wk (by simp [weak_iff])⟩
                    · rw [if_neg (by rw [c147]; decide)] at h3
                      refine tr_exit ?_
                      exact ⟨_, he3 _ (Option.some.inj h3), wk (by simp [weak_iff])⟩
                  · refine kd1 [[], [], [1], [0, 2], [2, 3], [2, 4], [2, 4], [2, 4, 5, 6], [2, 4, 7], [2, 4], [2, 4, 8, 9], [2, 4, 10]] [] [] none [] 12 fol (by decide +kernel) (by simp) ?_
                    refine dr_go 0 2 rfl (by simp (maxSteps := 1000000); rfl) ?_
                    refine dr_go 2 2 rfl (by simp (maxSteps := 1000000); rfl) ?_
                    refine dr_go 4 1 rfl (by simp (maxSteps := 1000000); rfl) ?_
                    refine dr_split 4 76 (decide (s14 < ((s6.2.2).length : Int))) (by simp) (fun c150 => ?_) (fun c150 => ?_)
                    · rw [if_pos c150] at hvv15
                      replace hvv15 := bnd hvv15; obtain ⟨_, p253, hvv15⟩ := hvv15
                      replace p253 := ck_some p253
                      have p253' := p253; try simp at p253'
                      have p253o : s14 < (((s6.2.2)).length : Int) := by omega
                      replace hvv15 := bnd hvv15; obtain ⟨x16, p254, hvv15⟩ := hvv15
                      replace p254 := idx_some p254
                      have p254' := p254; try simp at p254'
                      refine dr_go 5 2 rfl (by simp (maxSteps := 1000000) [-getElem?_pos, List.getElem?_cons_zero, List.getElem?_cons_succ, p253, p253o, p254, p253', p254']; rfl) ?_
                      refine dr_go 7 2 rfl (by simp (maxSteps := 1000000) [-getElem?_pos, List.getElem?_cons_zero, List.getElem?_cons_succ, p253, p253o, p254, p253', p254']; rfl) ?_
                      refine dr_go 9 1 rfl (by simp (maxSteps := 1000000) [-getElem?_pos, List.getElem?_cons_zero, List.getElem?_cons_succ, p253, p253o, p254, p253', p254']; rfl) ?_
                      replace hvv15 := bnd hvv15; obtain ⟨y17, hy17, hvv15⟩ := hvv15
                      refine dr_call 10 [] (ref41_before_ok hy17) rfl rfl rfl rfl rfl Tryz.call41 (by simp) ?_
                      refine dr_go 11 1 rfl (by simp (maxSteps := 1000000); rfl) ?_
                      refine dr_end rfl (tops_nil ?_)
                      cases hvv15
                      exact ⟨_, rfl, wk (by simp [weak_iff])⟩
                    · rw [if_neg (by rw [c150]; decide)] at hvv15
                      refine dr_skip 5 117 [some 77, some 78, some 79, some 80, some 81, some 82] rfl rfl (by decide) (by kernel_rfl) (by simp only [skEf, List.map_cons, List.map_nil, List.cons_append, List.nil_append]; rfl) ?_
                      refine dr_go 11 1 rfl (by simp (maxSteps := 1000000); rfl) ?_
                      refine dr_end rfl (tops_nil ?_)
                      cases hvv15
                      exact ⟨_, rfl, wk (by simp [weak_iff])⟩
              · rw [if_neg (by rw [c129]; decide)] at h2
                refine tr_exit ?_
                exact ⟨_, he2 _ (Option.some.inj h2), wk (by simp [weak_iff])⟩
            · refine kc1 ?_
              refine ko [2, 3, 4, 5, 6, 13, 14, 15, 16, 17, 32, 33, 34, 46] 3 (by simp; rfl) ?_
              refine tops_split 46 (decide (s6.2.1 ≤ 3)) (by simp) (fun c151 => ?_) (fun c151 => ?_)
              · rw [c151] at hvv7
                refine ko [2, 3, 4, 5, 6, 13, 14, 15, 16, 17, 32, 33, 34, 47, 48, 49, 50] 4 (by simp; rfl) ?_
                refine tops_nil ?_
                cases hvv7
                exact ⟨_, rfl, wk (by simp [weak_iff])⟩
              · rw [c151] at hvv7
                refine kskip 3 [] (by kernel_rfl) ?_
                refine ko [2, 3, 4, 5, 6, 13, 14, 15, 16, 17, 32, 33, 34, 50] 1 (by simp; rfl) ?_
                refine tops_nil ?_
                cases hvv7
                exact ⟨_, rfl, wk (by simp [weak_iff])⟩
      · rw [if_neg (by rw [c99]; decide)] at h1
        refine tr_exit ?_
        exact ⟨_, he1 _ (Option.some.inj h1), wk (by simp [weak_iff])⟩
set_option maxHeartbeats 1000000 in
theorem notice_Open_ok {a0 : api_Directory} {a1 : List api_Case} {a2 : Int} {r : (List Int)} (h0 : notice_Open a0 a1 a2 = some r) : FnOK Tryz.prog 21 [] [.agg (api_Directory_av a0), .d (.slice (rowsF api_Case_row a1)), .d (.int .i64 a2)] (.d (.slice (rowsF (iRow .i64) r))) [] := by
  unfold notice_Open at h0
  refine fn_ok (nt := 43) (rs := [.tmp 6]) Tryz.func21 rfl Tryz.ntmps21 rfl (by simp) (by decide) rfl fun K => ?_
  refine kr [1, 2, 3] (by simp; rfl) ?_
  refine tr_seq ?_
  refine kc ?_
  refine ko [1, 2, 10, 11] 2 (by simp; rfl) ?_
  replace h0 := bnd h0; obtain ⟨y1, hy1, h0⟩ := h0
  refine kcall [1, 2, 12] [] (notice_Check_ok hy1) rfl rfl rfl Tryz.call13 (by simp) (by simp; rfl) ?_
  refine ko [1, 2, 13] 1 (by simp; rfl) ?_
  refine tops_nil ?_
  refine tr_cond (b := (y1 != 0)) (by simp) (fun c1 => ?_) (fun c1 => ?_)
  · rw [if_pos c1] at h0
    refine kr [6] (by simp; rfl) ?_
    cases h0
    exact tr_ret ⟨[], by simp, rfl, by simp⟩
  · rw [if_neg (by rw [c1]; decide)] at h0
    refine tr_skip ?_
    refine kr [1, 2, 7] (by simp; rfl) ?_
    refine tr_seq ?_
    refine kr [2, 7, 15, 16, 17] (by simp; rfl) ?_
    replace h0 := bnd h0; obtain ⟨e1, hI1, h0⟩ := h0
    refine tjv (fun v2 : (List (Int × Bool)) => ({ nt := 43, env := [(7, .vec 14)], box := [], vec := [(14, ⟨mTag 69 1 false false, 2, rowsF (mRow (iRow .i64) bRow) v2⟩)] } : St)) (fun v2 => v2 = e1) (fun v2 hI1e _ W1 => ?_) ?_
    · subst hI1e
      refine tr_wk W1 ?_
      refine kc ?_
      refine ko [41] 1 (by simp; rfl) ?_
      refine tops_wk (wk_frz 14) ?_
      replace h0 := bnd h0; obtain ⟨y3, hy3, h0⟩ := h0
      refine kcall [42] [] (notice_sorted_ok hy3) rfl rfl rfl Tryz.call45 (by simp) (by simp; rfl) ?_
      refine ko [6] 1 (by simp; rfl) ?_
      refine tops_nil ?_
      cases h0
      exact tr_ret ⟨[], by simp, rfl, by simp⟩
    · refine tr_block (tr_iter (fun s4 : Int × (List (Int × Bool)) => ({ nt := 43, env := [(2, .d (.int .i64 a2)), (7, .vec 14), (15, .d (.slice (rowsF api_Case_row a1))), (16, .d (.int .i64 ((a1).length : Int))), (17, .d (.int .i64 s4.1))], box := [], vec := [(14, ⟨mTag 69 1 false false, 2, rowsF (mRow (iRow .i64) bRow) s4.2⟩)] } : St)) hI1 (wk (by simp [weak_iff])) fun G1 s4 o1 h1 hg1 he1 => ?_)
      unfold notice_Open_l0 at h1
      refine kr [2, 7, 15, 16, 17, 18] (by simp; rfl) ?_
      refine tr_seq ?_
      refine tr_cond (b := (decide (s4.1 < ((a1).length : Int)))) (by simp) (fun c10 => ?_) (fun c10 => ?_)
      · rw [if_pos c10] at h1
        refine tr_skip ?_
        refine tr_seq ?_
        refine tr_block ?_
        replace h1 := bnd h1; obtain ⟨x5, p3, h1⟩ := h1
        replace p3 := idx_some p3
        have p3' := p3; try simp at p3'
        refine kr [2, 7, 9, 15, 16, 17] (by simp [p3, p3']; rfl) ?_
        refine tr_block ?_
        refine kr [2, 7, 9, 15, 16, 17, 21] (by simp; rfl) ?_
        refine tr_cond (b := (decide (a2 < x5.Time))) (by simp) (fun c11 => ?_) (fun c11 => ?_)
        · rw [if_pos c11] at h1
          refine tr_skip ?_
          refine lr (by simp; rfl) ?_
          exact ⟨_, hg1 _ (Option.some.inj h1), wk (by simp [weak_iff])⟩
        · rw [if_neg (by rw [c11]; decide)] at h1
          refine kr [2, 7, 9, 15, 16, 17, 26] (by simp; rfl) ?_
          refine tr_cond (b := (x5.Kind == 1)) (by simp) (fun c12 => ?_) (fun c12 => ?_)
          · rw [if_pos c12] at h1
            refine lr (by simp; rfl) ?_
            refine lr (by simp; rfl) ?_
            exact ⟨_, hg1 _ (Option.some.inj h1), wk (by simp [weak_iff])⟩
          · rw [if_neg (by rw [c12]; decide)] at h1
            refine kr [2, 7, 9, 15, 16, 17, 33] (by simp; rfl) ?_
            refine tr_cond (b := (x5.Kind == 3)) (by simp) (fun c13 => ?_) (fun c13 => ?_)
            · rw [if_pos c13] at h1
              refine lr (by simp; rfl) ?_
              refine lr (by simp; rfl) ?_
              exact ⟨_, hg1 _ (Option.some.inj h1), wk (by simp [weak_iff])⟩
            · rw [if_neg (by rw [c13]; decide)] at h1
              refine tr_skip ?_
              refine lr (by simp; rfl) ?_
              exact ⟨_, hg1 _ (Option.some.inj h1), wk (by simp [weak_iff])⟩
      · rw [if_neg (by rw [c10]; decide)] at h1
        refine tr_exit ?_
        exact ⟨_, he1 _ (Option.some.inj h1), wk (by simp [weak_iff])⟩
set_option maxHeartbeats 1000000 in
theorem notice_Late_ok {a0 : api_Calendar} {a1 : api_Directory} {a2 : List api_Steward} {a3 : List api_Case} {a4 : Int} {r : (List Int) × Int} (h0 : notice_Late a0 a1 a2 a3 a4 = some r) : FnOK Tryz.prog 17 [] [.agg (api_Calendar_av a0), .agg (api_Directory_av a1), .d (.slice (rowsF api_Steward_row a2)), .d (.slice (rowsF api_Case_row a3)), .d (.int .i64 a4)] (.tup [.d (.slice (rowsF (iRow .i64) r.1)), .d (.int .i64 r.2)]) [] := by
  unfold notice_Late at h0
  refine fn_ok (nt := 56) (rs := [.tmp 10, .tmp 11]) Tryz.func17 rfl Tryz.ntmps17 rfl (by simp) (by decide) rfl fun K => ?_
  refine kr [2, 3, 4, 5, 6] (by simp; rfl) ?_
  refine kc ?_
  refine ko [3, 4, 6, 19, 20, 21, 22, 23] 5 (by simp; rfl) ?_
  replace h0 := bnd h0; obtain ⟨y1, hy1, h0⟩ := h0
  refine kcall [3, 4, 6, 24] [] (notice_All_ok hy1) rfl rfl rfl Tryz.call15 (by simp) (by simp; rfl) ?_
  refine ko [3, 4, 6, 12, 13] 5 (by simp; rfl) ?_
  refine tops_nil ?_
  refine tr_seq ?_
  refine kr [3, 4, 6, 12, 13, 28] (by simp; rfl) ?_
  refine tr_cond (b := (y1.2 != 0)) (by simp) (fun c1 => ?_) (fun c1 => ?_)
  · rw [if_pos c1] at h0
    refine kr [10, 11] (by simp; rfl) ?_
    cases h0
    exact tr_ret ⟨[], by simp, rfl, by simp⟩
  · rw [if_neg (by rw [c1]; decide)] at h0
    refine tr_skip ?_
    refine kc ?_
    refine ko [12, 30, 31, 32] 3 (by simp; rfl) ?_
    replace h0 := bnd h0; obtain ⟨y2, hy2, h0⟩ := h0
    refine kcall [12, 33] [] (notice_Open_ok hy2) rfl rfl rfl Tryz.call21 (by simp) (by simp; rfl) ?_
    refine ko [12, 14, 15] 3 (by simp; rfl) ?_
    refine tops_nil ?_
    refine tr_seq ?_
    refine kr [14, 15, 35, 36, 37] (by simp; rfl) ?_
    replace h0 := bnd h0; obtain ⟨e1, hI1, h0⟩ := h0
    refine tjv (fun v3 : (List (Int × Bool)) => ({ nt := 56, env := [(15, .vec 34)], box := [], vec := [(34, ⟨mTag 69 1 false false, 2, rowsF (mRow (iRow .i64) bRow) v3⟩)] } : St)) (fun v3 => v3 = e1) (fun v3 hI1e _ W1 => ?_) ?_
    · subst hI1e
      refine tr_wk W1 ?_
      refine kc ?_
      refine ko [54] 1 (by simp; rfl) ?_
      refine tops_wk (wk_frz 34) ?_
      replace h0 := bnd h0; obtain ⟨y4, hy4, h0⟩ := h0
      refine kcall [55] [] (notice_sorted_ok hy4) rfl rfl rfl Tryz.call45 (by simp) (by simp; rfl) ?_
      refine ko [10, 11] 2 (by simp; rfl) ?_
      refine tops_nil ?_
      cases h0
      exact tr_ret ⟨[], by simp, rfl, by simp⟩
    · refine tr_block (tr_iter (fun s5 : Int × (List (Int × Bool)) => ({ nt := 56, env := [(14, .d (.slice (rowsF (iRow .i64) y2))), (15, .vec 34), (35, .d (.slice (rowsF api_Notice_row y1.1))), (36, .d (.int .i64 ((y1.1).length : Int))), (37, .d (.int .i64 s5.1))], box := [], vec := [(34, ⟨mTag 69 1 false false, 2, rowsF (mRow (iRow .i64) bRow) s5.2⟩)] } : St)) hI1 (wk (by simp [weak_iff])) fun G1 s5 o1 h1 hg1 he1 => ?_)
      unfold notice_Late_l0 at h1
      refine kr [14, 15, 35, 36, 37, 38] (by simp; rfl) ?_
      refine tr_seq ?_
      refine tr_cond (b := (decide (s5.1 < ((y1.1).length : Int)))) (by simp) (fun c8 => ?_) (fun c8 => ?_)
      · rw [if_pos c8] at h1
        refine tr_skip ?_
        refine tr_seq ?_
        refine tr_block ?_
        replace h1 := bnd h1; obtain ⟨x6, p3, h1⟩ := h1
        replace p3 := idx_some p3
        have p3' := p3; try simp at p3'
        refine kr [14, 15, 17, 35, 36, 37] (by simp [p3, p3']; rfl) ?_
        replace h1 := bnd h1; obtain ⟨v7, hvv7, h1⟩ := h1
        refine sjv (fun v7_ : Bool => ({ nt := 56, env := [(14, .d (.slice (rowsF (iRow .i64) y2))), (15, .vec 34), (17, .ptr 17 0), (35, .d (.slice (rowsF api_Notice_row y1.1))), (36, .d (.int .i64 ((y1.1).length : Int))), (37, .d (.int .i64 s5.1)), (49, .d (.bool v7_))], box := [(17, [.d (.int .i64 x6.Time), .d (.int .i64 x6.Case), .d (.int .i64 x6.To), .d (.int .i64 x6.Step)])], vec := [(34, ⟨mTag 69 1 false false, 2, rowsF (mRow (iRow .i64) bRow) s5.2⟩)] } : St)) (fun v7_ => v7 = v7_) (fun v7_ e => ?_) ?_
        · subst e
          refine tr_cond (b := v7) (by simp) (fun c11 => ?_) (fun c11 => ?_)
          · rw [if_pos c11] at h1
            refine lr (by simp; rfl) ?_
            refine lr (by simp; rfl) ?_
            exact ⟨_, hg1 _ (Option.some.inj h1), wk (by simp [weak_iff])⟩
          · rw [if_neg (by rw [c11]; decide)] at h1
            refine tr_skip ?_
            refine lr (by simp; rfl) ?_
            exact ⟨_, hg1 _ (Option.some.inj h1), wk (by simp [weak_iff])⟩
        · refine kc1 ?_
          refine ko [14, 15, 17, 35, 36, 37, 44] 4 (by simp; rfl) ?_
          refine tops_split 44 (decide (0 < x6.Step)) (by simp) (fun c12 => ?_) (fun c12 => ?_)
          · rw [if_pos c12] at hvv7
            refine ko [14, 15, 17, 35, 36, 37, 44, 45, 46, 47] 3 (by simp; rfl) ?_
            replace hvv7 := bnd hvv7; obtain ⟨y8, hy8, hvv7⟩ := hvv7
            refine kcall [14, 15, 17, 35, 36, 37, 44, 45, 46, 47, 48] [] (slices_Contains_int_ok hy8) rfl rfl rfl Tryz.call44 (by simp) (by simp; rfl) ?_
            refine ko [14, 15, 17, 35, 36, 37, 45, 46, 47, 48, 49] 1 (by simp; rfl) ?_
            refine tops_nil ?_
            cases hvv7
            exact ⟨_, rfl, wk (by simp [weak_iff])⟩
          · rw [if_neg (by rw [c12]; decide)] at hvv7
            refine kskip 4 [] (by kernel_rfl) ?_
            refine ko [14, 15, 17, 35, 36, 37, 49] 1 (by simp; rfl) ?_
            refine tops_nil ?_
            cases hvv7
            exact ⟨_, rfl, wk (by simp [weak_iff])⟩
      · rw [if_neg (by rw [c8]; decide)] at h1
        refine tr_exit ?_
        exact ⟨_, he1 _ (Option.some.inj h1), wk (by simp [weak_iff])⟩
set_option maxHeartbeats 1000000 in
theorem ref41_Open_ok {a0 : api_Directory} {a1 : List api_Case} {a2 : Int} {r : (List Int)} (h0 : ref41_Open a0 a1 a2 = some r) : FnOK Tryz.prog 22 [] [.agg (api_Directory_av a0), .d (.slice (rowsF api_Case_row a1)), .d (.int .i64 a2)] (.d (.slice (rowsF (iRow .i64) r))) [] := by
  unfold ref41_Open at h0
  refine fn_ok (nt := 57) (rs := [.tmp 6]) Tryz.func22 rfl Tryz.ntmps22 rfl (by simp) (by decide) rfl fun K => ?_
  refine kr [1, 2, 3] (by simp; rfl) ?_
  refine tr_seq ?_
  refine kc ?_
  refine ko [1, 2, 13, 14] 2 (by simp; rfl) ?_
  replace h0 := bnd h0; obtain ⟨y1, hy1, h0⟩ := h0
  refine kcall [1, 2, 15] [] (ref41_Check_ok hy1) rfl rfl rfl Tryz.call14 (by simp) (by simp; rfl) ?_
  refine ko [1, 2, 16] 1 (by simp; rfl) ?_
  refine tops_nil ?_
  refine tr_cond (b := (y1 != 0)) (by simp) (fun c1 => ?_) (fun c1 => ?_)
  · rw [if_pos c1] at h0
    refine kr [6] (by simp; rfl) ?_
    cases h0
    exact tr_ret ⟨[], by simp, rfl, by simp⟩
  · rw [if_neg (by rw [c1]; decide)] at h0
    refine tr_skip ?_
    refine kr [1, 2, 7] (by simp; rfl) ?_
    refine tr_seq ?_
    refine kr [2, 7, 17, 18, 19] (by simp; rfl) ?_
    replace h0 := bnd h0; obtain ⟨e1, hI1, h0⟩ := h0
    refine tjv (fun v2 : (List Int) => ({ nt := 57, env := [(7, .ptr 7 0)], box := [(7, arC (iRow .i64) v2)], vec := [] } : St)) (fun v2 => v2 = e1) (fun v2 hI1e _ W1 => ?_) ?_
    · subst hI1e
      refine tr_wk W1 ?_
      refine kr [7, 10] (by simp; rfl) ?_
      refine tr_seq ?_
      replace h0 := bnd h0; obtain ⟨_, p11, h0⟩ := h0
      replace p11 := ck_some p11
      have p11' := p11; try simp at p11'
      refine kr [10, 40, 41] (by simp [p11, arC_take p11, arC_drop p11, p11']; rfl) ?_
      refine tr_wk (wk_own 10 54 3 1 (by simp) (by simp)) ?_
      replace h0 := bnd h0; obtain ⟨e2, hI2, h0⟩ := h0
      refine tjv (fun v3 : (List Int) => ({ nt := 57, env := [(10, .vec 54)], box := [], vec := [(54, ⟨3, 1, rowsF (iRow .i64) v3⟩)] } : St)) (fun v3 => v3 = e2) (fun v3 hI2e _ W2 => ?_) ?_
      · subst hI2e
        refine tr_wk W2 ?_
        refine kr [6] (by simp; rfl) ?_
        cases h0
        exact tr_ret ⟨[54], by simp, rfl, by simp⟩
      · refine tr_block (tr_iter (fun s4 : Int × (List Int) => ({ nt := 57, env := [(10, .vec 54), (40, .agg (arC (iRow .i64) v2)), (41, .d (.int .i64 s4.1))], box := [], vec := [(54, ⟨3, 1, rowsF (iRow .i64) s4.2⟩)] } : St)) hI2 (wk (by simp [weak_iff])) fun G2 s4 o2 h2 hg2 he2 => ?_)
        unfold ref41_Open_l1 at h2
        refine kr [10, 40, 41, 42] (by simp; rfl) ?_
        refine tr_seq ?_
        refine tr_cond (b := (decide (s4.1 < 16))) (by simp) (fun c17 => ?_) (fun c17 => ?_)
        · rw [if_pos c17] at h2
          refine tr_skip ?_
          refine tr_seq ?_
          refine tr_block ?_
          replace h2 := bnd h2; obtain ⟨_, p23, h2⟩ := h2
          replace p23 := ck_some p23
          have p23' := p23; try simp at p23'
          replace h2 := bnd h2; obtain ⟨x5, p24, h2⟩ := h2
          replace p24 := idx_some p24
          have p24' := p24; try simp at p24'
          have ix25 : indexVA Tryz.prog 90 (.agg (arC (iRow .i64) v2)) s4.1 = some (.d (.int .i64 x5)) := indexVA_arC Tryz.underlying90 sz3 p24.1 p23 p24.2 (by simp) (by simp)
          refine kr [10, 11, 12, 40, 41] (by simp [p23, p24, ix25, -indexVA, p23', p24']; rfl) ?_
          replace h2 := bnd h2; obtain ⟨v6, hvv6, h2⟩ := h2
          refine sjv (fun v6_ : Bool => ({ nt := 57, env := [(10, .vec 54), (11, .d (.int .i64 s4.1)), (40, .agg (arC (iRow .i64) v2)), (41, .d (.int .i64 s4.1)), (50, .d (.bool v6_))], box := [], vec := [(54, ⟨3, 1, rowsF (iRow .i64) s4.2⟩)] } : St)) (fun v6_ => v6 = v6_) (fun v6_ e => ?_) ?_
          · subst e
            refine tr_cond (b := v6) (by simp) (fun c20 => ?_) (fun c20 => ?_)
            · rw [if_pos c20] at h2
              replace h2 := bnd h2; obtain ⟨_, p26, h2⟩ := h2
              replace p26 := ck_some p26
              have p26' := p26; try simp at p26'
              refine lr (by simp [p26, p26']; rfl) ?_
              refine lr (by simp; rfl) ?_
              exact ⟨_, hg2 _ (Option.some.inj h2), wk (by simp [weak_iff])⟩
            · rw [if_neg (by rw [c20]; decide)] at h2
              refine tr_skip ?_
              refine lr (by simp; rfl) ?_
              exact ⟨_, hg2 _ (Option.some.inj h2), wk (by simp [weak_iff])⟩
          · refine kc1 ?_
            refine ko [10, 11, 12, 40, 41, 47] 3 (by simp; rfl) ?_
            refine tops_split 47 (x5 != 0) (by simp) (fun c21 => ?_) (fun c21 => ?_)
            · rw [c21] at hvv6
              refine ko [10, 11, 40, 41, 48, 49, 50] 3 (by simp; rfl) ?_
              refine tops_nil ?_
              cases hvv6
              exact ⟨_, rfl, wk (by simp [weak_iff])⟩
            · rw [c21] at hvv6
              refine ko [10, 11, 40, 41, 48, 49, 50] 3 (by simp; rfl) ?_
              refine tops_nil ?_
              cases hvv6
              exact ⟨_, rfl, wk (by simp [weak_iff])⟩
        · rw [if_neg (by rw [c17]; decide)] at h2
          refine tr_exit ?_
          exact ⟨_, he2 _ (Option.some.inj h2), wk (by simp [weak_iff])⟩
    · refine tr_block (tr_iter (fun s7 : Int × (List Int) => ({ nt := 57, env := [(2, .d (.int .i64 a2)), (7, .ptr 7 0), (17, .d (.slice (rowsF api_Case_row a1))), (18, .d (.int .i64 ((a1).length : Int))), (19, .d (.int .i64 s7.1))], box := [(7, arC (iRow .i64) s7.2)], vec := [] } : St)) hI1 (wk (by simp [weak_iff])) fun G2 s7 o2 h2 hg2 he2 => ?_)
      unfold ref41_Open_l0 at h2
      refine kr [2, 7, 17, 18, 19, 20] (by simp; rfl) ?_
      refine tr_seq ?_
      refine tr_cond (b := (decide (s7.1 < ((a1).length : Int)))) (by simp) (fun c22 => ?_) (fun c22 => ?_)
      · rw [if_pos c22] at h2
        refine tr_skip ?_
        refine tr_seq ?_
        refine tr_block ?_
        replace h2 := bnd h2; obtain ⟨x8, p27, h2⟩ := h2
        replace p27 := idx_some p27
        have p27' := p27; try simp at p27'
        refine kr [2, 7, 9, 17, 18, 19] (by simp [p27, p27']; rfl) ?_
        replace h2 := bnd h2; obtain ⟨v9, hvv9, h2⟩ := h2
        refine sjv (fun v9_ : Bool => ({ nt := 57, env := [(2, .d (.int .i64 a2)), (7, .ptr 7 0), (9, .ptr 9 0), (17, .d (.slice (rowsF api_Case_row a1))), (18, .d (.int .i64 ((a1).length : Int))), (19, .d (.int .i64 s7.1)), (33, .d (.bool v9_))], box := [(7, arC (iRow .i64) s7.2), (9, [.d (.int .i64 x8.Time), .d (.int .i64 x8.Kind), .d (.int .i64 x8.Case), .d (.int .i64 x8.Level), .d (.int .i64 x8.Owner)])], vec := [] } : St)) (fun v9_ => v9 = v9_) (fun v9_ e => ?_) ?_
        · subst e
          refine tr_cond (b := v9) (by simp) (fun c25 => ?_) (fun c25 => ?_)
          · rw [if_pos c25] at h2
            replace h2 := bnd h2; obtain ⟨_, p32, h2⟩ := h2
            replace p32 := ck_some p32
            have p32' := p32; try simp at p32'
            replace h2 := bnd h2; obtain ⟨_, p33, h2⟩ := h2
            replace p33 := ck_some p33
            refine lr (by simp [p32, show (Int.toNat x8.Case) + 1 ≤ (s7.2).length from p33, arC_put p33, p32']; rfl) ?_
            refine lr (by simp; rfl) ?_
            exact ⟨_, hg2 _ (Option.some.inj h2), wk (by simp [weak_iff])⟩
          · rw [if_neg (by rw [c25]; decide)] at h2
            refine tr_skip ?_
            refine lr (by simp; rfl) ?_
            exact ⟨_, hg2 _ (Option.some.inj h2), wk (by simp [weak_iff])⟩
        · refine kc1 ?_
          refine ko [2, 7, 9, 17, 18, 19, 27] 5 (by simp; rfl) ?_
          refine tops_split 27 (decide (x8.Time ≤ a2)) (by simp) (fun c26 => ?_) (fun c26 => ?_)
          · rw [if_pos c26] at hvv9
            replace hvv9 := bnd hvv9; obtain ⟨_, p34, hvv9⟩ := hvv9
            replace p34 := ck_some p34
            have p34' := p34; try simp at p34'
            replace hvv9 := bnd hvv9; obtain ⟨x10, p35, hvv9⟩ := hvv9
            replace p35 := idx_some p35
            have p35' := p35; try simp at p35'
            refine ko [2, 7, 9, 17, 18, 19, 28, 29, 30, 31, 32, 33] 6 (by simp [p34, p35, p34', p35']; rfl) ?_
            refine tops_nil ?_
            cases hvv9
            exact ⟨_, rfl, wk (by simp [weak_iff])⟩
          · rw [if_neg (by rw [c26]; decide)] at hvv9
            refine kskip 5 [] (by kernel_rfl) ?_
            refine ko [2, 7, 9, 17, 18, 19, 33] 1 (by simp; rfl) ?_
            refine tops_nil ?_
            cases hvv9
            exact ⟨_, rfl, wk (by simp [weak_iff])⟩
      · rw [if_neg (by rw [c22]; decide)] at h2
        refine tr_exit ?_
        exact ⟨_, he2 _ (Option.some.inj h2), wk (by simp [weak_iff])⟩
set_option maxHeartbeats 1000000 in
theorem ref41_Late_ok {a0 : api_Calendar} {a1 : api_Directory} {a2 : List api_Steward} {a3 : List api_Case} {a4 : Int} {r : (List Int) × Int} (h0 : ref41_Late a0 a1 a2 a3 a4 = some r) : FnOK Tryz.prog 18 [] [.agg (api_Calendar_av a0), .agg (api_Directory_av a1), .d (.slice (rowsF api_Steward_row a2)), .d (.slice (rowsF api_Case_row a3)), .d (.int .i64 a4)] (.tup [.d (.slice (rowsF (iRow .i64) r.1)), .d (.int .i64 r.2)]) [] := by
  unfold ref41_Late at h0
  refine fn_ok (nt := 67) (rs := [.tmp 10, .tmp 11]) Tryz.func18 rfl Tryz.ntmps18 rfl (by simp) (by decide) rfl fun K => ?_
  refine kr [2, 3, 4, 5, 6] (by simp; rfl) ?_
  refine kc ?_
  refine ko [3, 4, 6, 21, 22, 23, 24, 25] 5 (by simp; rfl) ?_
  replace h0 := bnd h0; obtain ⟨y1, hy1, h0⟩ := h0
  refine kcall [3, 4, 6, 26] [] (ref41_All_ok hy1) rfl rfl rfl Tryz.call16 (by simp) (by simp; rfl) ?_
  refine ko [3, 4, 6, 12, 13] 5 (by simp; rfl) ?_
  refine tops_nil ?_
  refine tr_seq ?_
  refine kr [3, 4, 6, 12, 13, 30] (by simp; rfl) ?_
  refine tr_cond (b := (y1.2 != 0)) (by simp) (fun c1 => ?_) (fun c1 => ?_)
  · rw [if_pos c1] at h0
    refine kr [10, 11] (by simp; rfl) ?_
    cases h0
    exact tr_ret ⟨[], by simp, rfl, by simp⟩
  · rw [if_neg (by rw [c1]; decide)] at h0
    refine tr_skip ?_
    refine kr [3, 4, 6, 12, 14] (by simp; rfl) ?_
    refine tr_seq ?_
    refine kc ?_
    refine ko [12, 14, 32, 33, 34] 3 (by simp; rfl) ?_
    replace h0 := bnd h0; obtain ⟨y2, hy2, h0⟩ := h0
    refine kcall [12, 14, 35] [] (ref41_Open_ok hy2) rfl rfl rfl Tryz.call22 (by simp) (by simp; rfl) ?_
    refine ko [12, 14, 35, 36, 37] 2 (by simp; rfl) ?_
    refine tops_nil ?_
    refine tr_wk (wk_own 14 64 3 1 (by simp) (by simp)) ?_
    replace h0 := bnd h0; obtain ⟨e1, hI1, h0⟩ := h0
    refine tjv (fun v3 : (List Int) => ({ nt := 67, env := [(14, .vec 64)], box := [], vec := [(64, ⟨3, 1, rowsF (iRow .i64) v3⟩)] } : St)) (fun v3 => v3 = e1) (fun v3 hI1e _ W1 => ?_) ?_
    · subst hI1e
      refine tr_wk W1 ?_
      refine kr [10, 11] (by simp; rfl) ?_
      cases h0
      exact tr_ret ⟨[64], by simp, rfl, by simp⟩
    · refine tr_block (tr_iter (fun s4 : Int × (List Int) => ({ nt := 67, env := [(12, .d (.slice (rowsF api_Notice_row y1.1))), (14, .vec 64), (35, .d (.slice (rowsF (iRow .i64) y2))), (36, .d (.int .i64 ((y2).length : Int))), (37, .d (.int .i64 s4.1))], box := [], vec := [(64, ⟨3, 1, rowsF (iRow .i64) s4.2⟩)] } : St)) hI1 (wk (by simp [weak_iff])) fun G1 s4 o1 h1 hg1 he1 => ?_)
      unfold ref41_Late_l0 at h1
      refine kr [12, 14, 35, 36, 37, 38] (by simp; rfl) ?_
      refine tr_seq ?_
      refine tr_cond (b := (decide (s4.1 < ((y2).length : Int)))) (by simp) (fun c23 => ?_) (fun c23 => ?_)
      · rw [if_pos c23] at h1
        refine tr_skip ?_
        refine tr_seq ?_
        refine tr_block ?_
        replace h1 := bnd h1; obtain ⟨x5, p12, h1⟩ := h1
        replace p12 := idx_some p12
        have p12' := p12; try simp at p12'
        refine kr [12, 14, 16, 35, 36, 37] (by simp [p12, p12']; rfl) ?_
        refine kr [12, 14, 16, 17, 35, 36, 37] (by simp; rfl) ?_
        refine tr_seq ?_
        refine kr [12, 14, 16, 17, 35, 36, 37, 41, 42, 43] (by simp; rfl) ?_
        replace h1 := bnd h1; obtain ⟨e2, hI2, h1⟩ := h1
        refine tjv (fun v6 : Bool => ({ nt := 67, env := [(12, .d (.slice (rowsF api_Notice_row y1.1))), (14, .vec 64), (16, .d (.int .i64 x5)), (17, .d (.bool v6)), (35, .d (.slice (rowsF (iRow .i64) y2))), (36, .d (.int .i64 ((y2).length : Int))), (37, .d (.int .i64 s4.1))], box := [], vec := [(64, ⟨3, 1, rowsF (iRow .i64) s4.2⟩)] } : St)) (fun v6 => v6 = e2) (fun v6 hI2e _ W2 => ?_) ?_
        · subst hI2e
          refine tr_wk W2 ?_
          refine kr [12, 14, 16, 35, 36, 37, 60] (by simp; rfl) ?_
          refine tr_cond (b := v6) (by simp) (fun c29 => ?_) (fun c29 => ?_)
          · rw [if_pos c29] at h1
            replace h1 := bnd h1; obtain ⟨_, p15, h1⟩ := h1
            replace p15 := ck_some p15
            have p15' := p15; try simp at p15'
            refine lr (by simp [p15, p15']; rfl) ?_
            refine lr (by simp; rfl) ?_
            exact ⟨_, hg1 _ (Option.some.inj h1), wk (by simp [weak_iff])⟩
          · rw [if_neg (by rw [c29]; decide)] at h1
            refine tr_skip ?_
            refine lr (by simp; rfl) ?_
            exact ⟨_, hg1 _ (Option.some.inj h1), wk (by simp [weak_iff])⟩
        · refine tr_block (tr_iter (fun s7 : Bool × Int => ({ nt := 67, env := [(12, .d (.slice (rowsF api_Notice_row y1.1))), (14, .vec 64), (16, .d (.int .i64 x5)), (17, .d (.bool s7.1)), (35, .d (.slice (rowsF (iRow .i64) y2))), (36, .d (.int .i64 ((y2).length : Int))), (37, .d (.int .i64 s4.1)), (41, .d (.slice (rowsF api_Notice_row y1.1))), (42, .d (.int .i64 ((y1.1).length : Int))), (43, .d (.int .i64 s7.2))], box := [], vec := [(64, ⟨3, 1, rowsF (iRow .i64) s4.2⟩)] } : St)) hI2 (wk (by simp [weak_iff])) fun G2 s7 o2 h2 hg2 he2 => ?_)
          unfold ref41_Late_l1 at h2
          refine kr [12, 14, 16, 17, 35, 36, 37, 41, 42, 43, 44] (by simp; rfl) ?_
          refine tr_seq ?_
          refine tr_cond (b := (decide (s7.2 < ((y1.1).length : Int)))) (by simp) (fun c30 => ?_) (fun c30 => ?_)
          · rw [if_pos c30] at h2
            refine tr_skip ?_
            refine tr_seq ?_
            refine tr_block ?_
            replace h2 := bnd h2; obtain ⟨x8, p16, h2⟩ := h2
            replace p16 := idx_some p16
            have p16' := p16; try simp at p16'
            refine kr [12, 14, 16, 17, 19, 35, 36, 37, 41, 42, 43] (by simp [p16, p16']; rfl) ?_
            replace h2 := bnd h2; obtain ⟨v9, hvv9, h2⟩ := h2
            refine tjv (fun v9_ : Bool => ({ nt := 67, env := [(12, .d (.slice (rowsF api_Notice_row y1.1))), (14, .vec 64), (16, .d (.int .i64 x5)), (17, .d (.bool v9_)), (35, .d (.slice (rowsF (iRow .i64) y2))), (36, .d (.int .i64 ((y2).length : Int))), (37, .d (.int .i64 s4.1)), (41, .d (.slice (rowsF api_Notice_row y1.1))), (42, .d (.int .i64 ((y1.1).length : Int))), (43, .d (.int .i64 s7.2))], box := [], vec := [(64, ⟨3, 1, rowsF (iRow .i64) s4.2⟩)] } : St)) (fun v9_ => v9 = v9_) (fun v9_ e _ Wv9 => ?_) ?_
            · subst e
              refine tr_wk Wv9 ?_
              refine lr (by simp; rfl) ?_
              exact ⟨_, hg2 _ (Option.some.inj h2), wk (by simp [weak_iff])⟩
            · refine kc1 ?_
              refine ko [12, 14, 16, 19, 35, 36, 37, 41, 42, 43, 48] 2 (by simp; rfl) ?_
              refine tops_split 48 s7.1 (by simp) (fun c35 => ?_) (fun c35 => ?_)
              · rw [c35] at hvv9
                refine kskip 9 [] (by kernel_rfl) ?_
                refine ko [12, 14, 16, 17, 35, 36, 37, 41, 42, 43] 2 (by simp; rfl) ?_
                refine tops_nil ?_
                cases hvv9
                exact ⟨_, rfl, wk (by simp [weak_iff])⟩
              · rw [c35] at hvv9
                refine ko [12, 14, 16, 19, 35, 36, 37, 41, 42, 43, 48, 49, 50, 51, 52, 53] 5 (by simp; rfl) ?_
                refine tops_split 53 (x8.Case == x5) (by simp) (fun c36 => ?_) (fun c36 => ?_)
                · rw [c36] at hvv9
                  refine ko [12, 14, 16, 17, 35, 36, 37, 41, 42, 43, 49, 50, 51, 52, 53, 54, 55, 56, 57] 6 (by simp; rfl) ?_
                  refine tops_nil ?_
                  cases hvv9
                  exact ⟨_, rfl, wk (by simp [weak_iff])⟩
                · rw [c36] at hvv9
                  refine kskip 3 [] (by kernel_rfl) ?_
                  refine ko [12, 14, 16, 17, 35, 36, 37, 41, 42, 43, 49, 50, 51, 52, 53, 57] 3 (by simp; rfl) ?_
                  refine tops_nil ?_
                  cases hvv9
                  exact ⟨_, rfl, wk (by simp [weak_iff])⟩
          · rw [if_neg (by rw [c30]; decide)] at h2
            refine tr_exit ?_
            exact ⟨_, he2 _ (Option.some.inj h2), wk (by simp [weak_iff])⟩
      · rw [if_neg (by rw [c23]; decide)] at h1
        refine tr_exit ?_
        exact ⟨_, he1 _ (Option.some.inj h1), wk (by simp [weak_iff])⟩
end Go.Vl
