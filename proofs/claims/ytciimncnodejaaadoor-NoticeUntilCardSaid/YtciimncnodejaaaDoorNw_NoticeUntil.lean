/- Walks: each function of the given program computes what its mirror says. Conditions: none. -/
import Derived.Test.YtciimncnodejaaaDoorVmQ
import Derived.Test.YtciimncnodejaaaDoorNw2
set_option linter.unusedSimpArgs false
set_option linter.unusedVariables false
namespace Go.Vl
open Go Go.Proofs
set_option maxHeartbeats 1000000 in
theorem ref41_Same_ok {a0 : List api_Notice} {a1 : List api_Notice} {r : Bool} (h0 : ref41_Same a0 a1 = some r) : FnOK Tryd.prog 18 [] [.d (.slice (rowsF api_Notice_row a0)), .d (.slice (rowsF api_Notice_row a1))] (.d (.bool r)) [] := by
  unfold ref41_Same at h0
  refine fn_ok (nt := 26) (rs := [.tmp 4]) Tryd.func18 rfl Tryd.ntmps18 rfl (by simp) (by decide) rfl fun K => ?_
  refine kr [0, 1] (by simp; rfl) ?_
  refine tr_seq ?_
  refine kr [0, 1, 10] (by simp; rfl) ?_
  refine tr_cond (b := (((a0).length : Int) != ((a1).length : Int))) (by simp) (fun c1 => ?_) (fun c1 => ?_)
  · rw [if_pos c1] at h0
    refine kr [4] (by simp; rfl) ?_
    cases h0
    exact tr_ret ⟨[], by simp, rfl, by simp⟩
  · rw [if_neg (by rw [c1]; decide)] at h0
    refine tr_skip ?_
    refine tr_seq ?_
    refine kr [0, 1, 12, 13] (by simp; rfl) ?_
    replace h0 := bnd h0; obtain ⟨e1, hI1, h0⟩ := h0
    refine tjv (fun v1 : Unit => ({ nt := 26, env := [], box := [], vec := [] } : St)) (fun v1 => .inl v1 = e1) (fun v1 hI1e _ W1 => ?_) ?_
    · subst hI1e
      dsimp only at h0
      refine tr_wk W1 ?_
      refine kr [4] (by simp; rfl) ?_
      cases h0
      exact tr_ret ⟨[], by simp, rfl, by simp⟩
    · refine tr_block (tr_iter (fun s2 : Int => ({ nt := 26, env := [(0, .d (.slice (rowsF api_Notice_row a0))), (1, .d (.slice (rowsF api_Notice_row a1))), (12, .d (.int .i64 ((a0).length : Int))), (13, .d (.int .i64 s2))], box := [], vec := [] } : St)) hI1 (wk (by simp [weak_iff])) fun G1 s2 o1 h1 hg1 he1 => ?_)
      unfold ref41_Same_l0 at h1
      refine kr [0, 1, 12, 13, 14] (by simp; rfl) ?_
      refine tr_seq ?_
      refine tr_cond (b := (decide (s2 < ((a0).length : Int)))) (by simp) (fun c6 => ?_) (fun c6 => ?_)
      · rw [if_pos c6] at h1
        refine tr_skip ?_
        refine tr_seq ?_
        refine tr_block ?_
        refine kr [0, 1, 5, 12, 13] (by simp; rfl) ?_
        refine kd [[], [], [0, 1], [2], [], [], [4, 5], [6], [3, 7]] [] [] none [] 9 fol (by decide +kernel) (by simp) ?_
        replace h1 := bnd h1; obtain ⟨x3, p17, h1⟩ := h1
        replace p17 := idx_some p17
        have p17' := p17; try simp at p17'
        replace h1 := bnd h1; obtain ⟨x4, p18, h1⟩ := h1
        replace p18 := idx_some p18
        have p18' := p18; try simp at p18'
        refine dr_go 0 2 rfl (by simp (maxSteps := 1000000) [p17, p18, p17', p18']; rfl) ?_
        refine dr_go 2 2 rfl (by simp (maxSteps := 1000000) [p17, p18, p17', p18']; rfl) ?_
        refine dr_go 4 2 rfl (by simp (maxSteps := 1000000) [p17, p18, p17', p18']; rfl) ?_
        refine dr_go 6 2 rfl (by simp (maxSteps := 1000000) [p17, p18, p17', p18']; rfl) ?_
        refine dr_go 8 1 rfl (by simp (maxSteps := 1000000) [p17, p18, p17', p18']; rfl) ?_
        refine dr_end rfl (tops_nil ?_)
        refine tr_cond (b := (!((x3.Time == x4.Time) && ((x3.Case == x4.Case) && ((x3.To == x4.To) && (x3.Step == x4.Step)))))) (by simp) (fun c7 => ?_) (fun c7 => ?_)
        · rw [if_pos c7] at h1
          refine kr [4] (by simp; rfl) ?_
          have k1 := he1 _ (Option.some.inj h1)
          subst k1
          dsimp only at h0
          cases h0
          exact tr_ret ⟨[], by simp, rfl, by simp⟩
        · rw [if_neg (by rw [c7]; decide)] at h1
          refine tr_skip ?_
          refine lr (by simp; rfl) ?_
          exact ⟨_, hg1 _ (Option.some.inj h1), wk (by simp [weak_iff])⟩
      · rw [if_neg (by rw [c6]; decide)] at h1
        refine tr_exit ?_
        exact ⟨_, he1 _ (Option.some.inj h1), wk (by simp [weak_iff])⟩
set_option maxHeartbeats 1000000 in
theorem law41_NoticeUntil_ok {a0 : List Int} {r : Bool} (h0 : law41_NoticeUntil a0 = some r) : FnOK Tryd.prog 5 [] [.d (.slice (rowsF (iRow .i64) a0))] (.d (.bool r)) [] := by
  unfold law41_NoticeUntil at h0
  refine fn_okK (nt := 156) (rs := [.tmp 2]) Tryd.func5 rfl Tryd.ntmps5 rfl (by simp) (by decide) rfl fun K hK => ?_
  refine kr [0] (by simp; rfl) ?_
  refine tr_seq ?_
  refine kr [0, 28] (by simp; rfl) ?_
  refine tr_cond (b := (decide (400 < ((a0).length : Int)))) (by simp) (fun c1 => ?_) (fun c1 => ?_)
  · rw [if_pos c1] at h0
    refine kc ?_
    replace h0 := bnd h0; obtain ⟨y1, hy1, h0⟩ := h0
    refine kcall [29] [] (law41_awake_ok hy1) rfl rfl rfl Tryd.call7 (by simp) (by simp; rfl) ?_
    refine ko [2] 1 (by simp; rfl) ?_
    refine tops_nil ?_
    cases h0
    exact tr_ret ⟨[], by simp, rfl, by simp⟩
  · rw [if_neg (by rw [c1]; decide)] at h0
    refine tr_skip ?_
    refine kr [3] (by simp; rfl) ?_
    refine kc ?_
    refine ko [3, 33] 1 (by simp; rfl) ?_
    replace h0 := bnd h0; obtain ⟨y2, hy2, h0⟩ := h0
    refine kcall [3, 34] [32] (make_Calendar_ok hy2) rfl rfl rfl Tryd.call8 (by simp) (by simp; rfl) ?_
    refine ko [3, 4] 2 (by simp; rfl) ?_
    refine tops_nil ?_
    refine kc ?_
    refine ko [3, 4, 35] 1 (by simp; rfl) ?_
    replace h0 := bnd h0; obtain ⟨y3, hy3, h0⟩ := h0
    refine kcall [3, 4, 36] [32] (make_Directory_ok hy3) rfl rfl rfl Tryd.call9 (by simp) (by simp; rfl) ?_
    refine ko [3, 4, 5] 2 (by simp; rfl) ?_
    refine tops_nil ?_
    refine kd [[], [], [0, 1], [], [], [2, 3, 4], [2], [5]] [2, 5] [(32, [2, 5])] none [] 8 fol (by decide +kernel) (by simp) ?_
    refine dr_go 0 2 rfl (by simp (maxSteps := 1000000); rfl) ?_
    replace h0 := bnd h0; obtain ⟨y4, hy4, h0⟩ := h0
    refine dr_call 2 [32] (make_Stewards_ok hy4) rfl rfl rfl rfl rfl Tryd.call10 (by simp) ?_
    refine dr_go 3 2 rfl (by simp (maxSteps := 1000000); rfl) ?_
    replace h0 := bnd h0; obtain ⟨y5, hy5, h0⟩ := h0
    refine dr_call 5 [32] (make_Cases_ok hy5) rfl rfl rfl rfl rfl Tryd.call11 (by simp) ?_
    refine dr_go 6 2 rfl (by simp (maxSteps := 1000000); rfl) ?_
    refine dr_end rfl (tops_nil ?_)
    refine kc ?_
    refine ko [3, 4, 5, 6, 7, 43] 1 (by simp; rfl) ?_
    replace h0 := bnd h0; obtain ⟨y6, hy6, h0⟩ := h0
    refine kcall [3, 4, 5, 6, 7, 44] [32] (make_Tape_Next_ok hy6) rfl rfl rfl Tryd.call17 (by simp) (by simp; rfl) ?_
    refine ko [3, 4, 5, 6, 7, 8] 1 (by simp; rfl) ?_
    refine tops_nil ?_
    refine kc ?_
    refine ko [3, 4, 5, 6, 7, 8, 46, 47, 48, 49, 50] 5 (by simp; rfl) ?_
    replace h0 := bnd h0; obtain ⟨y7, hy7, h0⟩ := h0
    refine kcall [3, 4, 5, 6, 7, 8, 51] [] (notice_All_ok hy7) rfl rfl rfl Tryd.call12 (by simp) (by simp; rfl) ?_
    refine ko [3, 4, 5, 6, 7, 8, 9, 10] 5 (by simp; rfl) ?_
    refine tops_nil ?_
    refine kd [[], [], [], [], [], [], [5], [4, 6], [0, 1, 2, 3, 7], [8], [9], [9], [10], [11]] [6] [(32, [6])] none [] 14 fol (by decide +kernel) (by simp) ?_
    refine dr_go 0 2 rfl (by simp (maxSteps := 1000000); rfl) ?_
    refine dr_go 2 2 rfl (by simp (maxSteps := 1000000); rfl) ?_
    refine dr_go 4 2 rfl (by simp (maxSteps := 1000000); rfl) ?_
    replace h0 := bnd h0; obtain ⟨y8, hy8, h0⟩ := h0
    refine dr_call 6 [32] (make_Tape_Next_ok hy8) rfl rfl rfl rfl rfl Tryd.call17 (by simp) ?_
    refine dr_go 7 1 rfl (by simp (maxSteps := 1000000); rfl) ?_
    replace h0 := bnd h0; obtain ⟨y9, hy9, h0⟩ := h0
    refine dr_call 8 [] (notice_All_ok hy9) rfl rfl rfl rfl rfl Tryd.call12 (by simp) ?_
    refine dr_go 9 2 rfl (by simp (maxSteps := 1000000); rfl) ?_
    refine dr_go 11 2 rfl (by simp (maxSteps := 1000000); rfl) ?_
    refine dr_go 13 1 rfl (by simp (maxSteps := 1000000); rfl) ?_
    refine dr_end rfl (tops_nil ?_)
    refine tr_seq ?_
    replace h0 := bnd h0; obtain ⟨v10, hvv10, h0⟩ := h0
    refine sjv (fun v10_ : Bool => ({ nt := 156, env := [(4, .ptr 4 0), (5, .ptr 5 0), (6, .d (.slice (rowsF api_Steward_row y4.1))), (7, .d (.slice (rowsF api_Case_row y5.1))), (8, .d (.int .i64 y6.1)), (9, .d (.slice (rowsF api_Notice_row y7.1))), (11, .d (.slice (rowsF api_Notice_row y9.1))), (71, .d (.bool v10_))], box := [(4, [.d (.int .i64 y2.1.Day), .d (.int .i64 y2.1.From), .d (.int .i64 y2.1.To), .d (.int .i64 y2.1.Week), .d (.slice (rowsF (iRow .i64) y2.1.Holidays))]), (5, [.d (.slice (rowsF (iRow .i64) y3.1.Kinds)), .d (.slice (rowsF api_Member_row y3.1.Events))])], vec := [] } : St)) (fun v10_ => v10 = v10_) (fun v10_ e => ?_) ?_
    · subst e
      refine tr_cond (b := v10) (by simp) (fun c4 => ?_) (fun c4 => ?_)
      · rw [if_pos c4] at h0
        refine kr [2] (by simp; rfl) ?_
        cases h0
        exact tr_ret ⟨[], by simp, rfl, by simp⟩
      · rw [if_neg (by rw [c4]; decide)] at h0
        refine tr_skip ?_
        refine kr [4, 5, 6, 7, 8, 9, 11, 13] (by simp; rfl) ?_
        refine tr_seq ?_
        refine kr [4, 5, 6, 7, 8, 9, 13, 72, 73, 74] (by simp; rfl) ?_
        refine tr_wk (wk_own 13 85 45 4 (by simp) (by simp)) ?_
        replace h0 := bnd h0; obtain ⟨e1, hI1, h0⟩ := h0
        refine tjv (fun v11 : (List api_Notice) => ({ nt := 156, env := [(4, .ptr 4 0), (5, .ptr 5 0), (6, .d (.slice (rowsF api_Steward_row y4.1))), (7, .d (.slice (rowsF api_Case_row y5.1))), (8, .d (.int .i64 y6.1)), (9, .d (.slice (rowsF api_Notice_row y7.1))), (13, .vec 85)], box := [(4, [.d (.int .i64 y2.1.Day), .d (.int .i64 y2.1.From), .d (.int .i64 y2.1.To), .d (.int .i64 y2.1.Week), .d (.slice (rowsF (iRow .i64) y2.1.Holidays))]), (5, [.d (.slice (rowsF (iRow .i64) y3.1.Kinds)), .d (.slice (rowsF api_Member_row y3.1.Events))])], vec := [(85, ⟨45, 4, rowsF api_Notice_row v11⟩)] } : St)) (fun v11 => v11 = e1) (fun v11 hI1e _ W1 => ?_) ?_
        · subst hI1e
          refine tr_wk W1 ?_
          refine tr_seq ?_
          refine kc ?_
          refine ko [4, 5, 6, 7, 8, 9, 87, 88] 2 (by simp; rfl) ?_
          refine tops_wk (wk_frz 85) ?_
          replace h0 := bnd h0; obtain ⟨y12, hy12, h0⟩ := h0
          refine kcall [4, 5, 6, 7, 8, 9, 89] [] (ref41_Same_ok hy12) rfl rfl rfl Tryd.call18 (by simp) (by simp; rfl) ?_
          refine ko [4, 5, 6, 7, 8, 9, 90] 1 (by simp; rfl) ?_
          refine tops_nil ?_
          refine tr_cond (b := (!y12)) (by simp) (fun c11 => ?_) (fun c11 => ?_)
          · rw [if_pos c11] at h0
            refine kr [2] (by simp; rfl) ?_
            cases h0
            exact tr_ret ⟨[], by simp, rfl, by simp⟩
          · rw [if_neg (by rw [c11]; decide)] at h0
            refine tr_skip ?_
            refine tr_seq ?_
            refine kr [4, 5, 6, 7, 8, 9, 91, 92, 93] (by simp; rfl) ?_
            replace h0 := bnd h0; obtain ⟨e2, hI2, h0⟩ := h0
            refine tjv (fun v13 : Unit => ({ nt := 156, env := [], box := [], vec := [] } : St)) (fun v13 => .inl v13 = e2) (fun v13 hI2e _ W2 => ?_) ?_
            · subst hI2e
              dsimp only at h0
              refine tr_wk W2 ?_
              refine kc ?_
              replace h0 := bnd h0; obtain ⟨y14, hy14, h0⟩ := h0
              refine kcall [155] [] (law41_awake_ok hy14) rfl rfl rfl Tryd.call7 (by simp) (by simp; rfl) ?_
              refine ko [2] 1 (by simp; rfl) ?_
              refine tops_nil ?_
              cases h0
              exact tr_ret ⟨[], by simp, rfl, by simp⟩
            · refine tr_block (tr_iter (fun s15 : Int => ({ nt := 156, env := [(4, .ptr 4 0), (5, .ptr 5 0), (6, .d (.slice (rowsF api_Steward_row y4.1))), (7, .d (.slice (rowsF api_Case_row y5.1))), (8, .d (.int .i64 y6.1)), (9, .d (.slice (rowsF api_Notice_row y7.1))), (91, .d (.slice (rowsF api_Case_row y5.1))), (92, .d (.int .i64 ((y5.1).length : Int))), (93, .d (.int .i64 s15))], box := [(4, [.d (.int .i64 y2.1.Day), .d (.int .i64 y2.1.From), .d (.int .i64 y2.1.To), .d (.int .i64 y2.1.Week), .d (.slice (rowsF (iRow .i64) y2.1.Holidays))]), (5, [.d (.slice (rowsF (iRow .i64) y3.1.Kinds)), .d (.slice (rowsF api_Member_row y3.1.Events))])], vec := [] } : St)) hI2 (wk (by simp [weak_iff])) fun G2 s15 o2 h2 hg2 he2 => ?_)
              unfold law41_NoticeUntil_l1 at h2
              refine kr [4, 5, 6, 7, 8, 9, 91, 92, 93, 94] (by simp; rfl) ?_
              refine tr_seq ?_
              refine tr_cond (b := (decide (s15 < ((y5.1).length : Int)))) (by simp) (fun c40 => ?_) (fun c40 => ?_)
              · rw [if_pos c40] at h2
                refine tr_skip ?_
                refine tr_seq ?_
                refine tr_block ?_
                replace h2 := bnd h2; obtain ⟨x16, p28, h2⟩ := h2
                replace p28 := idx_some p28
                have p28' := p28; try simp at p28'
                refine kr [4, 5, 6, 7, 8, 9, 17, 91, 92, 93] (by simp [p28, p28']; rfl) ?_
                refine tr_seq ?_
                refine kr [4, 5, 6, 7, 8, 9, 17, 91, 92, 93, 99] (by simp; rfl) ?_
                refine tr_cond (b := (x16.Kind != 1)) (by simp) (fun c41 => ?_) (fun c41 => ?_)
                · rw [if_pos c41] at h2
                  refine tr_exit ?_
                  refine lr (by simp; rfl) ?_
                  exact ⟨_, hg2 _ (Option.some.inj h2), wk (by simp [weak_iff])⟩
                · rw [if_neg (by rw [c41]; decide)] at h2
                  refine tr_skip ?_
                  replace h2 := bnd h2; obtain ⟨_, p29, h2⟩ := h2
                  replace p29 := ck_some p29
                  have p29' := p29; try simp at p29'
                  replace h2 := bnd h2; obtain ⟨x17, p30, h2⟩ := h2
                  replace p30 := idx_some p30
                  have p30' := p30; try simp at p30'
                  replace h2 := bnd h2; obtain ⟨_, p31, h2⟩ := h2
                  replace p31 := ck_some p31
                  have p31' := p31; try simp at p31'
                  refine kheld (S0 := ({ nt := 156, env := [(4, .ptr 4 0), (5, .ptr 5 0), (6, .d (.slice (rowsF api_Steward_row y4.1))), (7, .d (.slice (rowsF api_Case_row y5.1))), (8, .d (.int .i64 y6.1)), (9, .d (.slice (rowsF api_Notice_row y7.1))), (18, .vec 113), (91, .d (.slice (rowsF api_Case_row y5.1))), (92, .d (.int .i64 ((y5.1).length : Int))), (93, .d (.int .i64 s15))], box := [(4, [.d (.int .i64 y2.1.Day), .d (.int .i64 y2.1.From), .d (.int .i64 y2.1.To), .d (.int .i64 y2.1.Week), .d (.slice (rowsF (iRow .i64) y2.1.Holidays))]), (5, [.d (.slice (rowsF (iRow .i64) y3.1.Kinds)), .d (.slice (rowsF api_Member_row y3.1.Events))])], vec := [(113, ⟨43, 5, rowsF api_Case_row (y5.1 ++ [(⟨x17.Time, 2, x16.Case, 0, 0⟩ : api_Case)])⟩)] } : St)) [0, 2, 3, 9] 11 (by simpa using hK) fol (by decide +kernel) rfl rfl rfl (by simp [stillsL, stillB, pureP, pureB, p29, p30, p31, p29', p30', p31']; rfl) (fun K' S F C => ?_) ?_
                  ·
                    refine ho_all C [1, 4, 10] (by decide +kernel) (by decide) ?_
                    refine hall_cons rfl (by simp [p29, p30, p31, p29', p30', p31']; rfl) ?_ ?_
                    ·
                      refine ho_all C [4, 10] (by decide +kernel) (by decide) ?_
                      refine hall_cons rfl (by simp [p29, p30, p31, p29', p30', p31']; rfl) ?_ ?_
                      ·
                        refine ho_pure C 5 rfl (by decide +kernel) (by decide +kernel) (by simp [pureP, pureB]) (by simp [p29, p30, p31, p29', p30', p31']; rfl) ?_
                        refine ho_pure C 6 rfl (by decide +kernel) (by decide +kernel) (by simp [pureP, pureB]) (by simp [p29, p30, p31, p29', p30', p31']; rfl) ?_
                        refine ho_pure C 7 rfl (by decide +kernel) (by decide +kernel) (by simp [pureP, pureB]) (by simp [p29, p30, p31, p29', p30', p31']; rfl) ?_
                        refine ho_all C [8, 10] (by decide +kernel) (by decide) ?_
                        refine hall_cons rfl (by simp [p29, p30, p31, p29', p30', p31']; rfl) ?_ ?_
                        ·
                          refine ho_all C [10] (by decide +kernel) (by decide) ?_
                          refine hall_cons rfl (by simp [p29, p30, p31, p29', p30', p31']; rfl) ?_ ?_
                          ·
                            refine ho_all C [11] (by decide +kernel) (by decide) ?_
                            refine hall_cons rfl (by simp [p29, p30, p31, p29', p30', p31']; rfl) ?_ ?_
                            ·
                              refine ho_all C [12] (by decide +kernel) (by decide) ?_
                              refine hall_cons rfl (by simp [p29, p30, p31, p29', p30', p31']; rfl) ?_ ?_
                              ·
                                refine ho_all C [13] (by decide +kernel) (by decide) ?_
                                refine hall_cons rfl (by simp [p29, p30, p31, p29', p30', p31']; rfl) ?_ ?_
                                ·
                                  refine ho_pure C 14 rfl (by decide +kernel) (by decide +kernel) (by simp [pureP, pureB]) (by simp [p29, p30, p31, p29', p30', p31']; rfl) ?_
                                  exact ho_end C (by decide +kernel) ⟨rfl, weak_iff.2 (by simp)⟩
                                exact trivial
                              exact trivial
                            exact trivial
                          exact trivial
                        refine hall_cons rfl (by simp [p29, p30, p31, p29', p30', p31']; rfl) ?_ ?_
                        ·
                          refine ho_all C [8] (by decide +kernel) (by decide) ?_
                          refine hall_cons rfl (by simp [p29, p30, p31, p29', p30', p31']; rfl) ?_ ?_
                          ·
                            refine ho_all C [11] (by decide +kernel) (by decide) ?_
                            refine hall_cons rfl (by simp [p29, p30, p31, p29', p30', p31']; rfl) ?_ ?_
                            ·
                              refine ho_all C [12] (by decide +kernel) (by decide) ?_
                              refine hall_cons rfl (by simp [p29, p30, p31, p29', p30', p31']; rfl) ?_ ?_
                              ·
                                refine ho_all C [13] (by decide +kernel) (by decide) ?_
                                refine hall_cons rfl (by simp [p29, p30, p31, p29', p30', p31']; rfl) ?_ ?_
                                ·
                                  refine ho_pure C 14 rfl (by decide +kernel) (by decide +kernel) (by simp [pureP, pureB]) (by simp [p29, p30, p31, p29', p30', p31']; rfl) ?_
                                  exact ho_end C (by decide +kernel) ⟨rfl, weak_iff.2 (by simp)⟩
                                exact trivial
                              exact trivial
                            exact trivial
                          exact trivial
                        exact trivial
                      refine hall_cons rfl (by simp [p29, p30, p31, p29', p30', p31']; rfl) ?_ ?_
                      ·
                        refine ho_all C [4] (by decide +kernel) (by decide) ?_
                        refine hall_cons rfl (by simp [p29, p30, p31, p29', p30', p31']; rfl) ?_ ?_
                        ·
                          refine ho_pure C 5 rfl (by decide +kernel) (by decide +kernel) (by simp [pureP, pureB]) (by simp [p29, p30, p31, p29', p30', p31']; rfl) ?_
                          refine ho_pure C 6 rfl (by decide +kernel) (by decide +kernel) (by simp [pureP, pureB]) (by simp [p29, p30, p31, p29', p30', p31']; rfl) ?_
                          refine ho_pure C 7 rfl (by decide +kernel) (by decide +kernel) (by simp [pureP, pureB]) (by simp [p29, p30, p31, p29', p30', p31']; rfl) ?_
                          refine ho_all C [8] (by decide +kernel) (by decide) ?_
                          refine hall_cons rfl (by simp [p29, p30, p31, p29', p30', p31']; rfl) ?_ ?_
                          ·
                            refine ho_all C [11] (by decide +kernel) (by decide) ?_
                            refine hall_cons rfl (by simp [p29, p30, p31, p29', p30', p31']; rfl) ?_ ?_
                            ·
                              refine ho_all C [12] (by decide +kernel) (by decide) ?_
                              refine hall_cons rfl (by simp [p29, p30, p31, p29', p30', p31']; rfl) ?_ ?_
                              ·
                                refine ho_all C [13] (by decide +kernel) (by decide) ?_
                                refine hall_cons rfl (by simp [p29, p30, p31, p29', p30', p31']; rfl) ?_ ?_
                                ·
                                  refine ho_pure C 14 rfl (by decide +kernel) (by decide +kernel) (by simp [pureP, pureB]) (by simp [p29, p30, p31, p29', p30', p31']; rfl) ?_
                                  exact ho_end C (by decide +kernel) ⟨rfl, weak_iff.2 (by simp)⟩
                                exact trivial
                              exact trivial
                            exact trivial
                          exact trivial
                        exact trivial
                      exact trivial
                    refine hall_cons rfl (by simp [p29, p30, p31, p29', p30', p31']; rfl) ?_ ?_
                    ·
                      refine ho_pure C 5 rfl (by decide +kernel) (by decide +kernel) (by simp [pureP, pureB]) (by simp [p29, p30, p31, p29', p30', p31']; rfl) ?_
                      refine ho_pure C 6 rfl (by decide +kernel) (by decide +kernel) (by simp [pureP, pureB]) (by simp [p29, p30, p31, p29', p30', p31']; rfl) ?_
                      refine ho_pure C 7 rfl (by decide +kernel) (by decide +kernel) (by simp [pureP, pureB]) (by simp [p29, p30, p31, p29', p30', p31']; rfl) ?_
                      refine ho_all C [1, 8, 10] (by decide +kernel) (by decide) ?_
                      refine hall_cons rfl (by simp [p29, p30, p31, p29', p30', p31']; rfl) ?_ ?_
                      ·
                        refine ho_all C [8, 10] (by decide +kernel) (by decide) ?_
                        refine hall_cons rfl (by simp [p29, p30, p31, p29', p30', p31']; rfl) ?_ ?_
                        ·
                          refine ho_all C [10] (by decide +kernel) (by decide) ?_
                          refine hall_cons rfl (by simp [p29, p30, p31, p29', p30', p31']; rfl) ?_ ?_
                          ·
                            refine ho_all C [11] (by decide +kernel) (by decide) ?_
                            refine hall_cons rfl (by simp [p29, p30, p31, p29', p30', p31']; rfl) ?_ ?_
                            ·
                              refine ho_all C [12] (by decide +kernel) (by decide) ?_
                              refine hall_cons rfl (by simp [p29, p30, p31, p29', p30', p31']; rfl) ?_ ?_
                              ·
                                refine ho_all C [13] (by decide +kernel) (by decide) ?_
                                refine hall_cons rfl (by simp [p29, p30, p31, p29', p30', p31']; rfl) ?_ ?_
                                ·
                                  refine ho_pure C 14 rfl (by decide +kernel) (by decide +kernel) (by simp [pureP, pureB]) (by simp [p29, p30, p31, p29', p30', p31']; rfl) ?_
                                  exact ho_end C (by decide +kernel) ⟨rfl, weak_iff.2 (by simp)⟩
                                exact trivial
                              exact trivial
                            exact trivial
                          exact trivial
                        refine hall_cons rfl (by simp [p29, p30, p31, p29', p30', p31']; rfl) ?_ ?_
                        ·
                          refine ho_all C [8] (by decide +kernel) (by decide) ?_
                          refine hall_cons rfl (by simp [p29, p30, p31, p29', p30', p31']; rfl) ?_ ?_
                          ·
                            refine ho_all C [11] (by decide +kernel) (by decide) ?_
                            refine hall_cons rfl (by simp [p29, p30, p31, p29', p30', p31']; rfl) ?_ ?_
                            ·
                              refine ho_all C [12] (by decide +kernel) (by decide) ?_
                              refine hall_cons rfl (by simp [p29, p30, p31, p29', p30', p31']; rfl) ?_ ?_
                              ·
                                refine ho_all C [13] (by decide +kernel) (by decide) ?_
                                refine hall_cons rfl (by simp [p29, p30, p31, p29', p30', p31']; rfl) ?_ ?_
                                ·
                                  refine ho_pure C 14 rfl (by decide +kernel) (by decide +kernel) (by simp [pureP, pureB]) (by simp [p29, p30, p31, p29', p30', p31']; rfl) ?_
                                  exact ho_end C (by decide +kernel) ⟨rfl, weak_iff.2 (by simp)⟩
                                exact trivial
                              exact trivial
                            exact trivial
                          exact trivial
                        exact trivial
                      refine hall_cons rfl (by simp [p29, p30, p31, p29', p30', p31']; rfl) ?_ ?_
                      ·
                        refine ho_all C [1, 10] (by decide +kernel) (by decide) ?_
                        refine hall_cons rfl (by simp [p29, p30, p31, p29', p30', p31']; rfl) ?_ ?_
                        ·
                          refine ho_all C [10] (by decide +kernel) (by decide) ?_
                          refine hall_cons rfl (by simp [p29, p30, p31, p29', p30', p31']; rfl) ?_ ?_
                          ·
                            refine ho_all C [11] (by decide +kernel) (by decide) ?_
                            refine hall_cons rfl (by simp [p29, p30, p31, p29', p30', p31']; rfl) ?_ ?_
                            ·
                              refine ho_all C [12] (by decide +kernel) (by decide) ?_
                              refine hall_cons rfl (by simp [p29, p30, p31, p29', p30', p31']; rfl) ?_ ?_
                              ·
                                refine ho_all C [13] (by decide +kernel) (by decide) ?_
                                refine hall_cons rfl (by simp [p29, p30, p31, p29', p30', p31']; rfl) ?_ ?_
                                ·
                                  refine ho_pure C 14 rfl (by decide +kernel) (by decide +kernel) (by simp [pureP, pureB]) (by simp [p29, p30, p31, p29', p30', p31']; rfl) ?_
                                  exact ho_end C (by decide +kernel) ⟨rfl, weak_iff.2 (by simp)⟩
                                exact trivial
                              exact trivial
                            exact trivial
                          exact trivial
                        refine hall_cons rfl (by simp [p29, p30, p31, p29', p30', p31']; rfl) ?_ ?_
                        ·
                          refine ho_all C [1, 11] (by decide +kernel) (by decide) ?_
                          refine hall_cons rfl (by simp [p29, p30, p31, p29', p30', p31']; rfl) ?_ ?_
                          ·
                            refine ho_all C [11] (by decide +kernel) (by decide) ?_
                            refine hall_cons rfl (by simp [p29, p30, p31, p29', p30', p31']; rfl) ?_ ?_
                            ·
                              refine ho_all C [12] (by decide +kernel) (by decide) ?_
                              refine hall_cons rfl (by simp [p29, p30, p31, p29', p30', p31']; rfl) ?_ ?_
                              ·
                                refine ho_all C [13] (by decide +kernel) (by decide) ?_
                                refine hall_cons rfl (by simp [p29, p30, p31, p29', p30', p31']; rfl) ?_ ?_
                                ·
                                  refine ho_pure C 14 rfl (by decide +kernel) (by decide +kernel) (by simp [pureP, pureB]) (by simp [p29, p30, p31, p29', p30', p31']; rfl) ?_
                                  exact ho_end C (by decide +kernel) ⟨rfl, weak_iff.2 (by simp)⟩
                                exact trivial
                              exact trivial
                            exact trivial
                          refine hall_cons rfl (by simp [p29, p30, p31, p29', p30', p31']; rfl) ?_ ?_
                          ·
                            refine ho_all C [1, 12] (by decide +kernel) (by decide) ?_
                            refine hall_cons rfl (by simp [p29, p30, p31, p29', p30', p31']; rfl) ?_ ?_
                            ·
                              refine ho_all C [12] (by decide +kernel) (by decide) ?_
                              refine hall_cons rfl (by simp [p29, p30, p31, p29', p30', p31']; rfl) ?_ ?_
                              ·
                                refine ho_all C [13] (by decide +kernel) (by decide) ?_
                                refine hall_cons rfl (by simp [p29, p30, p31, p29', p30', p31']; rfl) ?_ ?_
                                ·
                                  refine ho_pure C 14 rfl (by decide +kernel) (by decide +kernel) (by simp [pureP, pureB]) (by simp [p29, p30, p31, p29', p30', p31']; rfl) ?_
                                  exact ho_end C (by decide +kernel) ⟨rfl, weak_iff.2 (by simp)⟩
                                exact trivial
                              exact trivial
                            refine hall_cons rfl (by simp [p29, p30, p31, p29', p30', p31']; rfl) ?_ ?_
                            ·
                              refine ho_all C [1] (by decide +kernel) (by decide) ?_
                              refine hall_cons rfl (by simp [p29, p30, p31, p29', p30', p31']; rfl) ?_ ?_
                              ·
                                refine ho_all C [13] (by decide +kernel) (by decide) ?_
                                refine hall_cons rfl (by simp [p29, p30, p31, p29', p30', p31']; rfl) ?_ ?_
                                ·
                                  refine ho_pure C 14 rfl (by decide +kernel) (by decide +kernel) (by simp [pureP, pureB]) (by simp [p29, p30, p31, p29', p30', p31']; rfl) ?_
                                  exact ho_end C (by decide +kernel) ⟨rfl, weak_iff.2 (by simp)⟩
                                exact trivial
                              exact trivial
                            exact trivial
                          exact trivial
                        exact trivial
                      refine hall_cons rfl (by simp [p29, p30, p31, p29', p30', p31']; rfl) ?_ ?_
                      ·
                        refine ho_all C [1, 8] (by decide +kernel) (by decide) ?_
                        refine hall_cons rfl (by simp [p29, p30, p31, p29', p30', p31']; rfl) ?_ ?_
                        ·
                          refine ho_all C [8] (by decide +kernel) (by decide) ?_
                          refine hall_cons rfl (by simp [p29, p30, p31, p29', p30', p31']; rfl) ?_ ?_
                          ·
                            refine ho_all C [11] (by decide +kernel) (by decide) ?_
                            refine hall_cons rfl (by simp [p29, p30, p31, p29', p30', p31']; rfl) ?_ ?_
                            ·
                              refine ho_all C [12] (by decide +kernel) (by decide) ?_
                              refine hall_cons rfl (by simp [p29, p30, p31, p29', p30', p31']; rfl) ?_ ?_
                              ·
                                refine ho_all C [13] (by decide +kernel) (by decide) ?_
                                refine hall_cons rfl (by simp [p29, p30, p31, p29', p30', p31']; rfl) ?_ ?_
                                ·
                                  refine ho_pure C 14 rfl (by decide +kernel) (by decide +kernel) (by simp [pureP, pureB]) (by simp [p29, p30, p31, p29', p30', p31']; rfl) ?_
                                  exact ho_end C (by decide +kernel) ⟨rfl, weak_iff.2 (by simp)⟩
                                exact trivial
                              exact trivial
                            exact trivial
                          exact trivial
                        refine hall_cons rfl (by simp [p29, p30, p31, p29', p30', p31']; rfl) ?_ ?_
                        ·
                          refine ho_all C [1, 11] (by decide +kernel) (by decide) ?_
                          refine hall_cons rfl (by simp [p29, p30, p31, p29', p30', p31']; rfl) ?_ ?_
                          ·
                            refine ho_all C [11] (by decide +kernel) (by decide) ?_
                            refine hall_cons rfl (by simp [p29, p30, p31, p29', p30', p31']; rfl) ?_ ?_
                            ·
                              refine ho_all C [12] (by decide +kernel) (by decide) ?_
                              refine hall_cons rfl (by simp [p29, p30, p31, p29', p30', p31']; rfl) ?_ ?_
                              ·
                                refine ho_all C [13] (by decide +kernel) (by decide) ?_
                                refine hall_cons rfl (by simp [p29, p30, p31, p29', p30', p31']; rfl) ?_ ?_
                                ·
                                  refine ho_pure C 14 rfl (by decide +kernel) (by decide +kernel) (by simp [pureP, pureB]) (by simp [p29, p30, p31, p29', p30', p31']; rfl) ?_
                                  exact ho_end C (by decide +kernel) ⟨rfl, weak_iff.2 (by simp)⟩
                                exact trivial
                              exact trivial
                            exact trivial
                          refine hall_cons rfl (by simp [p29, p30, p31, p29', p30', p31']; rfl) ?_ ?_
                          ·
                            refine ho_all C [1, 12] (by decide +kernel) (by decide) ?_
                            refine hall_cons rfl (by simp [p29, p30, p31, p29', p30', p31']; rfl) ?_ ?_
                            ·
                              refine ho_all C [12] (by decide +kernel) (by decide) ?_
                              refine hall_cons rfl (by simp [p29, p30, p31, p29', p30', p31']; rfl) ?_ ?_
                              ·
                                refine ho_all C [13] (by decide +kernel) (by decide) ?_
                                refine hall_cons rfl (by simp [p29, p30, p31, p29', p30', p31']; rfl) ?_ ?_
                                ·
                                  refine ho_pure C 14 rfl (by decide +kernel) (by decide +kernel) (by simp [pureP, pureB]) (by simp [p29, p30, p31, p29', p30', p31']; rfl) ?_
                                  exact ho_end C (by decide +kernel) ⟨rfl, weak_iff.2 (by simp)⟩
                                exact trivial
                              exact trivial
                            refine hall_cons rfl (by simp [p29, p30, p31, p29', p30', p31']; rfl) ?_ ?_
                            ·
                              refine ho_all C [1] (by decide +kernel) (by decide) ?_
                              refine hall_cons rfl (by simp [p29, p30, p31, p29', p30', p31']; rfl) ?_ ?_
                              ·
                                refine ho_all C [13] (by decide +kernel) (by decide) ?_
                                refine hall_cons rfl (by simp [p29, p30, p31, p29', p30', p31']; rfl) ?_ ?_
                                ·
                                  refine ho_pure C 14 rfl (by decide +kernel) (by decide +kernel) (by simp [pureP, pureB]) (by simp [p29, p30, p31, p29', p30', p31']; rfl) ?_
                                  exact ho_end C (by decide +kernel) ⟨rfl, weak_iff.2 (by simp)⟩
                                exact trivial
                              exact trivial
                            exact trivial
                          exact trivial
                        exact trivial
                      exact trivial
                    refine hall_cons rfl (by simp [p29, p30, p31, p29', p30', p31']; rfl) ?_ ?_
                    ·
                      refine ho_all C [1, 4] (by decide +kernel) (by decide) ?_
                      refine hall_cons rfl (by simp [p29, p30, p31, p29', p30', p31']; rfl) ?_ ?_
                      ·
                        refine ho_all C [4] (by decide +kernel) (by decide) ?_
                        refine hall_cons rfl (by simp [p29, p30, p31, p29', p30', p31']; rfl) ?_ ?_
                        ·
                          refine ho_pure C 5 rfl (by decide +kernel) (by decide +kernel) (by simp [pureP, pureB]) (by simp [p29, p30, p31, p29', p30', p31']; rfl) ?_
                          refine ho_pure C 6 rfl (by decide +kernel) (by decide +kernel) (by simp [pureP, pureB]) (by simp [p29, p30, p31, p29', p30', p31']; rfl) ?_
                          refine ho_pure C 7 rfl (by decide +kernel) (by decide +kernel) (by simp [pureP, pureB]) (by simp [p29, p30, p31, p29', p30', p31']; rfl) ?_
                          refine ho_all C [8] (by decide +kernel) (by decide) ?_
                          refine hall_cons rfl (by simp [p29, p30, p31, p29', p30', p31']; rfl) ?_ ?_
                          ·
                            refine ho_all C [11] (by decide +kernel) (by decide) ?_
                            refine hall_cons rfl (by simp [p29, p30, p31, p29', p30', p31']; rfl) ?_ ?_
                            ·
                              refine ho_all C [12] (by decide +kernel) (by decide) ?_
                              refine hall_cons rfl (by simp [p29, p30, p31, p29', p30', p31']; rfl) ?_ ?_
                              ·
                                refine ho_all C [13] (by decide +kernel) (by decide) ?_
                                refine hall_cons rfl (by simp [p29, p30, p31, p29', p30', p31']; rfl) ?_ ?_
                                ·
                                  refine ho_pure C 14 rfl (by decide +kernel) (by decide +kernel) (by simp [pureP, pureB]) (by simp [p29, p30, p31, p29', p30', p31']; rfl) ?_
                                  exact ho_end C (by decide +kernel) ⟨rfl, weak_iff.2 (by simp)⟩
                                exact trivial
                              exact trivial
                            exact trivial
                          exact trivial
                        exact trivial
                      refine hall_cons rfl (by simp [p29, p30, p31, p29', p30', p31']; rfl) ?_ ?_
                      ·
                        refine ho_pure C 5 rfl (by decide +kernel) (by decide +kernel) (by simp [pureP, pureB]) (by simp [p29, p30, p31, p29', p30', p31']; rfl) ?_
                        refine ho_pure C 6 rfl (by decide +kernel) (by decide +kernel) (by simp [pureP, pureB]) (by simp [p29, p30, p31, p29', p30', p31']; rfl) ?_
                        refine ho_pure C 7 rfl (by decide +kernel) (by decide +kernel) (by simp [pureP, pureB]) (by simp [p29, p30, p31, p29', p30', p31']; rfl) ?_
                        refine ho_all C [1, 8] (by decide +kernel) (by decide) ?_
                        refine hall_cons rfl (by simp [p29, p30, p31, p29', p30', p31']; rfl) ?_ ?_
                        ·
                          refine ho_all C [8] (by decide +kernel) (by decide) ?_
                          refine hall_cons rfl (by simp [p29, p30, p31, p29', p30', p31']; rfl) ?_ ?_
                          ·
                            refine ho_all C [11] (by decide +kernel) (by decide) ?_
                            refine hall_cons rfl (by simp [p29, p30, p31, p29', p30', p31']; rfl) ?_ ?_
                            ·
                              refine ho_all C [12] (by decide +kernel) (by decide) ?_
                              refine hall_cons rfl (by simp [p29, p30, p31, p29', p30', p31']; rfl) ?_ ?_
                              ·
                                refine ho_all C [13] (by decide +kernel) (by decide) ?_
                                refine hall_cons rfl (by simp [p29, p30, p31, p29', p30', p31']; rfl) ?_ ?_
                                ·
                                  refine ho_pure C 14 rfl (by decide +kernel) (by decide +kernel) (by simp [pureP, pureB]) (by simp [p29, p30, p31, p29', p30', p31']; rfl) ?_
                                  exact ho_end C (by decide +kernel) ⟨rfl, weak_iff.2 (by simp)⟩
                                exact trivial
                              exact trivial
                            exact trivial
                          exact trivial
                        refine hall_cons rfl (by simp [p29, p30, p31, p29', p30', p31']; rfl) ?_ ?_
                        ·
                          refine ho_all C [1, 11] (by decide +kernel) (by decide) ?_
                          refine hall_cons rfl (by simp [p29, p30, p31, p29', p30', p31']; rfl) ?_ ?_
                          ·
                            refine ho_all C [11] (by decide +kernel) (by decide) ?_
                            refine hall_cons rfl (by simp [p29, p30, p31, p29', p30', p31']; rfl) ?_ ?_
                            ·
                              refine ho_all C [12] (by decide +kernel) (by decide) ?_
                              refine hall_cons rfl (by simp [p29, p30, p31, p29', p30', p31']; rfl) ?_ ?_
                              ·
                                refine ho_all C [13] (by decide +kernel) (by decide) ?_
                                refine hall_cons rfl (by simp [p29, p30, p31, p29', p30', p31']; rfl) ?_ ?_
                                ·
                                  refine ho_pure C 14 rfl (by decide +kernel) (by decide +kernel) (by simp [pureP, pureB]) (by simp [p29, p30, p31, p29', p30', p31']; rfl) ?_
                                  exact ho_end C (by decide +kernel) ⟨rfl, weak_iff.2 (by simp)⟩
                                exact trivial
                              exact trivial
                            exact trivial
                          refine hall_cons rfl (by simp [p29, p30, p31, p29', p30', p31']; rfl) ?_ ?_
                          ·
                            refine ho_all C [1, 12] (by decide +kernel) (by decide) ?_
                            refine hall_cons rfl (by simp [p29, p30, p31, p29', p30', p31']; rfl) ?_ ?_
                            ·
                              refine ho_all C [12] (by decide +kernel) (by decide) ?_
                              refine hall_cons rfl (by simp [p29, p30, p31, p29', p30', p31']; rfl) ?_ ?_
                              ·
                                refine ho_all C [13] (by decide +kernel) (by decide) ?_
                                refine hall_cons rfl (by simp [p29, p30, p31, p29', p30', p31']; rfl) ?_ ?_
                                ·
                                  refine ho_pure C 14 rfl (by decide +kernel) (by decide +kernel) (by simp [pureP, pureB]) (by simp [p29, p30, p31, p29', p30', p31']; rfl) ?_
                                  exact ho_end C (by decide +kernel) ⟨rfl, weak_iff.2 (by simp)⟩
                                exact trivial
                              exact trivial
                            refine hall_cons rfl (by simp [p29, p30, p31, p29', p30', p31']; rfl) ?_ ?_
                            ·
                              refine ho_all C [1] (by decide +kernel) (by decide) ?_
                              refine hall_cons rfl (by simp [p29, p30, p31, p29', p30', p31']; rfl) ?_ ?_
                              ·
                                refine ho_all C [13] (by decide +kernel) (by decide) ?_
                                refine hall_cons rfl (by simp [p29, p30, p31, p29', p30', p31']; rfl) ?_ ?_
                                ·
                                  refine ho_pure C 14 rfl (by decide +kernel) (by decide +kernel) (by simp [pureP, pureB]) (by simp [p29, p30, p31, p29', p30', p31']; rfl) ?_
                                  exact ho_end C (by decide +kernel) ⟨rfl, weak_iff.2 (by simp)⟩
                                exact trivial
                              exact trivial
                            exact trivial
                          exact trivial
                        exact trivial
                      exact trivial
                    exact trivial
                  ·
                    refine kc ?_
                    refine ko [4, 5, 6, 7, 8, 9, 91, 92, 93, 115, 116, 117, 118, 119] 5 (by simp; rfl) ?_
                    refine tops_wk (wk_frz 113) ?_
                    replace h2 := bnd h2; obtain ⟨y18, hy18, h2⟩ := h2
                    refine kcall [4, 5, 6, 7, 8, 9, 91, 92, 93, 120] [] (notice_All_ok hy18) rfl rfl rfl Tryd.call12 (by simp) (by simp; rfl) ?_
                    refine ko [4, 5, 6, 7, 8, 9, 19, 20, 91, 92, 93] 5 (by simp; rfl) ?_
                    refine tops_nil ?_
                    refine tr_seq ?_
                    replace h2 := bnd h2; obtain ⟨v19, hvv19, h2⟩ := h2
                    refine sjv (fun v19_ : Bool => ({ nt := 156, env := [(4, .ptr 4 0), (5, .ptr 5 0), (6, .d (.slice (rowsF api_Steward_row y4.1))), (7, .d (.slice (rowsF api_Case_row y5.1))), (8, .d (.int .i64 y6.1)), (9, .d (.slice (rowsF api_Notice_row y7.1))), (19, .d (.slice (rowsF api_Notice_row y18.1))), (91, .d (.slice (rowsF api_Case_row y5.1))), (92, .d (.int .i64 ((y5.1).length : Int))), (93, .d (.int .i64 s15)), (131, .d (.bool v19_))], box := [(4, [.d (.int .i64 y2.1.Day), .d (.int .i64 y2.1.From), .d (.int .i64 y2.1.To), .d (.int .i64 y2.1.Week), .d (.slice (rowsF (iRow .i64) y2.1.Holidays))]), (5, [.d (.slice (rowsF (iRow .i64) y3.1.Kinds)), .d (.slice (rowsF api_Member_row y3.1.Events))])], vec := [] } : St)) (fun v19_ => v19 = v19_) (fun v19_ e => ?_) ?_
                    · subst e
                      refine tr_cond (b := v19) (by simp) (fun c44 => ?_) (fun c44 => ?_)
                      · rw [if_pos c44] at h2
                        refine kr [2] (by simp; rfl) ?_
                        have k1 := he2 _ (Option.some.inj h2)
                        subst k1
                        dsimp only at h0
                        cases h0
                        exact tr_ret ⟨[], by simp, rfl, by simp⟩
                      · rw [if_neg (by rw [c44]; decide)] at h2
                        refine tr_skip ?_
                        refine kr [4, 5, 6, 7, 8, 9, 91, 92, 93, 132, 133, 134] (by simp; rfl) ?_
                        replace h2 := bnd h2; obtain ⟨e3, hI3, h2⟩ := h2
                        refine tjv (fun v20 : Unit => ({ nt := 156, env := [(4, .ptr 4 0), (5, .ptr 5 0), (6, .d (.slice (rowsF api_Steward_row y4.1))), (7, .d (.slice (rowsF api_Case_row y5.1))), (8, .d (.int .i64 y6.1)), (9, .d (.slice (rowsF api_Notice_row y7.1))), (91, .d (.slice (rowsF api_Case_row y5.1))), (92, .d (.int .i64 ((y5.1).length : Int))), (93, .d (.int .i64 s15))], box := [(4, [.d (.int .i64 y2.1.Day), .d (.int .i64 y2.1.From), .d (.int .i64 y2.1.To), .d (.int .i64 y2.1.Week), .d (.slice (rowsF (iRow .i64) y2.1.Holidays))]), (5, [.d (.slice (rowsF (iRow .i64) y3.1.Kinds)), .d (.slice (rowsF api_Member_row y3.1.Events))])], vec := [] } : St)) (fun v20 => .inl v20 = e3) (fun v20 hI3e _ W3 => ?_) ?_
                        · subst hI3e
                          dsimp only at h2
                          refine tr_wk W3 ?_
                          refine lr (by simp; rfl) ?_
                          exact ⟨_, hg2 _ (Option.some.inj h2), wk (by simp [weak_iff])⟩
                        · refine tr_block (tr_iter (fun s21 : Int => ({ nt := 156, env := [(4, .ptr 4 0), (5, .ptr 5 0), (6, .d (.slice (rowsF api_Steward_row y4.1))), (7, .d (.slice (rowsF api_Case_row y5.1))), (8, .d (.int .i64 y6.1)), (9, .d (.slice (rowsF api_Notice_row y7.1))), (91, .d (.slice (rowsF api_Case_row y5.1))), (92, .d (.int .i64 ((y5.1).length : Int))), (93, .d (.int .i64 s15)), (132, .d (.slice (rowsF api_Notice_row y18.1))), (133, .d (.int .i64 ((y18.1).length : Int))), (134, .d (.int .i64 s21))], box := [(4, [.d (.int .i64 y2.1.Day), .d (.int .i64 y2.1.From), .d (.int .i64 y2.1.To), .d (.int .i64 y2.1.Week), .d (.slice (rowsF (iRow .i64) y2.1.Holidays))]), (5, [.d (.slice (rowsF (iRow .i64) y3.1.Kinds)), .d (.slice (rowsF api_Member_row y3.1.Events))])], vec := [] } : St)) hI3 (wk (by simp [weak_iff])) fun G3 s21 o3 h3 hg3 he3 => ?_)
                          unfold law41_NoticeUntil_l2 at h3
                          refine kr [4, 5, 6, 7, 8, 9, 91, 92, 93, 132, 133, 134, 135] (by simp; rfl) ?_
                          refine tr_seq ?_
                          refine tr_cond (b := (decide (s21 < ((y18.1).length : Int)))) (by simp) (fun c55 => ?_) (fun c55 => ?_)
                          · rw [if_pos c55] at h3
                            refine tr_skip ?_
                            refine tr_seq ?_
                            refine tr_block ?_
                            replace h3 := bnd h3; obtain ⟨x22, p39, h3⟩ := h3
                            replace p39 := idx_some p39
                            have p39' := p39; try simp at p39'
                            refine kr [4, 5, 6, 7, 8, 9, 22, 91, 92, 93, 132, 133, 134] (by simp [p39, p39']; rfl) ?_
                            refine kr [4, 5, 6, 7, 8, 9, 22, 23, 91, 92, 93, 132, 133, 134] (by simp; rfl) ?_
                            refine tr_seq ?_
                            refine kr [4, 5, 6, 7, 8, 9, 22, 23, 91, 92, 93, 132, 133, 134, 138, 139, 140] (by simp; rfl) ?_
                            replace h3 := bnd h3; obtain ⟨e4, hI4, h3⟩ := h3
                            refine tjv (fun v23 : Bool => ({ nt := 156, env := [(4, .ptr 4 0), (5, .ptr 5 0), (6, .d (.slice (rowsF api_Steward_row y4.1))), (7, .d (.slice (rowsF api_Case_row y5.1))), (8, .d (.int .i64 y6.1)), (9, .d (.slice (rowsF api_Notice_row y7.1))), (23, .d (.bool v23)), (91, .d (.slice (rowsF api_Case_row y5.1))), (92, .d (.int .i64 ((y5.1).length : Int))), (93, .d (.int .i64 s15)), (132, .d (.slice (rowsF api_Notice_row y18.1))), (133, .d (.int .i64 ((y18.1).length : Int))), (134, .d (.int .i64 s21))], box := [(4, [.d (.int .i64 y2.1.Day), .d (.int .i64 y2.1.From), .d (.int .i64 y2.1.To), .d (.int .i64 y2.1.Week), .d (.slice (rowsF (iRow .i64) y2.1.Holidays))]), (5, [.d (.slice (rowsF (iRow .i64) y3.1.Kinds)), .d (.slice (rowsF api_Member_row y3.1.Events))])], vec := [] } : St)) (fun v23 => v23 = e4) (fun v23 hI4e _ W4 => ?_) ?_
                            · subst hI4e
                              refine tr_wk W4 ?_
                              refine kr [4, 5, 6, 7, 8, 9, 91, 92, 93, 132, 133, 134, 152] (by simp; rfl) ?_
                              refine tr_cond (b := (!v23)) (by simp) (fun c59 => ?_) (fun c59 => ?_)
                              · rw [if_pos c59] at h3
                                refine kr [2] (by simp; rfl) ?_
                                have k2 := he3 _ (Option.some.inj h3)
                                subst k2
                                dsimp only at h2
                                have k1 := he2 _ (Option.some.inj h2)
                                subst k1
                                dsimp only at h0
                                cases h0
                                exact tr_ret ⟨[], by simp, rfl, by simp⟩
                              · rw [if_neg (by rw [c59]; decide)] at h3
                                refine tr_skip ?_
                                refine lr (by simp; rfl) ?_
                                exact ⟨_, hg3 _ (Option.some.inj h3), wk (by simp [weak_iff])⟩
                            · refine tr_block (tr_iter (fun s24 : Bool × Int => ({ nt := 156, env := [(4, .ptr 4 0), (5, .ptr 5 0), (6, .d (.slice (rowsF api_Steward_row y4.1))), (7, .d (.slice (rowsF api_Case_row y5.1))), (8, .d (.int .i64 y6.1)), (9, .d (.slice (rowsF api_Notice_row y7.1))), (22, .ptr 22 0), (23, .d (.bool s24.1)), (91, .d (.slice (rowsF api_Case_row y5.1))), (92, .d (.int .i64 ((y5.1).length : Int))), (93, .d (.int .i64 s15)), (132, .d (.slice (rowsF api_Notice_row y18.1))), (133, .d (.int .i64 ((y18.1).length : Int))), (134, .d (.int .i64 s21)), (138, .d (.slice (rowsF api_Notice_row y7.1))), (139, .d (.int .i64 ((y7.1).length : Int))), (140, .d (.int .i64 s24.2))], box := [(4, [.d (.int .i64 y2.1.Day), .d (.int .i64 y2.1.From), .d (.int .i64 y2.1.To), .d (.int .i64 y2.1.Week), .d (.slice (rowsF (iRow .i64) y2.1.Holidays))]), (5, [.d (.slice (rowsF (iRow .i64) y3.1.Kinds)), .d (.slice (rowsF api_Member_row y3.1.Events))]), (22, [.d (.int .i64 x22.Time), .d (.int .i64 x22.Case), .d (.int .i64 x22.To), .d (.int .i64 x22.Step)])], vec := [] } : St)) hI4 (wk (by simp [weak_iff])) fun G4 s24 o4 h4 hg4 he4 => ?_)
                              unfold law41_NoticeUntil_l3 at h4
                              refine kr [4, 5, 6, 7, 8, 9, 22, 23, 91, 92, 93, 132, 133, 134, 138, 139, 140, 141] (by simp; rfl) ?_
                              refine tr_seq ?_
                              refine tr_cond (b := (decide (s24.2 < ((y7.1).length : Int)))) (by simp) (fun c60 => ?_) (fun c60 => ?_)
                              · rw [if_pos c60] at h4
                                refine tr_skip ?_
                                refine tr_seq ?_
                                refine tr_block ?_
                                replace h4 := bnd h4; obtain ⟨x25, p42, h4⟩ := h4
                                replace p42 := idx_some p42
                                have p42' := p42; try simp at p42'
                                refine kr [4, 5, 6, 7, 8, 9, 22, 23, 25, 91, 92, 93, 132, 133, 134, 138, 139, 140] (by simp [p42, p42']; rfl) ?_
                                replace h4 := bnd h4; obtain ⟨v26, hvv26, h4⟩ := h4
                                refine tjv (fun v26_ : Bool => ({ nt := 156, env := [(4, .ptr 4 0), (5, .ptr 5 0), (6, .d (.slice (rowsF api_Steward_row y4.1))), (7, .d (.slice (rowsF api_Case_row y5.1))), (8, .d (.int .i64 y6.1)), (9, .d (.slice (rowsF api_Notice_row y7.1))), (22, .ptr 22 0), (23, .d (.bool v26_)), (91, .d (.slice (rowsF api_Case_row y5.1))), (92, .d (.int .i64 ((y5.1).length : Int))), (93, .d (.int .i64 s15)), (132, .d (.slice (rowsF api_Notice_row y18.1))), (133, .d (.int .i64 ((y18.1).length : Int))), (134, .d (.int .i64 s21)), (138, .d (.slice (rowsF api_Notice_row y7.1))), (139, .d (.int .i64 ((y7.1).length : Int))), (140, .d (.int .i64 s24.2))], box := [(4, [.d (.int .i64 y2.1.Day), .d (.int .i64 y2.1.From), .d (.int .i64 y2.1.To), .d (.int .i64 y2.1.Week), .d (.slice (rowsF (iRow .i64) y2.1.Holidays))]), (5, [.d (.slice (rowsF (iRow .i64) y3.1.Kinds)), .d (.slice (rowsF api_Member_row y3.1.Events))]), (22, [.d (.int .i64 x22.Time), .d (.int .i64 x22.Case), .d (.int .i64 x22.To), .d (.int .i64 x22.Step)])], vec := [] } : St)) (fun v26_ => v26 = v26_) (fun v26_ e _ Wv26 => ?_) ?_
                                · subst e
                                  refine tr_wk Wv26 ?_
                                  refine lr (by simp; rfl) ?_
                                  exact ⟨_, hg4 _ (Option.some.inj h4), wk (by simp [weak_iff])⟩
                                · refine kc1 ?_
                                  refine ko [4, 5, 6, 7, 8, 9, 22, 25, 91, 92, 93, 132, 133, 134, 138, 139, 140, 145] 2 (by simp; rfl) ?_
                                  refine tops_split 145 s24.1 (by simp) (fun c63 => ?_) (fun c63 => ?_)
                                  · rw [c63] at hvv26
                                    refine kskip 3 [] (by kernel_rfl) ?_
                                    refine ko [4, 5, 6, 7, 8, 9, 22, 23, 91, 92, 93, 132, 133, 134, 138, 139, 140] 2 (by simp; rfl) ?_
                                    refine tops_nil ?_
                                    cases hvv26
                                    exact ⟨_, rfl, wk (by simp [weak_iff])⟩
                                  · rw [c63] at hvv26
                                    refine ko [4, 5, 6, 7, 8, 9, 22, 23, 91, 92, 93, 132, 133, 134, 138, 139, 140, 146, 147, 148] 5 (by simp; rfl) ?_
                                    refine tops_nil ?_
                                    cases hvv26
                                    exact ⟨_, rfl, wk (by simp [weak_iff])⟩
                              · rw [if_neg (by rw [c60]; decide)] at h4
                                refine tr_exit ?_
                                exact ⟨_, he4 _ (Option.some.inj h4), wk (by simp [weak_iff])⟩
                          · rw [if_neg (by rw [c55]; decide)] at h3
                            refine tr_exit ?_
                            exact ⟨_, he3 _ (Option.some.inj h3), wk (by simp [weak_iff])⟩
                    · refine kc1 ?_
                      refine ko [4, 5, 6, 7, 8, 9, 19, 91, 92, 93, 125] 3 (by simp; rfl) ?_
                      refine tops_split 125 (y18.2 != 0) (by simp) (fun c64 => ?_) (fun c64 => ?_)
                      · rw [c64] at hvv19
                        refine kskip 5 [] (by kernel_rfl) ?_
                        refine ko [4, 5, 6, 7, 8, 9, 19, 91, 92, 93, 131] 1 (by simp; rfl) ?_
                        refine tops_nil ?_
                        cases hvv19
                        exact ⟨_, rfl, wk (by simp [weak_iff])⟩
                      · rw [c64] at hvv19
                        refine ko [4, 5, 6, 7, 8, 9, 19, 91, 92, 93, 126, 127, 128, 129, 130, 131] 6 (by simp; rfl) ?_
                        refine tops_nil ?_
                        cases hvv19
                        exact ⟨_, rfl, wk (by simp [weak_iff])⟩
              · rw [if_neg (by rw [c40]; decide)] at h2
                refine tr_exit ?_
                exact ⟨_, he2 _ (Option.some.inj h2), wk (by simp [weak_iff])⟩
        · refine tr_block (tr_iter (fun s31 : Int × (List api_Notice) => ({ nt := 156, env := [(4, .ptr 4 0), (5, .ptr 5 0), (6, .d (.slice (rowsF api_Steward_row y4.1))), (7, .d (.slice (rowsF api_Case_row y5.1))), (8, .d (.int .i64 y6.1)), (9, .d (.slice (rowsF api_Notice_row y7.1))), (13, .vec 85), (72, .d (.slice (rowsF api_Notice_row y9.1))), (73, .d (.int .i64 ((y9.1).length : Int))), (74, .d (.int .i64 s31.1))], box := [(4, [.d (.int .i64 y2.1.Day), .d (.int .i64 y2.1.From), .d (.int .i64 y2.1.To), .d (.int .i64 y2.1.Week), .d (.slice (rowsF (iRow .i64) y2.1.Holidays))]), (5, [.d (.slice (rowsF (iRow .i64) y3.1.Kinds)), .d (.slice (rowsF api_Member_row y3.1.Events))])], vec := [(85, ⟨45, 4, rowsF api_Notice_row s31.2⟩)] } : St)) hI1 (wk (by simp [weak_iff])) fun G4 s31 o4 h4 hg4 he4 => ?_)
          unfold law41_NoticeUntil_l0 at h4
          refine kr [4, 5, 6, 7, 8, 9, 13, 72, 73, 74, 75] (by simp; rfl) ?_
          refine tr_seq ?_
          refine tr_cond (b := (decide (s31.1 < ((y9.1).length : Int)))) (by simp) (fun c65 => ?_) (fun c65 => ?_)
          · rw [if_pos c65] at h4
            refine tr_skip ?_
            refine tr_seq ?_
            refine tr_block ?_
            replace h4 := bnd h4; obtain ⟨x32, p43, h4⟩ := h4
            replace p43 := idx_some p43
            have p43' := p43; try simp at p43'
            refine kr [4, 5, 6, 7, 8, 9, 13, 15, 72, 73, 74] (by simp [p43, p43']; rfl) ?_
            refine kr [4, 5, 6, 7, 8, 9, 13, 15, 72, 73, 74, 81] (by simp; rfl) ?_
            refine tr_cond (b := (decide (x32.Time ≤ y6.1))) (by simp) (fun c66 => ?_) (fun c66 => ?_)
            · rw [if_pos c66] at h4
              replace h4 := bnd h4; obtain ⟨_, p44, h4⟩ := h4
              replace p44 := ck_some p44
              have p44' := p44; try simp at p44'
              refine lr (by simp [p44, p44']; rfl) ?_
              refine lr (by simp; rfl) ?_
              exact ⟨_, hg4 _ (Option.some.inj h4), wk (by simp [weak_iff])⟩
            · rw [if_neg (by rw [c66]; decide)] at h4
              refine tr_skip ?_
              refine lr (by simp; rfl) ?_
              exact ⟨_, hg4 _ (Option.some.inj h4), wk (by simp [weak_iff])⟩
          · rw [if_neg (by rw [c65]; decide)] at h4
            refine tr_exit ?_
            exact ⟨_, he4 _ (Option.some.inj h4), wk (by simp [weak_iff])⟩
    · refine kc1 ?_
      refine ko [4, 5, 6, 7, 8, 9, 11, 12, 68] 3 (by simp; rfl) ?_
      refine tops_split 68 (y7.2 != 0) (by simp) (fun c67 => ?_) (fun c67 => ?_)
      · rw [c67] at hvv10
        refine ko [4, 5, 6, 7, 8, 9, 11, 71] 3 (by simp; rfl) ?_
        refine tops_nil ?_
        cases hvv10
        exact ⟨_, rfl, wk (by simp [weak_iff])⟩
      · rw [c67] at hvv10
        refine ko [4, 5, 6, 7, 8, 9, 11, 71] 3 (by simp; rfl) ?_
        refine tops_nil ?_
        cases hvv10
        exact ⟨_, rfl, wk (by simp [weak_iff])⟩
end Go.Vl
