/- Walks: each function of the given program computes what its mirror says. Conditions: none. -/
import Derived.Test.YtciimncnodejaaaDoorNw2
set_option linter.unusedSimpArgs false
set_option linter.unusedVariables false
namespace Go.Vl
open Go Go.Proofs
set_option maxHeartbeats 1000000 in
theorem notice_Open_ok {a0 : api_Directory} {a1 : List api_Case} {a2 : Int} {r : (List Int)} (h0 : notice_Open a0 a1 a2 = some r) : FnOK Tryd.prog 20 [] [.agg (api_Directory_av a0), .d (.slice (rowsF api_Case_row a1)), .d (.int .i64 a2)] (.d (.slice (rowsF (iRow .i64) r))) [] := by
  unfold notice_Open at h0
  refine fn_ok (nt := 43) (rs := [.tmp 6]) Tryd.func20 rfl Tryd.ntmps20 rfl (by simp) (by decide) rfl fun K => ?_
  refine kr [1, 2, 3] (by simp; rfl) ?_
  refine tr_seq ?_
  refine kc ?_
  refine ko [1, 2, 10, 11] 2 (by simp; rfl) ?_
  replace h0 := bnd h0; obtain ⟨y1, hy1, h0⟩ := h0
  refine kcall [1, 2, 12] [] (notice_Check_ok hy1) rfl rfl rfl Tryd.call28 (by simp) (by simp; rfl) ?_
  refine ko [1, 2, 13] 1 (by simp; rfl) ?_
  refine tops_nil ?_
  refine tr_cond (b := (y1 != 0)) (by simp) (fun c1 => ?_) (fun c1 => ?_)
  · rw [if_pos c1] at h0
    refine kr [6] (by simp; rfl) ?_
    cases h0
    exact tr_ret ⟨[], by simp, rfl, by simp⟩
  · rw [if_neg (by rw [c1]; decide)] at h0
    refine tr_skip ?_
    refine kr [1, 2, 7] (by simp; rfl) ?_
    refine tr_seq ?_
    refine kr [2, 7, 15, 16, 17] (by simp; rfl) ?_
    replace h0 := bnd h0; obtain ⟨e1, hI1, h0⟩ := h0
    refine tjv (fun v2 : (List (Int × Bool)) => ({ nt := 43, env := [(7, .vec 14)], box := [], vec := [(14, ⟨mTag 78 1 false false, 2, rowsF (mRow (iRow .i64) bRow) v2⟩)] } : St)) (fun v2 => v2 = e1) (fun v2 hI1e _ W1 => ?_) ?_
    · subst hI1e
      refine tr_wk W1 ?_
      refine kc ?_
      refine ko [41] 1 (by simp; rfl) ?_
      refine tops_wk (wk_frz 14) ?_
      replace h0 := bnd h0; obtain ⟨y3, hy3, h0⟩ := h0
      refine kcall [42] [] (notice_sorted_ok hy3) rfl rfl rfl Tryd.call41 (by simp) (by simp; rfl) ?_
      refine ko [6] 1 (by simp; rfl) ?_
      refine tops_nil ?_
      cases h0
      exact tr_ret ⟨[], by simp, rfl, by simp⟩
    · refine tr_block (tr_iter (fun s4 : Int × (List (Int × Bool)) => ({ nt := 43, env := [(2, .d (.int .i64 a2)), (7, .vec 14), (15, .d (.slice (rowsF api_Case_row a1))), (16, .d (.int .i64 ((a1).length : Int))), (17, .d (.int .i64 s4.1))], box := [], vec := [(14, ⟨mTag 78 1 false false, 2, rowsF (mRow (iRow .i64) bRow) s4.2⟩)] } : St)) hI1 (wk (by simp [weak_iff])) fun G1 s4 o1 h1 hg1 he1 => ?_)
      unfold notice_Open_l0 at h1
      refine kr [2, 7, 15, 16, 17, 18] (by simp; rfl) ?_
      refine tr_seq ?_
      refine tr_cond (b := (decide (s4.1 < ((a1).length : Int)))) (by simp) (fun c10 => ?_) (fun c10 => ?_)
      · rw [if_pos c10] at h1
        refine tr_skip ?_
        refine tr_seq ?_
        refine tr_block ?_
        replace h1 := bnd h1; obtain ⟨x5, p3, h1⟩ := h1
        replace p3 := idx_some p3
        have p3' := p3; try simp at p3'
        refine kr [2, 7, 9, 15, 16, 17] (by simp [p3, p3']; rfl) ?_
        refine tr_block ?_
        refine kr [2, 7, 9, 15, 16, 17, 21] (by simp; rfl) ?_
        refine tr_cond (b := (decide (a2 < x5.Time))) (by simp) (fun c11 => ?_) (fun c11 => ?_)
        · rw [if_pos c11] at h1
          refine tr_skip ?_
          refine lr (by simp; rfl) ?_
          exact ⟨_, hg1 _ (Option.some.inj h1), wk (by simp [weak_iff])⟩
        · rw [if_neg (by rw [c11]; decide)] at h1
          refine kr [2, 7, 9, 15, 16, 17, 26] (by simp; rfl) ?_
          refine tr_cond (b := (x5.Kind == 1)) (by simp) (fun c12 => ?_) (fun c12 => ?_)
          · rw [if_pos c12] at h1
            refine lr (by simp; rfl) ?_
            refine lr (by simp; rfl) ?_
            exact ⟨_, hg1 _ (Option.some.inj h1), wk (by simp [weak_iff])⟩
          · rw [if_neg (by rw [c12]; decide)] at h1
            refine kr [2, 7, 9, 15, 16, 17, 33] (by simp; rfl) ?_
            refine tr_cond (b := (x5.Kind == 3)) (by simp) (fun c13 => ?_) (fun c13 => ?_)
            · rw [if_pos c13] at h1
              refine lr (by simp; rfl) ?_
              refine lr (by simp; rfl) ?_
              exact ⟨_, hg1 _ (Option.some.inj h1), wk (by simp [weak_iff])⟩
            · rw [if_neg (by rw [c13]; decide)] at h1
              refine tr_skip ?_
              refine lr (by simp; rfl) ?_
              exact ⟨_, hg1 _ (Option.some.inj h1), wk (by simp [weak_iff])⟩
      · rw [if_neg (by rw [c10]; decide)] at h1
        refine tr_exit ?_
        exact ⟨_, he1 _ (Option.some.inj h1), wk (by simp [weak_iff])⟩
set_option maxHeartbeats 1000000 in
theorem notice_Late_ok {a0 : api_Calendar} {a1 : api_Directory} {a2 : List api_Steward} {a3 : List api_Case} {a4 : Int} {r : (List Int) × Int} (h0 : notice_Late a0 a1 a2 a3 a4 = some r) : FnOK Tryd.prog 19 [] [.agg (api_Calendar_av a0), .agg (api_Directory_av a1), .d (.slice (rowsF api_Steward_row a2)), .d (.slice (rowsF api_Case_row a3)), .d (.int .i64 a4)] (.tup [.d (.slice (rowsF (iRow .i64) r.1)), .d (.int .i64 r.2)]) [] := by
  unfold notice_Late at h0
  refine fn_ok (nt := 56) (rs := [.tmp 10, .tmp 11]) Tryd.func19 rfl Tryd.ntmps19 rfl (by simp) (by decide) rfl fun K => ?_
  refine kr [2, 3, 4, 5, 6] (by simp; rfl) ?_
  refine kc ?_
  refine ko [3, 4, 6, 19, 20, 21, 22, 23] 5 (by simp; rfl) ?_
  replace h0 := bnd h0; obtain ⟨y1, hy1, h0⟩ := h0
  refine kcall [3, 4, 6, 24] [] (notice_All_ok hy1) rfl rfl rfl Tryd.call12 (by simp) (by simp; rfl) ?_
  refine ko [3, 4, 6, 12, 13] 5 (by simp; rfl) ?_
  refine tops_nil ?_
  refine tr_seq ?_
  refine kr [3, 4, 6, 12, 13, 28] (by simp; rfl) ?_
  refine tr_cond (b := (y1.2 != 0)) (by simp) (fun c1 => ?_) (fun c1 => ?_)
  · rw [if_pos c1] at h0
    refine kr [10, 11] (by simp; rfl) ?_
    cases h0
    exact tr_ret ⟨[], by simp, rfl, by simp⟩
  · rw [if_neg (by rw [c1]; decide)] at h0
    refine tr_skip ?_
    refine kc ?_
    refine ko [12, 30, 31, 32] 3 (by simp; rfl) ?_
    replace h0 := bnd h0; obtain ⟨y2, hy2, h0⟩ := h0
    refine kcall [12, 33] [] (notice_Open_ok hy2) rfl rfl rfl Tryd.call20 (by simp) (by simp; rfl) ?_
    refine ko [12, 14, 15] 3 (by simp; rfl) ?_
    refine tops_nil ?_
    refine tr_seq ?_
    refine kr [14, 15, 35, 36, 37] (by simp; rfl) ?_
    replace h0 := bnd h0; obtain ⟨e1, hI1, h0⟩ := h0
    refine tjv (fun v3 : (List (Int × Bool)) => ({ nt := 56, env := [(15, .vec 34)], box := [], vec := [(34, ⟨mTag 78 1 false false, 2, rowsF (mRow (iRow .i64) bRow) v3⟩)] } : St)) (fun v3 => v3 = e1) (fun v3 hI1e _ W1 => ?_) ?_
    · subst hI1e
      refine tr_wk W1 ?_
      refine kc ?_
      refine ko [54] 1 (by simp; rfl) ?_
      refine tops_wk (wk_frz 34) ?_
      replace h0 := bnd h0; obtain ⟨y4, hy4, h0⟩ := h0
      refine kcall [55] [] (notice_sorted_ok hy4) rfl rfl rfl Tryd.call41 (by simp) (by simp; rfl) ?_
      refine ko [10, 11] 2 (by simp; rfl) ?_
      refine tops_nil ?_
      cases h0
      exact tr_ret ⟨[], by simp, rfl, by simp⟩
    · refine tr_block (tr_iter (fun s5 : Int × (List (Int × Bool)) => ({ nt := 56, env := [(14, .d (.slice (rowsF (iRow .i64) y2))), (15, .vec 34), (35, .d (.slice (rowsF api_Notice_row y1.1))), (36, .d (.int .i64 ((y1.1).length : Int))), (37, .d (.int .i64 s5.1))], box := [], vec := [(34, ⟨mTag 78 1 false false, 2, rowsF (mRow (iRow .i64) bRow) s5.2⟩)] } : St)) hI1 (wk (by simp [weak_iff])) fun G1 s5 o1 h1 hg1 he1 => ?_)
      unfold notice_Late_l0 at h1
      refine kr [14, 15, 35, 36, 37, 38] (by simp; rfl) ?_
      refine tr_seq ?_
      refine tr_cond (b := (decide (s5.1 < ((y1.1).length : Int)))) (by simp) (fun c8 => ?_) (fun c8 => ?_)
      · rw [if_pos c8] at h1
        refine tr_skip ?_
        refine tr_seq ?_
        refine tr_block ?_
        replace h1 := bnd h1; obtain ⟨x6, p3, h1⟩ := h1
        replace p3 := idx_some p3
        have p3' := p3; try simp at p3'
        refine kr [14, 15, 17, 35, 36, 37] (by simp [p3, p3']; rfl) ?_
        replace h1 := bnd h1; obtain ⟨v7, hvv7, h1⟩ := h1
        refine sjv (fun v7_ : Bool => ({ nt := 56, env := [(14, .d (.slice (rowsF (iRow .i64) y2))), (15, .vec 34), (17, .ptr 17 0), (35, .d (.slice (rowsF api_Notice_row y1.1))), (36, .d (.int .i64 ((y1.1).length : Int))), (37, .d (.int .i64 s5.1)), (49, .d (.bool v7_))], box := [(17, [.d (.int .i64 x6.Time), .d (.int .i64 x6.Case), .d (.int .i64 x6.To), .d (.int .i64 x6.Step)])], vec := [(34, ⟨mTag 78 1 false false, 2, rowsF (mRow (iRow .i64) bRow) s5.2⟩)] } : St)) (fun v7_ => v7 = v7_) (fun v7_ e => ?_) ?_
        · subst e
          refine tr_cond (b := v7) (by simp) (fun c11 => ?_) (fun c11 => ?_)
          · rw [if_pos c11] at h1
            refine lr (by simp; rfl) ?_
            refine lr (by simp; rfl) ?_
            exact ⟨_, hg1 _ (Option.some.inj h1), wk (by simp [weak_iff])⟩
          · rw [if_neg (by rw [c11]; decide)] at h1
            refine tr_skip ?_
            refine lr (by simp; rfl) ?_
            exact ⟨_, hg1 _ (Option.some.inj h1), wk (by simp [weak_iff])⟩
        · refine kc1 ?_
          refine ko [14, 15, 17, 35, 36, 37, 44] 4 (by simp; rfl) ?_
          refine tops_split 44 (decide (0 < x6.Step)) (by simp) (fun c12 => ?_) (fun c12 => ?_)
          · rw [if_pos c12] at hvv7
            refine ko [14, 15, 17, 35, 36, 37, 44, 45, 46, 47] 3 (by simp; rfl) ?_
            replace hvv7 := bnd hvv7; obtain ⟨y8, hy8, hvv7⟩ := hvv7
            refine kcall [14, 15, 17, 35, 36, 37, 44, 45, 46, 47, 48] [] (slices_Contains_int_ok hy8) rfl rfl rfl Tryd.call40 (by simp) (by simp; rfl) ?_
            refine ko [14, 15, 17, 35, 36, 37, 45, 46, 47, 48, 49] 1 (by simp; rfl) ?_
            refine tops_nil ?_
            cases hvv7
            exact ⟨_, rfl, wk (by simp [weak_iff])⟩
          · rw [if_neg (by rw [c12]; decide)] at hvv7
            refine kskip 4 [] (by kernel_rfl) ?_
            refine ko [14, 15, 17, 35, 36, 37, 49] 1 (by simp; rfl) ?_
            refine tops_nil ?_
            cases hvv7
            exact ⟨_, rfl, wk (by simp [weak_iff])⟩
      · rw [if_neg (by rw [c8]; decide)] at h1
        refine tr_exit ?_
        exact ⟨_, he1 _ (Option.some.inj h1), wk (by simp [weak_iff])⟩
set_option maxHeartbeats 1000000 in
theorem law41_NoticeApart_ok {a0 : List Int} {r : Bool} (h0 : law41_NoticeApart a0 = some r) : FnOK Tryd.prog 6 [] [.d (.slice (rowsF (iRow .i64) a0))] (.d (.bool r)) [] := by
  unfold law41_NoticeApart at h0
  refine fn_ok (nt := 135) (rs := [.tmp 2]) Tryd.func6 rfl Tryd.ntmps6 rfl (by simp) (by decide) rfl fun K => ?_
  refine kr [0] (by simp; rfl) ?_
  refine tr_seq ?_
  refine kr [0, 27] (by simp; rfl) ?_
  refine tr_cond (b := (decide (400 < ((a0).length : Int)))) (by simp) (fun c1 => ?_) (fun c1 => ?_)
  · rw [if_pos c1] at h0
    refine kc ?_
    replace h0 := bnd h0; obtain ⟨y1, hy1, h0⟩ := h0
    refine kcall [28] [] (law41_awake_ok hy1) rfl rfl rfl Tryd.call7 (by simp) (by simp; rfl) ?_
    refine ko [2] 1 (by simp; rfl) ?_
    refine tops_nil ?_
    cases h0
    exact tr_ret ⟨[], by simp, rfl, by simp⟩
  · rw [if_neg (by rw [c1]; decide)] at h0
    refine tr_skip ?_
    refine kr [3] (by simp; rfl) ?_
    refine kc ?_
    refine ko [3, 32] 1 (by simp; rfl) ?_
    replace h0 := bnd h0; obtain ⟨y2, hy2, h0⟩ := h0
    refine kcall [3, 33] [31] (make_Calendar_ok hy2) rfl rfl rfl Tryd.call8 (by simp) (by simp; rfl) ?_
    refine ko [3, 4] 2 (by simp; rfl) ?_
    refine tops_nil ?_
    refine kc ?_
    refine ko [3, 4, 34] 1 (by simp; rfl) ?_
    replace h0 := bnd h0; obtain ⟨y3, hy3, h0⟩ := h0
    refine kcall [3, 4, 35] [31] (make_Directory_ok hy3) rfl rfl rfl Tryd.call9 (by simp) (by simp; rfl) ?_
    refine ko [3, 4, 5] 2 (by simp; rfl) ?_
    refine tops_nil ?_
    refine kd [[], [], [0, 1], [], [], [2, 3, 4], [2], [5]] [2, 5] [(31, [2, 5])] none [] 8 fol (by decide +kernel) (by simp) ?_
    refine dr_go 0 2 rfl (by simp (maxSteps := 1000000); rfl) ?_
    replace h0 := bnd h0; obtain ⟨y4, hy4, h0⟩ := h0
    refine dr_call 2 [31] (make_Stewards_ok hy4) rfl rfl rfl rfl rfl Tryd.call10 (by simp) ?_
    refine dr_go 3 2 rfl (by simp (maxSteps := 1000000); rfl) ?_
    replace h0 := bnd h0; obtain ⟨y5, hy5, h0⟩ := h0
    refine dr_call 5 [31] (make_Cases_ok hy5) rfl rfl rfl rfl rfl Tryd.call11 (by simp) ?_
    refine dr_go 6 2 rfl (by simp (maxSteps := 1000000); rfl) ?_
    refine dr_end rfl (tops_nil ?_)
    refine kc ?_
    refine ko [4, 5, 6, 7, 42] 1 (by simp; rfl) ?_
    replace h0 := bnd h0; obtain ⟨y6, hy6, h0⟩ := h0
    refine kcall [4, 5, 6, 7, 43] [31] (make_Tape_Next_ok hy6) rfl rfl rfl Tryd.call17 (by simp) (by simp; rfl) ?_
    refine ko [4, 5, 6, 7, 8] 1 (by simp; rfl) ?_
    refine tops_nil ?_
    refine kc ?_
    refine ko [4, 5, 6, 7, 8, 45, 46, 47, 48, 49] 5 (by simp; rfl) ?_
    replace h0 := bnd h0; obtain ⟨y7, hy7, h0⟩ := h0
    refine kcall [4, 5, 6, 7, 8, 50] [] (notice_All_ok hy7) rfl rfl rfl Tryd.call12 (by simp) (by simp; rfl) ?_
    refine ko [4, 5, 6, 7, 8, 9, 10] 5 (by simp; rfl) ?_
    refine tops_nil ?_
    refine tr_seq ?_
    refine kr [4, 5, 6, 7, 8, 9, 54] (by simp; rfl) ?_
    refine tr_cond (b := (y7.2 != 0)) (by simp) (fun c2 => ?_) (fun c2 => ?_)
    · rw [if_pos c2] at h0
      refine kr [2] (by simp; rfl) ?_
      cases h0
      exact tr_ret ⟨[], by simp, rfl, by simp⟩
    · rw [if_neg (by rw [c2]; decide)] at h0
      refine tr_skip ?_
      refine tr_seq ?_
      refine kr [4, 5, 6, 7, 8, 9, 11] (by simp; rfl) ?_
      replace h0 := bnd h0; obtain ⟨e1, hI1, h0⟩ := h0
      refine tjv (fun v8 : Unit => ({ nt := 135, env := [(4, .ptr 4 0), (5, .ptr 5 0), (6, .d (.slice (rowsF api_Steward_row y4.1))), (7, .d (.slice (rowsF api_Case_row y5.1))), (8, .d (.int .i64 y6.1))], box := [(4, [.d (.int .i64 y2.1.Day), .d (.int .i64 y2.1.From), .d (.int .i64 y2.1.To), .d (.int .i64 y2.1.Week), .d (.slice (rowsF (iRow .i64) y2.1.Holidays))]), (5, [.d (.slice (rowsF (iRow .i64) y3.1.Kinds)), .d (.slice (rowsF api_Member_row y3.1.Events))])], vec := [] } : St)) (fun v8 => .inl v8 = e1) (fun v8 hI1e _ W1 => ?_) ?_
      · subst hI1e
        dsimp only at h0
        refine tr_wk W1 ?_
        refine kc ?_
        refine ko [5, 7, 8, 107, 108, 109, 110, 111] 5 (by simp; rfl) ?_
        replace h0 := bnd h0; obtain ⟨y9, hy9, h0⟩ := h0
        refine kcall [5, 7, 8, 112] [] (notice_Late_ok hy9) rfl rfl rfl Tryd.call19 (by simp) (by simp; rfl) ?_
        refine ko [5, 7, 8, 20, 21] 5 (by simp; rfl) ?_
        refine tops_nil ?_
        refine kc ?_
        refine ko [20, 21, 115, 116, 117] 3 (by simp; rfl) ?_
        replace h0 := bnd h0; obtain ⟨y10, hy10, h0⟩ := h0
        refine kcall [20, 21, 118] [] (notice_Open_ok hy10) rfl rfl rfl Tryd.call20 (by simp) (by simp; rfl) ?_
        refine ko [20, 21, 22] 1 (by simp; rfl) ?_
        refine tops_nil ?_
        refine tr_seq ?_
        refine kr [21, 22, 119, 120, 121] (by simp; rfl) ?_
        replace h0 := bnd h0; obtain ⟨e2, hI2, h0⟩ := h0
        refine tjv (fun v11 : Unit => ({ nt := 135, env := [(21, .d (.int .i64 y9.2))], box := [], vec := [] } : St)) (fun v11 => .inl v11 = e2) (fun v11 hI2e _ W2 => ?_) ?_
        · subst hI2e
          dsimp only at h0
          refine tr_wk W2 ?_
          replace h0 := bnd h0; obtain ⟨v12, hvv12, h0⟩ := h0
          refine sjv (fun v12_ : Bool => ({ nt := 135, env := [(2, .d (.bool v12_))], box := [], vec := [] } : St)) (fun v12_ => v12 = v12_) (fun v12_ e => ?_) ?_
          · subst e
            cases h0
            exact tr_ret ⟨[], by simp, rfl, by simp⟩
          · refine kc1 ?_
            refine ko [132] 3 (by simp; rfl) ?_
            refine tops_split 132 (y9.2 == 0) (by simp) (fun c39 => ?_) (fun c39 => ?_)
            · rw [if_pos c39] at hvv12
              replace hvv12 := bnd hvv12; obtain ⟨y13, hy13, hvv12⟩ := hvv12
              refine kcall [132, 133] [] (law41_awake_ok hy13) rfl rfl rfl Tryd.call7 (by simp) (by simp; rfl) ?_
              refine ko [2] 2 (by simp; rfl) ?_
              refine tops_nil ?_
              cases hvv12
              exact ⟨_, rfl, wk (by simp [weak_iff])⟩
            · rw [if_neg (by rw [c39]; decide)] at hvv12
              refine ko [2] 3 (by simp; rfl) ?_
              refine tops_nil ?_
              cases hvv12
              exact ⟨_, rfl, wk (by simp [weak_iff])⟩
        · refine tr_block (tr_iter (fun s14 : Int => ({ nt := 135, env := [(21, .d (.int .i64 y9.2)), (22, .d (.slice (rowsF (iRow .i64) y10))), (119, .d (.slice (rowsF (iRow .i64) y9.1))), (120, .d (.int .i64 ((y9.1).length : Int))), (121, .d (.int .i64 s14))], box := [], vec := [] } : St)) hI2 (wk (by simp [weak_iff])) fun G2 s14 o2 h2 hg2 he2 => ?_)
          unfold law41_NoticeApart_l1 at h2
          refine kr [21, 22, 119, 120, 121, 122] (by simp; rfl) ?_
          refine tr_seq ?_
          refine tr_cond (b := (decide (s14 < ((y9.1).length : Int)))) (by simp) (fun c40 => ?_) (fun c40 => ?_)
          · rw [if_pos c40] at h2
            refine tr_skip ?_
            refine tr_seq ?_
            refine tr_block ?_
            replace h2 := bnd h2; obtain ⟨x15, p23, h2⟩ := h2
            replace p23 := idx_some p23
            have p23' := p23; try simp at p23'
            refine kr [21, 22, 24, 119, 120, 121] (by simp [p23, p23']; rfl) ?_
            refine kc ?_
            refine ko [21, 22, 119, 120, 121, 125, 126] 2 (by simp; rfl) ?_
            replace h2 := bnd h2; obtain ⟨y16, hy16, h2⟩ := h2
            refine kcall [21, 22, 119, 120, 121, 127] [] (ref23_Has_ok hy16) rfl rfl rfl Tryd.call13 (by simp) (by simp; rfl) ?_
            refine ko [21, 22, 119, 120, 121, 128] 1 (by simp; rfl) ?_
            refine tops_nil ?_
            refine tr_cond (b := (!y16)) (by simp) (fun c41 => ?_) (fun c41 => ?_)
            · rw [if_pos c41] at h2
              refine kr [2] (by simp; rfl) ?_
              have k1 := he2 _ (Option.some.inj h2)
              subst k1
              dsimp only at h0
              cases h0
              exact tr_ret ⟨[], by simp, rfl, by simp⟩
            · rw [if_neg (by rw [c41]; decide)] at h2
              refine tr_skip ?_
              refine lr (by simp; rfl) ?_
              exact ⟨_, hg2 _ (Option.some.inj h2), wk (by simp [weak_iff])⟩
          · rw [if_neg (by rw [c40]; decide)] at h2
            refine tr_exit ?_
            exact ⟨_, he2 _ (Option.some.inj h2), wk (by simp [weak_iff])⟩
      · refine tr_block (tr_iter (fun s19 : Int => ({ nt := 135, env := [(4, .ptr 4 0), (5, .ptr 5 0), (6, .d (.slice (rowsF api_Steward_row y4.1))), (7, .d (.slice (rowsF api_Case_row y5.1))), (8, .d (.int .i64 y6.1)), (9, .d (.slice (rowsF api_Notice_row y7.1))), (11, .d (.int .i64 s19))], box := [(4, [.d (.int .i64 y2.1.Day), .d (.int .i64 y2.1.From), .d (.int .i64 y2.1.To), .d (.int .i64 y2.1.Week), .d (.slice (rowsF (iRow .i64) y2.1.Holidays))]), (5, [.d (.slice (rowsF (iRow .i64) y3.1.Kinds)), .d (.slice (rowsF api_Member_row y3.1.Events))])], vec := [] } : St)) hI1 (wk (by simp [weak_iff])) fun G2 s19 o2 h2 hg2 he2 => ?_)
        unfold law41_NoticeApart_l0 at h2
        refine tr_seq ?_
        refine kr [4, 5, 6, 7, 8, 9, 11, 56] (by simp; rfl) ?_
        refine tr_cond (b := (decide (s19 < 3))) (by simp) (fun c42 => ?_) (fun c42 => ?_)
        · rw [if_pos c42] at h2
          refine tr_skip ?_
          refine tr_seq ?_
          refine tr_block ?_
          refine kr [4, 5, 6, 7, 8, 9, 11, 12] (by simp; rfl) ?_
          refine tr_seq ?_
          refine kr [4, 5, 6, 7, 8, 9, 11, 12, 59, 60, 61] (by simp; rfl) ?_
          refine tr_wk (wk_own 12 72 43 5 (by simp) (by simp)) ?_
          replace h2 := bnd h2; obtain ⟨e3, hI3, h2⟩ := h2
          refine tjv (fun v20 : (List api_Case) => ({ nt := 135, env := [(4, .ptr 4 0), (5, .ptr 5 0), (6, .d (.slice (rowsF api_Steward_row y4.1))), (7, .d (.slice (rowsF api_Case_row y5.1))), (8, .d (.int .i64 y6.1)), (9, .d (.slice (rowsF api_Notice_row y7.1))), (11, .d (.int .i64 s19)), (12, .vec 72)], box := [(4, [.d (.int .i64 y2.1.Day), .d (.int .i64 y2.1.From), .d (.int .i64 y2.1.To), .d (.int .i64 y2.1.Week), .d (.slice (rowsF (iRow .i64) y2.1.Holidays))]), (5, [.d (.slice (rowsF (iRow .i64) y3.1.Kinds)), .d (.slice (rowsF api_Member_row y3.1.Events))])], vec := [(72, ⟨43, 5, rowsF api_Case_row v20⟩)] } : St)) (fun v20 => v20 = e3) (fun v20 hI3e _ W3 => ?_) ?_
          · subst hI3e
            refine tr_wk W3 ?_
            refine kc ?_
            refine ko [4, 5, 6, 7, 8, 9, 11, 75, 76, 77, 78, 79] 5 (by simp; rfl) ?_
            refine tops_wk (wk_frz 72) ?_
            replace h2 := bnd h2; obtain ⟨y21, hy21, h2⟩ := h2
            refine kcall [4, 5, 6, 7, 8, 9, 11, 80] [] (notice_All_ok hy21) rfl rfl rfl Tryd.call12 (by simp) (by simp; rfl) ?_
            refine ko [4, 5, 6, 7, 8, 9, 11, 15, 16] 5 (by simp; rfl) ?_
            refine tops_nil ?_
            refine kr [4, 5, 6, 7, 8, 9, 11, 15, 16, 17] (by simp; rfl) ?_
            refine tr_seq ?_
            refine kr [4, 5, 6, 7, 8, 9, 11, 15, 16, 17, 83, 84, 85] (by simp; rfl) ?_
            refine tr_wk (wk_own 17 96 45 4 (by simp) (by simp)) ?_
            replace h2 := bnd h2; obtain ⟨e4, hI4, h2⟩ := h2
            refine tjv (fun v22 : (List api_Notice) => ({ nt := 135, env := [(4, .ptr 4 0), (5, .ptr 5 0), (6, .d (.slice (rowsF api_Steward_row y4.1))), (7, .d (.slice (rowsF api_Case_row y5.1))), (8, .d (.int .i64 y6.1)), (9, .d (.slice (rowsF api_Notice_row y7.1))), (11, .d (.int .i64 s19)), (15, .d (.slice (rowsF api_Notice_row y21.1))), (16, .d (.int .i64 y21.2)), (17, .vec 96)], box := [(4, [.d (.int .i64 y2.1.Day), .d (.int .i64 y2.1.From), .d (.int .i64 y2.1.To), .d (.int .i64 y2.1.Week), .d (.slice (rowsF (iRow .i64) y2.1.Holidays))]), (5, [.d (.slice (rowsF (iRow .i64) y3.1.Kinds)), .d (.slice (rowsF api_Member_row y3.1.Events))])], vec := [(96, ⟨45, 4, rowsF api_Notice_row v22⟩)] } : St)) (fun v22 => v22 = e4) (fun v22 hI4e _ W4 => ?_) ?_
            · subst hI4e
              refine tr_wk W4 ?_
              replace h2 := bnd h2; obtain ⟨v23, hvv23, h2⟩ := h2
              refine sjv (fun v23_ : Bool => ({ nt := 135, env := [(4, .ptr 4 0), (5, .ptr 5 0), (6, .d (.slice (rowsF api_Steward_row y4.1))), (7, .d (.slice (rowsF api_Case_row y5.1))), (8, .d (.int .i64 y6.1)), (9, .d (.slice (rowsF api_Notice_row y7.1))), (11, .d (.int .i64 s19)), (105, .d (.bool v23_))], box := [(4, [.d (.int .i64 y2.1.Day), .d (.int .i64 y2.1.From), .d (.int .i64 y2.1.To), .d (.int .i64 y2.1.Week), .d (.slice (rowsF (iRow .i64) y2.1.Holidays))]), (5, [.d (.slice (rowsF (iRow .i64) y3.1.Kinds)), .d (.slice (rowsF api_Member_row y3.1.Events))])], vec := [] } : St)) (fun v23_ => v23 = v23_) (fun v23_ e => ?_) ?_
              · subst e
                refine tr_cond (b := v23) (by simp) (fun c57 => ?_) (fun c57 => ?_)
                · rw [if_pos c57] at h2
                  refine kr [2] (by simp; rfl) ?_
                  have k1 := he2 _ (Option.some.inj h2)
                  subst k1
                  dsimp only at h0
                  cases h0
                  exact tr_ret ⟨[], by simp, rfl, by simp⟩
                · rw [if_neg (by rw [c57]; decide)] at h2
                  refine tr_skip ?_
                  refine lr (by simp; rfl) ?_
                  exact ⟨_, hg2 _ (Option.some.inj h2), wk (by simp [weak_iff])⟩
              · refine kc1 ?_
                refine ko [4, 5, 6, 7, 8, 9, 11, 15, 17, 100] 3 (by simp; rfl) ?_
                refine tops_split 100 (y21.2 != 0) (by simp) (fun c58 => ?_) (fun c58 => ?_)
                · rw [if_pos c58] at hvv23
                  refine kskip 4 [] (by kernel_rfl) ?_
                  refine ko [4, 5, 6, 7, 8, 9, 11, 105] 1 (by simp; rfl) ?_
                  refine tops_nil ?_
                  cases hvv23
                  exact ⟨_, rfl, wk (by simp [weak_iff])⟩
                · rw [if_neg (by rw [c58]; decide)] at hvv23
                  refine ko [4, 5, 6, 7, 8, 9, 11, 100, 101, 102] 2 (by simp; rfl) ?_
                  refine tops_wk (wk_frz 96) ?_
                  replace hvv23 := bnd hvv23; obtain ⟨y24, hy24, hvv23⟩ := hvv23
                  refine kcall [4, 5, 6, 7, 8, 9, 11, 100, 101, 102, 103] [] (ref41_Same_ok hy24) rfl rfl rfl Tryd.call18 (by simp) (by simp; rfl) ?_
                  refine ko [4, 5, 6, 7, 8, 9, 11, 101, 102, 103, 104, 105] 2 (by simp; rfl) ?_
                  refine tops_nil ?_
                  cases hvv23
                  exact ⟨_, rfl, wk (by simp [weak_iff])⟩
            · refine tr_block (tr_iter (fun s25 : Int × (List api_Notice) => ({ nt := 135, env := [(4, .ptr 4 0), (5, .ptr 5 0), (6, .d (.slice (rowsF api_Steward_row y4.1))), (7, .d (.slice (rowsF api_Case_row y5.1))), (8, .d (.int .i64 y6.1)), (9, .d (.slice (rowsF api_Notice_row y7.1))), (11, .d (.int .i64 s19)), (15, .d (.slice (rowsF api_Notice_row y21.1))), (16, .d (.int .i64 y21.2)), (17, .vec 96), (83, .d (.slice (rowsF api_Notice_row y7.1))), (84, .d (.int .i64 ((y7.1).length : Int))), (85, .d (.int .i64 s25.1))], box := [(4, [.d (.int .i64 y2.1.Day), .d (.int .i64 y2.1.From), .d (.int .i64 y2.1.To), .d (.int .i64 y2.1.Week), .d (.slice (rowsF (iRow .i64) y2.1.Holidays))]), (5, [.d (.slice (rowsF (iRow .i64) y3.1.Kinds)), .d (.slice (rowsF api_Member_row y3.1.Events))])], vec := [(96, ⟨45, 4, rowsF api_Notice_row s25.2⟩)] } : St)) hI4 (wk (by simp [weak_iff])) fun G4 s25 o4 h4 hg4 he4 => ?_)
              unfold law41_NoticeApart_l3 at h4
              refine kr [4, 5, 6, 7, 8, 9, 11, 15, 16, 17, 83, 84, 85, 86] (by simp; rfl) ?_
              refine tr_seq ?_
              refine tr_cond (b := (decide (s25.1 < ((y7.1).length : Int)))) (by simp) (fun c59 => ?_) (fun c59 => ?_)
              · rw [if_pos c59] at h4
                refine tr_skip ?_
                refine tr_seq ?_
                refine tr_block ?_
                replace h4 := bnd h4; obtain ⟨x26, p34, h4⟩ := h4
                replace p34 := idx_some p34
                have p34' := p34; try simp at p34'
                refine kr [4, 5, 6, 7, 8, 9, 11, 15, 16, 17, 19, 83, 84, 85] (by simp [p34, p34']; rfl) ?_
                refine kr [4, 5, 6, 7, 8, 9, 11, 15, 16, 17, 19, 83, 84, 85, 92] (by simp; rfl) ?_
                refine tr_cond (b := (x26.Case == s19)) (by simp) (fun c60 => ?_) (fun c60 => ?_)
                · rw [if_pos c60] at h4
                  replace h4 := bnd h4; obtain ⟨_, p35, h4⟩ := h4
                  replace p35 := ck_some p35
                  have p35' := p35; try simp at p35'
                  refine lr (by simp [p35, p35']; rfl) ?_
                  refine lr (by simp; rfl) ?_
                  exact ⟨_, hg4 _ (Option.some.inj h4), wk (by simp [weak_iff])⟩
                · rw [if_neg (by rw [c60]; decide)] at h4
                  refine tr_skip ?_
                  refine lr (by simp; rfl) ?_
                  exact ⟨_, hg4 _ (Option.some.inj h4), wk (by simp [weak_iff])⟩
              · rw [if_neg (by rw [c59]; decide)] at h4
                refine tr_exit ?_
                exact ⟨_, he4 _ (Option.some.inj h4), wk (by simp [weak_iff])⟩
          · refine tr_block (tr_iter (fun s27 : Int × (List api_Case) => ({ nt := 135, env := [(4, .ptr 4 0), (5, .ptr 5 0), (6, .d (.slice (rowsF api_Steward_row y4.1))), (7, .d (.slice (rowsF api_Case_row y5.1))), (8, .d (.int .i64 y6.1)), (9, .d (.slice (rowsF api_Notice_row y7.1))), (11, .d (.int .i64 s19)), (12, .vec 72), (59, .d (.slice (rowsF api_Case_row y5.1))), (60, .d (.int .i64 ((y5.1).length : Int))), (61, .d (.int .i64 s27.1))], box := [(4, [.d (.int .i64 y2.1.Day), .d (.int .i64 y2.1.From), .d (.int .i64 y2.1.To), .d (.int .i64 y2.1.Week), .d (.slice (rowsF (iRow .i64) y2.1.Holidays))]), (5, [.d (.slice (rowsF (iRow .i64) y3.1.Kinds)), .d (.slice (rowsF api_Member_row y3.1.Events))])], vec := [(72, ⟨43, 5, rowsF api_Case_row s27.2⟩)] } : St)) hI3 (wk (by simp [weak_iff])) fun G4 s27 o4 h4 hg4 he4 => ?_)
            unfold law41_NoticeApart_l2 at h4
            refine kr [4, 5, 6, 7, 8, 9, 11, 12, 59, 60, 61, 62] (by simp; rfl) ?_
            refine tr_seq ?_
            refine tr_cond (b := (decide (s27.1 < ((y5.1).length : Int)))) (by simp) (fun c61 => ?_) (fun c61 => ?_)
            · rw [if_pos c61] at h4
              refine tr_skip ?_
              refine tr_seq ?_
              refine tr_block ?_
              replace h4 := bnd h4; obtain ⟨x28, p36, h4⟩ := h4
              replace p36 := idx_some p36
              have p36' := p36; try simp at p36'
              refine kr [4, 5, 6, 7, 8, 9, 11, 12, 14, 59, 60, 61] (by simp [p36, p36']; rfl) ?_
              refine kr [4, 5, 6, 7, 8, 9, 11, 12, 14, 59, 60, 61, 68] (by simp; rfl) ?_
              refine tr_cond (b := (x28.Case == s19)) (by simp) (fun c62 => ?_) (fun c62 => ?_)
              · rw [if_pos c62] at h4
                replace h4 := bnd h4; obtain ⟨_, p37, h4⟩ := h4
                replace p37 := ck_some p37
                have p37' := p37; try simp at p37'
                refine lr (by simp [p37, p37']; rfl) ?_
                refine lr (by simp; rfl) ?_
                exact ⟨_, hg4 _ (Option.some.inj h4), wk (by simp [weak_iff])⟩
              · rw [if_neg (by rw [c62]; decide)] at h4
                refine tr_skip ?_
                refine lr (by simp; rfl) ?_
                exact ⟨_, hg4 _ (Option.some.inj h4), wk (by simp [weak_iff])⟩
            · rw [if_neg (by rw [c61]; decide)] at h4
              refine tr_exit ?_
              exact ⟨_, he4 _ (Option.some.inj h4), wk (by simp [weak_iff])⟩
        · rw [if_neg (by rw [c42]; decide)] at h2
          refine tr_exit ?_
          exact ⟨_, he2 _ (Option.some.inj h2), wk (by simp [weak_iff])⟩
end Go.Vl
