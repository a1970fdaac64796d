/- Walks: each function of the given program computes what its mirror says. Conditions: none. -/
import Derived.Test.YtciimncnodejaaaDoorNw2
set_option linter.unusedSimpArgs false
set_option linter.unusedVariables false
namespace Go.Vl
open Go Go.Proofs
set_option maxHeartbeats 1000000 in
theorem law41_NoticeQuiet_ok {a0 : List Int} {r : Bool} (h0 : law41_NoticeQuiet a0 = some r) : FnOK Tryd.prog 4 [] [.d (.slice (rowsF (iRow .i64) a0))] (.d (.bool r)) [] := by
  unfold law41_NoticeQuiet at h0
  refine fn_ok (nt := 119) (rs := [.tmp 2]) Tryd.func4 rfl Tryd.ntmps4 rfl (by simp) (by decide) rfl fun K => ?_
  refine kr [0] (by simp; rfl) ?_
  refine tr_seq ?_
  refine kr [0, 20] (by simp; rfl) ?_
  refine tr_cond (b := (decide (400 < ((a0).length : Int)))) (by simp) (fun c1 => ?_) (fun c1 => ?_)
  · rw [if_pos c1] at h0
    refine kc ?_
    replace h0 := bnd h0; obtain ⟨y1, hy1, h0⟩ := h0
    refine kcall [21] [] (law41_awake_ok hy1) rfl rfl rfl Tryd.call7 (by simp) (by simp; rfl) ?_
    refine ko [2] 1 (by simp; rfl) ?_
    refine tops_nil ?_
    cases h0
    exact tr_ret ⟨[], by simp, rfl, by simp⟩
  · rw [if_neg (by rw [c1]; decide)] at h0
    refine tr_skip ?_
    refine kr [3] (by simp; rfl) ?_
    refine kc ?_
    refine ko [3, 25] 1 (by simp; rfl) ?_
    replace h0 := bnd h0; obtain ⟨y2, hy2, h0⟩ := h0
    refine kcall [3, 26] [24] (make_Calendar_ok hy2) rfl rfl rfl Tryd.call8 (by simp) (by simp; rfl) ?_
    refine ko [3, 4] 2 (by simp; rfl) ?_
    refine tops_nil ?_
    refine kc ?_
    refine ko [3, 4, 27] 1 (by simp; rfl) ?_
    replace h0 := bnd h0; obtain ⟨y3, hy3, h0⟩ := h0
    refine kcall [3, 4, 28] [24] (make_Directory_ok hy3) rfl rfl rfl Tryd.call9 (by simp) (by simp; rfl) ?_
    refine ko [3, 4, 5] 2 (by simp; rfl) ?_
    refine tops_nil ?_
    refine kd [[], [], [0, 1], [], [], [2, 3, 4], [2], [5]] [2, 5] [(24, [2, 5])] none [] 8 fol (by decide +kernel) (by simp) ?_
    refine dr_go 0 2 rfl (by simp (maxSteps := 1000000); rfl) ?_
    replace h0 := bnd h0; obtain ⟨y4, hy4, h0⟩ := h0
    refine dr_call 2 [24] (make_Stewards_ok hy4) rfl rfl rfl rfl rfl Tryd.call10 (by simp) ?_
    refine dr_go 3 2 rfl (by simp (maxSteps := 1000000); rfl) ?_
    replace h0 := bnd h0; obtain ⟨y5, hy5, h0⟩ := h0
    refine dr_call 5 [24] (make_Cases_ok hy5) rfl rfl rfl rfl rfl Tryd.call11 (by simp) ?_
    refine dr_go 6 2 rfl (by simp (maxSteps := 1000000); rfl) ?_
    refine dr_end rfl (tops_nil ?_)
    refine kc ?_
    refine ko [7, 36, 37, 38, 39] 4 (by simp; rfl) ?_
    replace h0 := bnd h0; obtain ⟨y6, hy6, h0⟩ := h0
    refine kcall [7, 40] [] (notice_All_ok hy6) rfl rfl rfl Tryd.call12 (by simp) (by simp; rfl) ?_
    refine ko [7, 8, 9] 5 (by simp; rfl) ?_
    refine tops_nil ?_
    refine tr_seq ?_
    refine kr [7, 8, 44] (by simp; rfl) ?_
    refine tr_cond (b := (y6.2 != 0)) (by simp) (fun c2 => ?_) (fun c2 => ?_)
    · rw [if_pos c2] at h0
      refine kr [2] (by simp; rfl) ?_
      cases h0
      exact tr_ret ⟨[], by simp, rfl, by simp⟩
    · rw [if_neg (by rw [c2]; decide)] at h0
      refine tr_skip ?_
      refine tr_seq ?_
      refine kr [7, 8, 45, 46, 47] (by simp; rfl) ?_
      replace h0 := bnd h0; obtain ⟨e1, hI1, h0⟩ := h0
      refine tjv (fun v7 : Unit => ({ nt := 119, env := [], box := [], vec := [] } : St)) (fun v7 => .inl v7 = e1) (fun v7 hI1e _ W1 => ?_) ?_
      · subst hI1e
        dsimp only at h0
        refine tr_wk W1 ?_
        refine kc ?_
        replace h0 := bnd h0; obtain ⟨y8, hy8, h0⟩ := h0
        refine kcall [118] [] (law41_awake_ok hy8) rfl rfl rfl Tryd.call7 (by simp) (by simp; rfl) ?_
        refine ko [2] 1 (by simp; rfl) ?_
        refine tops_nil ?_
        cases h0
        exact tr_ret ⟨[], by simp, rfl, by simp⟩
      · refine tr_block (tr_iter (fun s9 : Int => ({ nt := 119, env := [(7, .d (.slice (rowsF api_Case_row y5.1))), (8, .d (.slice (rowsF api_Notice_row y6.1))), (45, .d (.slice (rowsF api_Case_row y5.1))), (46, .d (.int .i64 ((y5.1).length : Int))), (47, .d (.int .i64 s9))], box := [], vec := [] } : St)) hI1 (wk (by simp [weak_iff])) fun G1 s9 o1 h1 hg1 he1 => ?_)
        unfold law41_NoticeQuiet_l0 at h1
        refine kr [7, 8, 45, 46, 47, 48] (by simp; rfl) ?_
        refine tr_seq ?_
        refine tr_cond (b := (decide (s9 < ((y5.1).length : Int)))) (by simp) (fun c49 => ?_) (fun c49 => ?_)
        · rw [if_pos c49] at h1
          refine tr_skip ?_
          refine tr_seq ?_
          refine tr_block ?_
          replace h1 := bnd h1; obtain ⟨x10, p13, h1⟩ := h1
          replace p13 := idx_some p13
          have p13' := p13; try simp at p13'
          refine kr [7, 8, 10, 11, 45, 46, 47] (by simp [p13, p13']; rfl) ?_
          refine tr_seq ?_
          refine kr [7, 8, 10, 11, 45, 46, 47, 54] (by simp; rfl) ?_
          refine tr_cond (b := (x10.Kind != 1)) (by simp) (fun c50 => ?_) (fun c50 => ?_)
          · rw [if_pos c50] at h1
            refine tr_exit ?_
            refine lr (by simp; rfl) ?_
            exact ⟨_, hg1 _ (Option.some.inj h1), wk (by simp [weak_iff])⟩
          · rw [if_neg (by rw [c50]; decide)] at h1
            refine tr_skip ?_
            refine kr [7, 8, 10, 11, 12, 45, 46, 47] (by simp; rfl) ?_
            refine tr_seq ?_
            replace h1 := bnd h1; obtain ⟨_, p14, h1⟩ := h1
            replace p14 := ck_some p14
            have p14' := p14; try simp at p14'
            refine kr [7, 8, 11, 12, 45, 46, 47, 58, 59, 60] (by simp [p14, p14']; rfl) ?_
            replace h1 := bnd h1; obtain ⟨e2, hI2, h1⟩ := h1
            refine tjv (fun v11 : Int => ({ nt := 119, env := [(7, .d (.slice (rowsF api_Case_row y5.1))), (8, .d (.slice (rowsF api_Notice_row y6.1))), (11, .ptr 11 0), (12, .d (.int .i64 v11)), (45, .d (.slice (rowsF api_Case_row y5.1))), (46, .d (.int .i64 ((y5.1).length : Int))), (47, .d (.int .i64 s9))], box := [(11, [.d (.int .i64 x10.Time), .d (.int .i64 x10.Kind), .d (.int .i64 x10.Case), .d (.int .i64 x10.Level), .d (.int .i64 x10.Owner)])], vec := [] } : St)) (fun v11 => v11 = e2) (fun v11 hI2e _ W2 => ?_) ?_
            · subst hI2e
              refine tr_wk W2 ?_
              refine kr [7, 8, 11, 12, 15, 45, 46, 47] (by simp; rfl) ?_
              refine tr_seq ?_
              refine kr [7, 8, 11, 12, 15, 45, 46, 47, 76, 77, 78] (by simp; rfl) ?_
              replace h1 := bnd h1; obtain ⟨e3, hI3, h1⟩ := h1
              refine tjv (fun v12 : Int => ({ nt := 119, env := [(7, .d (.slice (rowsF api_Case_row y5.1))), (8, .d (.slice (rowsF api_Notice_row y6.1))), (12, .d (.int .i64 v11)), (15, .d (.int .i64 v12)), (45, .d (.slice (rowsF api_Case_row y5.1))), (46, .d (.int .i64 ((y5.1).length : Int))), (47, .d (.int .i64 s9))], box := [], vec := [] } : St)) (fun v12 => .inl v12 = e3) (fun v12 hI3e _ W3 => ?_) ?_
              · subst hI3e
                dsimp only at h1
                refine tr_wk W3 ?_
                replace h1 := bnd h1; obtain ⟨v13, hvv13, h1⟩ := h1
                refine sjv (fun v13_ : Bool => ({ nt := 119, env := [(7, .d (.slice (rowsF api_Case_row y5.1))), (8, .d (.slice (rowsF api_Notice_row y6.1))), (45, .d (.slice (rowsF api_Case_row y5.1))), (46, .d (.int .i64 ((y5.1).length : Int))), (47, .d (.int .i64 s9)), (116, .d (.bool v13_))], box := [], vec := [] } : St)) (fun v13_ => v13 = v13_) (fun v13_ e => ?_) ?_
                · subst e
                  refine tr_cond (b := v13) (by simp) (fun c75 => ?_) (fun c75 => ?_)
                  · rw [if_pos c75] at h1
                    refine kr [2] (by simp; rfl) ?_
                    have k1 := he1 _ (Option.some.inj h1)
                    subst k1
                    dsimp only at h0
                    cases h0
                    exact tr_ret ⟨[], by simp, rfl, by simp⟩
                  · rw [if_neg (by rw [c75]; decide)] at h1
                    refine tr_skip ?_
                    refine lr (by simp; rfl) ?_
                    exact ⟨_, hg1 _ (Option.some.inj h1), wk (by simp [weak_iff])⟩
                · refine kc1 ?_
                  refine ko [7, 8, 15, 45, 46, 47, 105] 3 (by simp; rfl) ?_
                  refine tops_split 105 (decide (v11 < 0)) (by simp) (fun c76 => ?_) (fun c76 => ?_)
                  · rw [c76] at hvv13
                    refine ko [7, 8, 15, 45, 46, 47, 106, 107, 109] 4 (by simp; rfl) ?_
                    refine tops_split 109 (v12 != 4) (by simp) (fun c77 => ?_) (fun c77 => ?_)
                    · rw [c77] at hvv13
                      refine ko [7, 8, 45, 46, 47, 106, 107, 110, 111, 114, 115, 116] 7 (by simp; rfl) ?_
                      refine tops_nil ?_
                      cases hvv13
                      exact ⟨_, rfl, wk (by simp [weak_iff])⟩
                    · rw [c77] at hvv13
                      refine ko [7, 8, 15, 45, 46, 47, 106, 107, 110, 111, 113] 4 (by simp; rfl) ?_
                      refine tops_split 113 (decide (v12 < 1)) (by simp) (fun c78 => ?_) (fun c78 => ?_)
                      · rw [c78] at hvv13
                        refine ko [7, 8, 45, 46, 47, 106, 107, 110, 111, 114, 115, 116] 3 (by simp; rfl) ?_
                        refine tops_nil ?_
                        cases hvv13
                        exact ⟨_, rfl, wk (by simp [weak_iff])⟩
                      · rw [c78] at hvv13
                        refine ko [7, 8, 45, 46, 47, 106, 107, 110, 111, 114, 115, 116] 3 (by simp; rfl) ?_
                        refine tops_nil ?_
                        cases hvv13
                        exact ⟨_, rfl, wk (by simp [weak_iff])⟩
                  · rw [c76] at hvv13
                    refine ko [7, 8, 15, 45, 46, 47, 106, 107, 110, 111, 113] 8 (by simp; rfl) ?_
                    refine tops_split 113 (decide (v12 < 1)) (by simp) (fun c79 => ?_) (fun c79 => ?_)
                    · rw [c79] at hvv13
                      refine ko [7, 8, 45, 46, 47, 106, 107, 110, 111, 114, 115, 116] 3 (by simp; rfl) ?_
                      refine tops_nil ?_
                      cases hvv13
                      exact ⟨_, rfl, wk (by simp [weak_iff])⟩
                    · rw [c79] at hvv13
                      refine ko [7, 8, 45, 46, 47, 106, 107, 110, 111, 114, 115, 116] 3 (by simp; rfl) ?_
                      refine tops_nil ?_
                      cases hvv13
                      exact ⟨_, rfl, wk (by simp [weak_iff])⟩
              · refine tr_block (tr_iter (fun s14 : Int × Int => ({ nt := 119, env := [(7, .d (.slice (rowsF api_Case_row y5.1))), (8, .d (.slice (rowsF api_Notice_row y6.1))), (11, .ptr 11 0), (12, .d (.int .i64 v11)), (15, .d (.int .i64 s14.1)), (45, .d (.slice (rowsF api_Case_row y5.1))), (46, .d (.int .i64 ((y5.1).length : Int))), (47, .d (.int .i64 s9)), (76, .d (.slice (rowsF api_Notice_row y6.1))), (77, .d (.int .i64 ((y6.1).length : Int))), (78, .d (.int .i64 s14.2))], box := [(11, [.d (.int .i64 x10.Time), .d (.int .i64 x10.Kind), .d (.int .i64 x10.Case), .d (.int .i64 x10.Level), .d (.int .i64 x10.Owner)])], vec := [] } : St)) hI3 (wk (by simp [weak_iff])) fun G3 s14 o3 h3 hg3 he3 => ?_)
                unfold law41_NoticeQuiet_l2 at h3
                refine kr [7, 8, 11, 12, 15, 45, 46, 47, 76, 77, 78, 79] (by simp; rfl) ?_
                refine tr_seq ?_
                refine tr_cond (b := (decide (s14.2 < ((y6.1).length : Int)))) (by simp) (fun c80 => ?_) (fun c80 => ?_)
                · rw [if_pos c80] at h3
                  refine tr_skip ?_
                  refine tr_seq ?_
                  refine tr_block ?_
                  replace h3 := bnd h3; obtain ⟨x15, p19, h3⟩ := h3
                  replace p19 := idx_some p19
                  have p19' := p19; try simp at p19'
                  refine kr [7, 8, 11, 12, 15, 17, 45, 46, 47, 76, 77, 78] (by simp [p19, p19']; rfl) ?_
                  refine tr_seq ?_
                  refine kr [7, 8, 11, 12, 15, 17, 45, 46, 47, 76, 77, 78, 86] (by simp; rfl) ?_
                  refine tr_cond (b := (x15.Case != x10.Case)) (by simp) (fun c81 => ?_) (fun c81 => ?_)
                  · rw [if_pos c81] at h3
                    refine tr_exit ?_
                    refine lr (by simp; rfl) ?_
                    exact ⟨_, hg3 _ (Option.some.inj h3), wk (by simp [weak_iff])⟩
                  · rw [if_neg (by rw [c81]; decide)] at h3
                    refine tr_skip ?_
                    refine kr [7, 8, 11, 12, 15, 17, 45, 46, 47, 76, 77, 78] (by simp; rfl) ?_
                    replace h3 := bnd h3; obtain ⟨v16, hvv16, h3⟩ := h3
                    refine sjv (fun v16_ : Bool => ({ nt := 119, env := [(7, .d (.slice (rowsF api_Case_row y5.1))), (8, .d (.slice (rowsF api_Notice_row y6.1))), (11, .ptr 11 0), (12, .d (.int .i64 v11)), (15, .d (.int .i64 (IntKind.i64.wrap (s14.1 + 1)))), (45, .d (.slice (rowsF api_Case_row y5.1))), (46, .d (.int .i64 ((y5.1).length : Int))), (47, .d (.int .i64 s9)), (76, .d (.slice (rowsF api_Notice_row y6.1))), (77, .d (.int .i64 ((y6.1).length : Int))), (78, .d (.int .i64 s14.2)), (101, .d (.bool v16_))], box := [(11, [.d (.int .i64 x10.Time), .d (.int .i64 x10.Kind), .d (.int .i64 x10.Case), .d (.int .i64 x10.Level), .d (.int .i64 x10.Owner)])], vec := [] } : St)) (fun v16_ => v16 = v16_) (fun v16_ e => ?_) ?_
                    · subst e
                      refine tr_cond (b := v16) (by simp) (fun c86 => ?_) (fun c86 => ?_)
                      · rw [if_pos c86] at h3
                        refine kr [2] (by simp; rfl) ?_
                        have k2 := he3 _ (Option.some.inj h3)
                        subst k2
                        dsimp only at h1
                        have k1 := he1 _ (Option.some.inj h1)
                        subst k1
                        dsimp only at h0
                        cases h0
                        exact tr_ret ⟨[], by simp, rfl, by simp⟩
                      · rw [if_neg (by rw [c86]; decide)] at h3
                        refine tr_skip ?_
                        refine lr (by simp; rfl) ?_
                        exact ⟨_, hg3 _ (Option.some.inj h3), wk (by simp [weak_iff])⟩
                    · refine kc1 ?_
                      refine ko [7, 8, 11, 12, 15, 17, 45, 46, 47, 76, 77, 78, 91] 3 (by simp; rfl) ?_
                      refine tops_split 91 (decide (0 ≤ v11)) (by simp) (fun c87 => ?_) (fun c87 => ?_)
                      · rw [c87] at hvv16
                        refine ko [7, 8, 11, 12, 15, 17, 45, 46, 47, 76, 77, 78, 92, 93, 94, 96] 5 (by simp; rfl) ?_
                        refine tops_split 96 (decide (0 < x15.Step)) (by simp) (fun c88 => ?_) (fun c88 => ?_)
                        · rw [c88] at hvv16
                          refine ko [7, 8, 11, 12, 15, 45, 46, 47, 76, 77, 78, 92, 93, 94, 97, 98, 99, 100, 101] 5 (by simp; rfl) ?_
                          refine tops_nil ?_
                          cases hvv16
                          exact ⟨_, rfl, wk (by simp [weak_iff])⟩
                        · rw [c88] at hvv16
                          refine kskip 4 [] (by kernel_rfl) ?_
                          refine ko [7, 8, 11, 12, 15, 45, 46, 47, 76, 77, 78, 92, 93, 94, 101] 1 (by simp; rfl) ?_
                          refine tops_nil ?_
                          cases hvv16
                          exact ⟨_, rfl, wk (by simp [weak_iff])⟩
                      · rw [c87] at hvv16
                        refine kskip 3 [] (by kernel_rfl) ?_
                        refine ko [7, 8, 11, 12, 15, 17, 45, 46, 47, 76, 77, 78, 96] 2 (by simp; rfl) ?_
                        refine kskip 4 [] (by kernel_rfl) ?_
                        refine ko [7, 8, 11, 12, 15, 45, 46, 47, 76, 77, 78, 101] 1 (by simp; rfl) ?_
                        refine tops_nil ?_
                        cases hvv16
                        exact ⟨_, rfl, wk (by simp [weak_iff])⟩
                · rw [if_neg (by rw [c80]; decide)] at h3
                  refine tr_exit ?_
                  exact ⟨_, he3 _ (Option.some.inj h3), wk (by simp [weak_iff])⟩
            · refine tr_block (tr_iter (fun s19 : Int × Int => ({ nt := 119, env := [(7, .d (.slice (rowsF api_Case_row y5.1))), (8, .d (.slice (rowsF api_Notice_row y6.1))), (11, .ptr 11 0), (12, .d (.int .i64 s19.1)), (45, .d (.slice (rowsF api_Case_row y5.1))), (46, .d (.int .i64 ((y5.1).length : Int))), (47, .d (.int .i64 s9)), (58, .d (.slice (rowsF api_Case_row ((y5.1).drop (Int.toNat (IntKind.i64.wrap (s9 + 1))))))), (59, .d (.int .i64 ((((y5.1).drop (Int.toNat (IntKind.i64.wrap (s9 + 1))))).length : Int))), (60, .d (.int .i64 s19.2))], box := [(11, [.d (.int .i64 x10.Time), .d (.int .i64 x10.Kind), .d (.int .i64 x10.Case), .d (.int .i64 x10.Level), .d (.int .i64 x10.Owner)])], vec := [] } : St)) hI2 (wk (by simp [weak_iff])) fun G3 s19 o3 h3 hg3 he3 => ?_)
              unfold law41_NoticeQuiet_l1 at h3
              refine kr [7, 8, 11, 12, 45, 46, 47, 58, 59, 60, 61] (by simp; rfl) ?_
              refine tr_seq ?_
              refine tr_cond (b := (decide (s19.2 < ((((y5.1).drop (Int.toNat (IntKind.i64.wrap (s9 + 1))))).length : Int)))) (by simp) (fun c89 => ?_) (fun c89 => ?_)
              · rw [if_pos c89] at h3
                refine tr_skip ?_
                refine tr_seq ?_
                refine tr_block ?_
                replace h3 := bnd h3; obtain ⟨x20, p20, h3⟩ := h3
                replace p20 := idx_some p20
                have p20' := p20; try simp at p20'
                refine kr [7, 8, 11, 12, 14, 45, 46, 47, 58, 59, 60] (by simp [p20, p20']; rfl) ?_
                replace h3 := bnd h3; obtain ⟨v21, hvv21, h3⟩ := h3
                refine sjv (fun v21_ : Bool => ({ nt := 119, env := [(7, .d (.slice (rowsF api_Case_row y5.1))), (8, .d (.slice (rowsF api_Notice_row y6.1))), (11, .ptr 11 0), (12, .d (.int .i64 s19.1)), (14, .ptr 14 0), (45, .d (.slice (rowsF api_Case_row y5.1))), (46, .d (.int .i64 ((y5.1).length : Int))), (47, .d (.int .i64 s9)), (58, .d (.slice (rowsF api_Case_row ((y5.1).drop (Int.toNat (IntKind.i64.wrap (s9 + 1))))))), (59, .d (.int .i64 ((((y5.1).drop (Int.toNat (IntKind.i64.wrap (s9 + 1))))).length : Int))), (60, .d (.int .i64 s19.2)), (72, .d (.bool v21_))], box := [(11, [.d (.int .i64 x10.Time), .d (.int .i64 x10.Kind), .d (.int .i64 x10.Case), .d (.int .i64 x10.Level), .d (.int .i64 x10.Owner)]), (14, [.d (.int .i64 x20.Time), .d (.int .i64 x20.Kind), .d (.int .i64 x20.Case), .d (.int .i64 x20.Level), .d (.int .i64 x20.Owner)])], vec := [] } : St)) (fun v21_ => v21 = v21_) (fun v21_ e => ?_) ?_
                · subst e
                  refine tr_cond (b := v21) (by simp) (fun c92 => ?_) (fun c92 => ?_)
                  · rw [if_pos c92] at h3
                    refine lr (by simp; rfl) ?_
                    refine lr (by simp; rfl) ?_
                    exact ⟨_, hg3 _ (Option.some.inj h3), wk (by simp [weak_iff])⟩
                  · rw [if_neg (by rw [c92]; decide)] at h3
                    refine tr_skip ?_
                    refine lr (by simp; rfl) ?_
                    exact ⟨_, hg3 _ (Option.some.inj h3), wk (by simp [weak_iff])⟩
                · refine kc1 ?_
                  refine ko [7, 8, 11, 12, 14, 45, 46, 47, 58, 59, 60, 69] 6 (by simp; rfl) ?_
                  refine tops_split 69 (x20.Case == x10.Case) (by simp) (fun c93 => ?_) (fun c93 => ?_)
                  · rw [c93] at hvv21
                    refine ko [7, 8, 11, 12, 14, 45, 46, 47, 58, 59, 60, 70, 71, 72] 3 (by simp; rfl) ?_
                    refine tops_nil ?_
                    cases hvv21
                    exact ⟨_, rfl, wk (by simp [weak_iff])⟩
                  · rw [c93] at hvv21
                    refine ko [7, 8, 11, 12, 14, 45, 46, 47, 58, 59, 60, 70, 71, 72] 3 (by simp; rfl) ?_
                    refine tops_nil ?_
                    cases hvv21
                    exact ⟨_, rfl, wk (by simp [weak_iff])⟩
              · rw [if_neg (by rw [c89]; decide)] at h3
                refine tr_exit ?_
                exact ⟨_, he3 _ (Option.some.inj h3), wk (by simp [weak_iff])⟩
        · rw [if_neg (by rw [c49]; decide)] at h1
          refine tr_exit ?_
          exact ⟨_, he1 _ (Option.some.inj h1), wk (by simp [weak_iff])⟩
end Go.Vl
