/- Walks: each function of the given program computes what its mirror says. Conditions: none. -/
import Derived.Test.YtclmnpkhopioiabSw2
set_option linter.unusedSimpArgs false
set_option linter.unusedVariables false
namespace Go.Vl
open Go Go.Proofs
set_option maxHeartbeats 1000000 in
theorem law35_PlanPools_ok {a0 : List Int} {r : Bool} (h0 : law35_PlanPools a0 = some r) : FnOK Try.prog 13 [] [.d (.slice (rowsF (iRow .i64) a0))] (.d (.bool r)) [] := by
  unfold law35_PlanPools at h0
  refine fn_ok (nt := 112) (rs := [.tmp 2]) Try.func13 rfl Try.ntmps13 rfl (by simp) (by decide) rfl fun K => ?_
  refine kr [0] (by simp; rfl) ?_
  refine tr_seq ?_
  refine kr [0, 16] (by simp; rfl) ?_
  refine tr_cond (b := (decide (200 < ((a0).length : Int)))) (by simp) (fun c1 => ?_) (fun c1 => ?_)
  · rw [if_pos c1] at h0
    refine kc ?_
    replace h0 := bnd h0; obtain ⟨y1, hy1, h0⟩ := h0
    refine kcall [17] [] (law35_awake_ok hy1) rfl rfl rfl Try.call45 (by simp) (by simp; rfl) ?_
    refine ko [2] 1 (by simp; rfl) ?_
    refine tops_nil ?_
    cases h0
    exact tr_ret ⟨[], by simp, rfl, by simp⟩
  · rw [if_neg (by rw [c1]; decide)] at h0
    refine tr_skip ?_
    refine kr [3] (by simp; rfl) ?_
    refine kc ?_
    refine ko [21] 1 (by simp; rfl) ?_
    replace h0 := bnd h0; obtain ⟨y2, hy2, h0⟩ := h0
    refine kcall [22] [20] (make_Fleet_ok hy2) rfl rfl rfl Try.call17 (by simp) (by simp; rfl) ?_
    refine ko [4] 2 (by simp; rfl) ?_
    refine tops_nil ?_
    refine kc ?_
    refine ko [4, 24] 1 (by simp; rfl) ?_
    replace h0 := bnd h0; obtain ⟨y3, hy3, h0⟩ := h0
    refine kcall [4, 25] [] (plan_Why_ok hy3) rfl rfl rfl Try.call47 (by simp) (by simp; rfl) ?_
    refine ko [4, 5, 6] 6 (by simp; rfl) ?_
    refine tops_nil ?_
    refine tr_seq ?_
    refine kr [4, 5, 6, 7] (by simp; rfl) ?_
    replace h0 := bnd h0; obtain ⟨e1, hI1, h0⟩ := h0
    refine tjv (fun v4 : Unit => ({ nt := 112, env := [], box := [], vec := [] } : St)) (fun v4 => .inl v4 = e1) (fun v4 hI1e _ W1 => ?_) ?_
    · subst hI1e
      dsimp only at h0
      refine tr_wk W1 ?_
      refine kc ?_
      replace h0 := bnd h0; obtain ⟨y5, hy5, h0⟩ := h0
      refine kcall [111] [] (law35_awake_ok hy5) rfl rfl rfl Try.call45 (by simp) (by simp; rfl) ?_
      refine ko [2] 1 (by simp; rfl) ?_
      refine tops_nil ?_
      cases h0
      exact tr_ret ⟨[], by simp, rfl, by simp⟩
    · refine tr_block (tr_iter (fun s6 : Int => ({ nt := 112, env := [(4, .ptr 4 0), (5, .ptr 5 0), (6, .d (.bool y3.2)), (7, .d (.int .i64 s6))], box := [(4, [.d (.int .i64 y2.1.Slots), .d (.slice (rowsF api_Consumer_row y2.1.Consumers))]), (5, [.d (.int .i64 y3.1.Pool)])], vec := [] } : St)) hI1 (wk (by simp [weak_iff])) fun G1 s6 o1 h1 hg1 he1 => ?_)
      unfold law35_PlanPools_l0 at h1
      refine tr_seq ?_
      refine kr [4, 5, 6, 7, 29] (by simp; rfl) ?_
      refine tr_cond (b := (decide (s6 < 8))) (by simp) (fun c68 => ?_) (fun c68 => ?_)
      · rw [if_pos c68] at h1
        refine tr_skip ?_
        refine tr_seq ?_
        refine tr_block ?_
        refine kr [4, 5, 6, 7, 8] (by simp; rfl) ?_
        refine tr_seq ?_
        refine kr [4, 5, 6, 7, 8, 36, 37, 38] (by simp; rfl) ?_
        refine tr_wk (wk_ownbox 8 1 50 78 3 (by simp; rfl) (by simp) (by simp)) ?_
        replace h1 := bnd h1; obtain ⟨e2, hI2, h1⟩ := h1
        refine tjv (fun v7 : (List api_Consumer) => ({ nt := 112, env := [(4, .ptr 4 0), (5, .ptr 5 0), (6, .d (.bool y3.2)), (7, .d (.int .i64 s6)), (8, .ptr 8 0)], box := [(4, [.d (.int .i64 y2.1.Slots), .d (.slice (rowsF api_Consumer_row y2.1.Consumers))]), (5, [.d (.int .i64 y3.1.Pool)]), (8, [.d (.int .i64 y2.1.Slots), .vec 50])], vec := [(50, ⟨78, 3, rowsF api_Consumer_row v7⟩)] } : St)) (fun v7 => v7 = e2) (fun v7 hI2e _ W2 => ?_) ?_
        · subst hI2e
          refine tr_wk W2 ?_
          refine tr_seq ?_
          refine kr [4, 5, 6, 7, 8, 56] (by simp; rfl) ?_
          refine tr_cond (b := (((v7).length : Int) == 0)) (by simp) (fun c75 => ?_) (fun c75 => ?_)
          · rw [if_pos c75] at h1
            refine tr_seq ?_
            refine kc ?_
            refine ko [4, 5, 6, 7, 57, 58] 2 (by simp; rfl) ?_
            replace h1 := bnd h1; obtain ⟨y8, hy8, h1⟩ := h1
            refine kcall [4, 5, 6, 7, 59] [] (plan_Fit_ok hy8) rfl rfl rfl Try.call48 (by simp) (by simp; rfl) ?_
            refine tops_nil ?_
            refine tr_cond (b := y8) (by simp) (fun c76 => ?_) (fun c76 => ?_)
            · rw [if_pos c76] at h1
              refine kr [2] (by simp; rfl) ?_
              have k1 := he1 _ (Option.some.inj h1)
              subst k1
              dsimp only at h0
              cases h0
              exact tr_ret ⟨[], by simp, rfl, by simp⟩
            · rw [if_neg (by rw [c76]; decide)] at h1
              refine tr_skip ?_
              refine tr_exit ?_
              refine lr (by simp; rfl) ?_
              exact ⟨_, hg1 _ (Option.some.inj h1), wk (by simp [weak_iff])⟩
          · rw [if_neg (by rw [c75]; decide)] at h1
            refine tr_skip ?_
            refine kc ?_
            refine ko [4, 5, 6, 7, 8, 60, 61] 2 (by simp; rfl) ?_
            replace h1 := bnd h1; obtain ⟨y9, hy9, h1⟩ := h1
            refine kcall [4, 5, 6, 7, 8, 62] [] (plan_Fit_ok hy9) rfl rfl rfl Try.call48 (by simp) (by simp; rfl) ?_
            refine ko [4, 5, 6, 7, 8, 11] 1 (by simp; rfl) ?_
            refine tops_nil ?_
            refine kc ?_
            refine ko [4, 5, 6, 7, 8, 11, 64] 1 (by simp; rfl) ?_
            refine tops_wk (wk_frz 50) ?_
            replace h1 := bnd h1; obtain ⟨y10, hy10, h1⟩ := h1
            refine kcall [4, 5, 6, 7, 8, 11, 65] [] (plan_Why_ok hy10) rfl rfl rfl Try.call47 (by simp) (by simp; rfl) ?_
            refine ko [4, 5, 6, 7, 8, 11, 13] 6 (by simp; rfl) ?_
            refine tops_nil ?_
            replace h1 := bnd h1; obtain ⟨v11, hvv11, h1⟩ := h1
            refine sjv (fun v11_ : Bool => ({ nt := 112, env := [(4, .ptr 4 0), (5, .ptr 5 0), (6, .d (.bool y3.2)), (7, .d (.int .i64 s6)), (110, .d (.bool v11_))], box := [(4, [.d (.int .i64 y2.1.Slots), .d (.slice (rowsF api_Consumer_row y2.1.Consumers))]), (5, [.d (.int .i64 y3.1.Pool)])], vec := [] } : St)) (fun v11_ => v11 = v11_) (fun v11_ e => ?_) ?_
            · subst e
              refine tr_cond (b := v11) (by simp) (fun c123 => ?_) (fun c123 => ?_)
              · rw [if_pos c123] at h1
                refine kr [2] (by simp; rfl) ?_
                have k1 := he1 _ (Option.some.inj h1)
                subst k1
                dsimp only at h0
                cases h0
                exact tr_ret ⟨[], by simp, rfl, by simp⟩
              · rw [if_neg (by rw [c123]; decide)] at h1
                refine tr_skip ?_
                refine lr (by simp; rfl) ?_
                exact ⟨_, hg1 _ (Option.some.inj h1), wk (by simp [weak_iff])⟩
            · refine kc1 ?_
              refine ko [4, 5, 6, 7, 8, 11, 71] 4 (by simp; rfl) ?_
              refine tops_split 71 (y9 == y10.2) (by simp) (fun c124 => ?_) (fun c124 => ?_)
              · rw [if_pos c124] at hvv11
                refine kskip 5 [] (by kernel_rfl) ?_
                refine ko [4, 5, 6, 7, 11, 78] 2 (by simp; rfl) ?_
                refine kskip 11 [] (by kernel_rfl) ?_
                refine ko [4, 5, 6, 7, 11, 91] 2 (by simp; rfl) ?_
                refine kskip 10 [] (by kernel_rfl) ?_
                refine ko [4, 5, 6, 7, 11, 103] 2 (by simp; rfl) ?_
                refine kskip 6 [] (by kernel_rfl) ?_
                refine ko [4, 5, 6, 7, 110] 1 (by simp; rfl) ?_
                refine tops_nil ?_
                cases hvv11
                exact ⟨_, rfl, wk (by simp [weak_iff])⟩
              · rw [if_neg (by rw [c124]; decide)] at hvv11
                refine ko [4, 5, 6, 7, 11, 71, 72, 73, 74] 3 (by simp; rfl) ?_
                replace hvv11 := bnd hvv11; obtain ⟨y12, hy12, hvv11⟩ := hvv11
                refine kcall [4, 5, 6, 7, 11, 71, 72, 73, 74, 75] [] (plan_Fit_ok hy12) rfl rfl rfl Try.call48 (by simp) (by simp; rfl) ?_
                refine ko [4, 5, 6, 7, 11, 72, 73, 74, 75, 76, 78] 3 (by simp; rfl) ?_
                refine tops_split 78 (y9 != y12) (by simp) (fun c125 => ?_) (fun c125 => ?_)
                · rw [if_pos c125] at hvv11
                  refine kskip 11 [] (by kernel_rfl) ?_
                  refine ko [4, 5, 6, 7, 11, 72, 73, 74, 75, 76, 91] 2 (by simp; rfl) ?_
                  refine kskip 10 [] (by kernel_rfl) ?_
                  refine ko [4, 5, 6, 7, 11, 72, 73, 74, 75, 76, 103] 2 (by simp; rfl) ?_
                  refine kskip 6 [] (by kernel_rfl) ?_
                  refine ko [4, 5, 6, 7, 72, 73, 74, 75, 76, 110] 1 (by simp; rfl) ?_
                  refine tops_nil ?_
                  cases hvv11
                  exact ⟨_, rfl, wk (by simp [weak_iff])⟩
                · rw [if_neg (by rw [c125]; decide)] at hvv11
                  refine ko [4, 5, 6, 7, 11, 72, 73, 74, 75, 76, 78, 79, 80] 2 (by simp; rfl) ?_
                  refine tops_split 80 y3.2 (by simp) (fun c126 => ?_) (fun c126 => ?_)
                  · rw [if_pos c126] at hvv11
                    refine ko [4, 5, 6, 7, 11, 72, 73, 74, 75, 76, 78, 79, 80, 81, 82, 83, 84, 85, 86] 6 (by simp; rfl) ?_
                    refine tops_split 86 (decide (s6 < y3.1.Pool)) (by simp) (fun c127 => ?_) (fun c127 => ?_)
                    · rw [if_pos c127] at hvv11
                      refine ko [4, 5, 6, 7, 11, 72, 73, 74, 75, 76, 79, 80, 81, 82, 83, 84, 85, 86, 87, 88, 89, 91] 5 (by simp; rfl) ?_
                      refine tops_split 91 (!y9) (by simp) (fun c128 => ?_) (fun c128 => ?_)
                      · rw [if_pos c128] at hvv11
                        refine kskip 10 [] (by kernel_rfl) ?_
                        refine ko [4, 5, 6, 7, 11, 72, 73, 74, 75, 76, 79, 80, 81, 82, 83, 84, 85, 86, 87, 88, 89, 103] 2 (by simp; rfl) ?_
                        refine kskip 6 [] (by kernel_rfl) ?_
                        refine ko [4, 5, 6, 7, 72, 73, 74, 75, 76, 79, 80, 81, 82, 83, 84, 85, 86, 87, 88, 89, 110] 1 (by simp; rfl) ?_
                        refine tops_nil ?_
                        cases hvv11
                        exact ⟨_, rfl, wk (by simp [weak_iff])⟩
                      · rw [if_neg (by rw [c128]; decide)] at hvv11
                        refine ko [4, 5, 6, 7, 11, 72, 73, 74, 75, 76, 79, 80, 81, 82, 83, 84, 85, 86, 87, 88, 89, 91, 92, 93] 2 (by simp; rfl) ?_
                        refine tops_split 93 y3.2 (by simp) (fun c129 => ?_) (fun c129 => ?_)
                        · rw [if_pos c129] at hvv11
                          refine ko [4, 5, 6, 7, 11, 72, 73, 74, 75, 76, 79, 80, 81, 82, 83, 84, 85, 86, 87, 88, 89, 91, 92, 93, 94, 95, 96, 97, 98, 99] 6 (by simp; rfl) ?_
                          refine tops_split 99 (s6 == y3.1.Pool) (by simp) (fun c130 => ?_) (fun c130 => ?_)
                          · rw [if_pos c130] at hvv11
                            refine ko [4, 5, 6, 7, 11, 72, 73, 74, 75, 76, 79, 80, 81, 82, 83, 84, 85, 86, 87, 88, 89, 92, 93, 94, 95, 96, 97, 98, 99, 100, 101, 103] 4 (by simp; rfl) ?_
                            refine tops_split 103 y9 (by simp) (fun c131 => ?_) (fun c131 => ?_)
                            · rw [if_pos c131] at hvv11
                              refine kskip 6 [] (by kernel_rfl) ?_
                              refine ko [4, 5, 6, 7, 72, 73, 74, 75, 76, 79, 80, 81, 82, 83, 84, 85, 86, 87, 88, 89, 92, 93, 94, 95, 96, 97, 98, 99, 100, 101, 110] 1 (by simp; rfl) ?_
                              refine tops_nil ?_
                              cases hvv11
                              exact ⟨_, rfl, wk (by simp [weak_iff])⟩
                            · rw [if_neg (by rw [c131]; decide)] at hvv11
                              refine ko [4, 5, 6, 7, 11, 72, 73, 74, 75, 76, 79, 80, 81, 82, 83, 84, 85, 86, 87, 88, 89, 92, 93, 94, 95, 96, 97, 98, 99, 100, 101, 103, 104, 105, 106] 3 (by simp; rfl) ?_
                              refine tops_split 106 (!y3.2) (by simp) (fun c132 => ?_) (fun c132 => ?_)
                              · rw [if_pos c132] at hvv11
                                refine ko [4, 5, 6, 7, 72, 73, 74, 75, 76, 79, 80, 81, 82, 83, 84, 85, 86, 87, 88, 89, 92, 93, 94, 95, 96, 97, 98, 99, 100, 101, 104, 105, 106, 107, 108, 109, 110] 4 (by simp; rfl) ?_
                                refine tops_nil ?_
                                cases hvv11
                                exact ⟨_, rfl, wk (by simp [weak_iff])⟩
                              · rw [if_neg (by rw [c132]; decide)] at hvv11
                                refine ko [4, 5, 6, 7, 72, 73, 74, 75, 76, 79, 80, 81, 82, 83, 84, 85, 86, 87, 88, 89, 92, 93, 94, 95, 96, 97, 98, 99, 100, 101, 104, 105, 106, 107, 108, 109, 110] 4 (by simp; rfl) ?_
                                refine tops_nil ?_
                                cases hvv11
                                exact ⟨_, rfl, wk (by simp [weak_iff])⟩
                          · rw [if_neg (by rw [c130]; decide)] at hvv11
                            refine ko [4, 5, 6, 7, 11, 72, 73, 74, 75, 76, 79, 80, 81, 82, 83, 84, 85, 86, 87, 88, 89, 92, 93, 94, 95, 96, 97, 98, 99, 100, 101, 103, 104, 105, 106] 7 (by simp; rfl) ?_
                            refine tops_split 106 (!y3.2) (by simp) (fun c133 => ?_) (fun c133 => ?_)
                            · rw [if_pos c133] at hvv11
                              refine ko [4, 5, 6, 7, 72, 73, 74, 75, 76, 79, 80, 81, 82, 83, 84, 85, 86, 87, 88, 89, 92, 93, 94, 95, 96, 97, 98, 99, 100, 101, 104, 105, 106, 107, 108, 109, 110] 4 (by simp; rfl) ?_
                              refine tops_nil ?_
                              cases hvv11
                              exact ⟨_, rfl, wk (by simp [weak_iff])⟩
                            · rw [if_neg (by rw [c133]; decide)] at hvv11
                              refine ko [4, 5, 6, 7, 72, 73, 74, 75, 76, 79, 80, 81, 82, 83, 84, 85, 86, 87, 88, 89, 92, 93, 94, 95, 96, 97, 98, 99, 100, 101, 104, 105, 106, 107, 108, 109, 110] 4 (by simp; rfl) ?_
                              refine tops_nil ?_
                              cases hvv11
                              exact ⟨_, rfl, wk (by simp [weak_iff])⟩
                        · rw [if_neg (by rw [c129]; decide)] at hvv11
                          refine kskip 4 [] (by kernel_rfl) ?_
                          refine ko [4, 5, 6, 7, 11, 72, 73, 74, 75, 76, 79, 80, 81, 82, 83, 84, 85, 86, 87, 88, 89, 92, 93, 98, 99, 100, 101, 103, 104, 105, 106] 9 (by simp; rfl) ?_
                          refine tops_split 106 (!y3.2) (by simp) (fun c134 => ?_) (fun c134 => ?_)
                          · rw [if_pos c134] at hvv11
                            refine ko [4, 5, 6, 7, 72, 73, 74, 75, 76, 79, 80, 81, 82, 83, 84, 85, 86, 87, 88, 89, 92, 93, 98, 99, 100, 101, 104, 105, 106, 107, 108, 109, 110] 4 (by simp; rfl) ?_
                            refine tops_nil ?_
                            cases hvv11
                            exact ⟨_, rfl, wk (by simp [weak_iff])⟩
                          · rw [if_neg (by rw [c134]; decide)] at hvv11
                            refine ko [4, 5, 6, 7, 72, 73, 74, 75, 76, 79, 80, 81, 82, 83, 84, 85, 86, 87, 88, 89, 92, 93, 98, 99, 100, 101, 104, 105, 106, 107, 108, 109, 110] 4 (by simp; rfl) ?_
                            refine tops_nil ?_
                            cases hvv11
                            exact ⟨_, rfl, wk (by simp [weak_iff])⟩
                    · rw [if_neg (by rw [c127]; decide)] at hvv11
                      refine ko [4, 5, 6, 7, 11, 72, 73, 74, 75, 76, 79, 80, 81, 82, 83, 84, 85, 86, 87, 88, 89, 91, 92, 93] 7 (by simp; rfl) ?_
                      refine tops_split 93 y3.2 (by simp) (fun c135 => ?_) (fun c135 => ?_)
                      · rw [if_pos c135] at hvv11
                        refine ko [4, 5, 6, 7, 11, 72, 73, 74, 75, 76, 79, 80, 81, 82, 83, 84, 85, 86, 87, 88, 89, 91, 92, 93, 94, 95, 96, 97, 98, 99] 6 (by simp; rfl) ?_
                        refine tops_split 99 (s6 == y3.1.Pool) (by simp) (fun c136 => ?_) (fun c136 => ?_)
                        · rw [if_pos c136] at hvv11
                          refine ko [4, 5, 6, 7, 11, 72, 73, 74, 75, 76, 79, 80, 81, 82, 83, 84, 85, 86, 87, 88, 89, 92, 93, 94, 95, 96, 97, 98, 99, 100, 101, 103] 4 (by simp; rfl) ?_
                          refine tops_split 103 y9 (by simp) (fun c137 => ?_) (fun c137 => ?_)
                          · rw [if_pos c137] at hvv11
                            refine kskip 6 [] (by kernel_rfl) ?_
                            refine ko [4, 5, 6, 7, 72, 73, 74, 75, 76, 79, 80, 81, 82, 83, 84, 85, 86, 87, 88, 89, 92, 93, 94, 95, 96, 97, 98, 99, 100, 101, 110] 1 (by simp; rfl) ?_
                            refine tops_nil ?_
                            cases hvv11
                            exact ⟨_, rfl, wk (by simp [weak_iff])⟩
                          · rw [if_neg (by rw [c137]; decide)] at hvv11
                            refine ko [4, 5, 6, 7, 11, 72, 73, 74, 75, 76, 79, 80, 81, 82, 83, 84, 85, 86, 87, 88, 89, 92, 93, 94, 95, 96, 97, 98, 99, 100, 101, 103, 104, 105, 106] 3 (by simp; rfl) ?_
                            refine tops_split 106 (!y3.2) (by simp) (fun c138 => ?_) (fun c138 => ?_)
                            · rw [if_pos c138] at hvv11
                              refine ko [4, 5, 6, 7, 72, 73, 74, 75, 76, 79, 80, 81, 82, 83, 84, 85, 86, 87, 88, 89, 92, 93, 94, 95, 96, 97, 98, 99, 100, 101, 104, 105, 106, 107, 108, 109, 110] 4 (by simp; rfl) ?_
                              refine tops_nil ?_
                              cases hvv11
                              exact ⟨_, rfl, wk (by simp [weak_iff])⟩
                            · rw [if_neg (by rw [c138]; decide)] at hvv11
                              refine ko [4, 5, 6, 7, 72, 73, 74, 75, 76, 79, 80, 81, 82, 83, 84, 85, 86, 87, 88, 89, 92, 93, 94, 95, 96, 97, 98, 99, 100, 101, 104, 105, 106, 107, 108, 109, 110] 4 (by simp; rfl) ?_
                              refine tops_nil ?_
                              cases hvv11
                              exact ⟨_, rfl, wk (by simp [weak_iff])⟩
                        · rw [if_neg (by rw [c136]; decide)] at hvv11
                          refine ko [4, 5, 6, 7, 11, 72, 73, 74, 75, 76, 79, 80, 81, 82, 83, 84, 85, 86, 87, 88, 89, 92, 93, 94, 95, 96, 97, 98, 99, 100, 101, 103, 104, 105, 106] 7 (by simp; rfl) ?_
                          refine tops_split 106 (!y3.2) (by simp) (fun c139 => ?_) (fun c139 => ?_)
                          · rw [if_pos c139] at hvv11
                            refine ko [4, 5, 6, 7, 72, 73, 74, 75, 76, 79, 80, 81, 82, 83, 84, 85, 86, 87, 88, 89, 92, 93, 94, 95, 96, 97, 98, 99, 100, 101, 104, 105, 106, 107, 108, 109, 110] 4 (by simp; rfl) ?_
                            refine tops_nil ?_
                            cases hvv11
                            exact ⟨_, rfl, wk (by simp [weak_iff])⟩
                          · rw [if_neg (by rw [c139]; decide)] at hvv11
                            refine ko [4, 5, 6, 7, 72, 73, 74, 75, 76, 79, 80, 81, 82, 83, 84, 85, 86, 87, 88, 89, 92, 93, 94, 95, 96, 97, 98, 99, 100, 101, 104, 105, 106, 107, 108, 109, 110] 4 (by simp; rfl) ?_
                            refine tops_nil ?_
                            cases hvv11
                            exact ⟨_, rfl, wk (by simp [weak_iff])⟩
                      · rw [if_neg (by rw [c135]; decide)] at hvv11
                        refine kskip 4 [] (by kernel_rfl) ?_
                        refine ko [4, 5, 6, 7, 11, 72, 73, 74, 75, 76, 79, 80, 81, 82, 83, 84, 85, 86, 87, 88, 89, 92, 93, 98, 99, 100, 101, 103, 104, 105, 106] 9 (by simp; rfl) ?_
                        refine tops_split 106 (!y3.2) (by simp) (fun c140 => ?_) (fun c140 => ?_)
                        · rw [if_pos c140] at hvv11
                          refine ko [4, 5, 6, 7, 72, 73, 74, 75, 76, 79, 80, 81, 82, 83, 84, 85, 86, 87, 88, 89, 92, 93, 98, 99, 100, 101, 104, 105, 106, 107, 108, 109, 110] 4 (by simp; rfl) ?_
                          refine tops_nil ?_
                          cases hvv11
                          exact ⟨_, rfl, wk (by simp [weak_iff])⟩
                        · rw [if_neg (by rw [c140]; decide)] at hvv11
                          refine ko [4, 5, 6, 7, 72, 73, 74, 75, 76, 79, 80, 81, 82, 83, 84, 85, 86, 87, 88, 89, 92, 93, 98, 99, 100, 101, 104, 105, 106, 107, 108, 109, 110] 4 (by simp; rfl) ?_
                          refine tops_nil ?_
                          cases hvv11
                          exact ⟨_, rfl, wk (by simp [weak_iff])⟩
                  · rw [if_neg (by rw [c126]; decide)] at hvv11
                    refine kskip 4 [] (by kernel_rfl) ?_
                    refine ko [4, 5, 6, 7, 11, 72, 73, 74, 75, 76, 79, 80, 85, 86, 87, 88, 89, 91, 92, 93] 9 (by simp; rfl) ?_
                    refine tops_split 93 y3.2 (by simp) (fun c141 => ?_) (fun c141 => ?_)
                    · rw [if_pos c141] at hvv11
                      refine ko [4, 5, 6, 7, 11, 72, 73, 74, 75, 76, 79, 80, 85, 86, 87, 88, 89, 91, 92, 93, 94, 95, 96, 97, 98, 99] 6 (by simp; rfl) ?_
                      refine tops_split 99 (s6 == y3.1.Pool) (by simp) (fun c142 => ?_) (fun c142 => ?_)
                      · rw [if_pos c142] at hvv11
                        refine ko [4, 5, 6, 7, 11, 72, 73, 74, 75, 76, 79, 80, 85, 86, 87, 88, 89, 92, 93, 94, 95, 96, 97, 98, 99, 100, 101, 103] 4 (by simp; rfl) ?_
                        refine tops_split 103 y9 (by simp) (fun c143 => ?_) (fun c143 => ?_)
                        · rw [if_pos c143] at hvv11
                          refine kskip 6 [] (by kernel_rfl) ?_
                          refine ko [4, 5, 6, 7, 72, 73, 74, 75, 76, 79, 80, 85, 86, 87, 88, 89, 92, 93, 94, 95, 96, 97, 98, 99, 100, 101, 110] 1 (by simp; rfl) ?_
                          refine tops_nil ?_
                          cases hvv11
                          exact ⟨_, rfl, wk (by simp [weak_iff])⟩
                        · rw [if_neg (by rw [c143]; decide)] at hvv11
                          refine ko [4, 5, 6, 7, 11, 72, 73, 74, 75, 76, 79, 80, 85, 86, 87, 88, 89, 92, 93, 94, 95, 96, 97, 98, 99, 100, 101, 103, 104, 105, 106] 3 (by simp; rfl) ?_
                          refine tops_split 106 (!y3.2) (by simp) (fun c144 => ?_) (fun c144 => ?_)
                          · rw [if_pos c144] at hvv11
                            refine ko [4, 5, 6, 7, 72, 73, 74, 75, 76, 79, 80, 85, 86, 87, 88, 89, 92, 93, 94, 95, 96, 97, 98, 99, 100, 101, 104, 105, 106, 107, 108, 109, 110] 4 (by simp; rfl) ?_
                            refine tops_nil ?_
                            cases hvv11
                            exact ⟨_, rfl, wk (by simp [weak_iff])⟩
                          · rw [if_neg (by rw [c144]; decide)] at hvv11
                            refine ko [4, 5, 6, 7, 72, 73, 74, 75, 76, 79, 80, 85, 86, 87, 88, 89, 92, 93, 94, 95, 96, 97, 98, 99, 100, 101, 104, 105, 106, 107, 108, 109, 110] 4 (by simp; rfl) ?_
                            refine tops_nil ?_
                            cases hvv11
                            exact ⟨_, rfl, wk (by simp [weak_iff])⟩
                      · rw [if_neg (by rw [c142]; decide)] at hvv11
                        refine ko [4, 5, 6, 7, 11, 72, 73, 74, 75, 76, 79, 80, 85, 86, 87, 88, 89, 92, 93, 94, 95, 96, 97, 98, 99, 100, 101, 103, 104, 105, 106] 7 (by simp; rfl) ?_
                        refine tops_split 106 (!y3.2) (by simp) (fun c145 => ?_) (fun c145 => ?_)
                        · rw [if_pos c145] at hvv11
                          refine ko [4, 5, 6, 7, 72, 73, 74, 75, 76, 79, 80, 85, 86, 87, 88, 89, 92, 93, 94, 95, 96, 97, 98, 99, 100, 101, 104, 105, 106, 107, 108, 109, 110] 4 (by simp; rfl) ?_
                          refine tops_nil ?_
                          cases hvv11
                          exact ⟨_, rfl, wk (by simp [weak_iff])⟩
                        · rw [if_neg (by rw [c145]; decide)] at hvv11
                          refine ko [4, 5, 6, 7, 72, 73, 74, 75, 76, 79, 80, 85, 86, 87, 88, 89, 92, 93, 94, 95, 96, 97, 98, 99, 100, 101, 104, 105, 106, 107, 108, 109, 110] 4 (by simp; rfl) ?_
                          refine tops_nil ?_
                          cases hvv11
                          exact ⟨_, rfl, wk (by simp [weak_iff])⟩
                    · rw [if_neg (by rw [c141]; decide)] at hvv11
                      refine kskip 4 [] (by kernel_rfl) ?_
                      refine ko [4, 5, 6, 7, 11, 72, 73, 74, 75, 76, 79, 80, 85, 86, 87, 88, 89, 92, 93, 98, 99, 100, 101, 103, 104, 105, 106] 9 (by simp; rfl) ?_
                      refine tops_split 106 (!y3.2) (by simp) (fun c146 => ?_) (fun c146 => ?_)
                      · rw [if_pos c146] at hvv11
                        refine ko [4, 5, 6, 7, 72, 73, 74, 75, 76, 79, 80, 85, 86, 87, 88, 89, 92, 93, 98, 99, 100, 101, 104, 105, 106, 107, 108, 109, 110] 4 (by simp; rfl) ?_
                        refine tops_nil ?_
                        cases hvv11
                        exact ⟨_, rfl, wk (by simp [weak_iff])⟩
                      · rw [if_neg (by rw [c146]; decide)] at hvv11
                        refine ko [4, 5, 6, 7, 72, 73, 74, 75, 76, 79, 80, 85, 86, 87, 88, 89, 92, 93, 98, 99, 100, 101, 104, 105, 106, 107, 108, 109, 110] 4 (by simp; rfl) ?_
                        refine tops_nil ?_
                        cases hvv11
                        exact ⟨_, rfl, wk (by simp [weak_iff])⟩
        · refine tr_block (tr_iter (fun s13 : Int × (List api_Consumer) => ({ nt := 112, env := [(4, .ptr 4 0), (5, .ptr 5 0), (6, .d (.bool y3.2)), (7, .d (.int .i64 s6)), (8, .ptr 8 0), (36, .d (.slice (rowsF api_Consumer_row y2.1.Consumers))), (37, .d (.int .i64 ((y2.1.Consumers).length : Int))), (38, .d (.int .i64 s13.1))], box := [(4, [.d (.int .i64 y2.1.Slots), .d (.slice (rowsF api_Consumer_row y2.1.Consumers))]), (5, [.d (.int .i64 y3.1.Pool)]), (8, [.d (.int .i64 y2.1.Slots), .vec 50])], vec := [(50, ⟨78, 3, rowsF api_Consumer_row s13.2⟩)] } : St)) hI2 (wk (by simp [weak_iff])) fun G2 s13 o2 h2 hg2 he2 => ?_)
          unfold law35_PlanPools_l1 at h2
          refine kr [4, 5, 6, 7, 8, 36, 37, 38, 39] (by simp; rfl) ?_
          refine tr_seq ?_
          refine tr_cond (b := (decide (s13.1 < ((y2.1.Consumers).length : Int)))) (by simp) (fun c147 => ?_) (fun c147 => ?_)
          · rw [if_pos c147] at h2
            refine tr_skip ?_
            refine tr_seq ?_
            refine tr_block ?_
            replace h2 := bnd h2; obtain ⟨x14, p16, h2⟩ := h2
            replace p16 := idx_some p16
            have p16' := p16; try simp at p16'
            refine kr [4, 5, 6, 7, 8, 10, 36, 37, 38] (by simp [p16, p16']; rfl) ?_
            refine kr [4, 5, 6, 7, 8, 10, 36, 37, 38, 45] (by simp; rfl) ?_
            refine tr_cond (b := (x14.Pool == s6)) (by simp) (fun c148 => ?_) (fun c148 => ?_)
            · rw [if_pos c148] at h2
              replace h2 := bnd h2; obtain ⟨_, p17, h2⟩ := h2
              replace p17 := ck_some p17
              have p17' := p17; try simp at p17'
              refine lr (by simp [p17, p17']; rfl) ?_
              refine lr (by simp; rfl) ?_
              exact ⟨_, hg2 _ (Option.some.inj h2), wk (by simp [weak_iff])⟩
            · rw [if_neg (by rw [c148]; decide)] at h2
              refine tr_skip ?_
              refine lr (by simp; rfl) ?_
              exact ⟨_, hg2 _ (Option.some.inj h2), wk (by simp [weak_iff])⟩
          · rw [if_neg (by rw [c147]; decide)] at h2
            refine tr_exit ?_
            exact ⟨_, he2 _ (Option.some.inj h2), wk (by simp [weak_iff])⟩
      · rw [if_neg (by rw [c68]; decide)] at h1
        refine tr_exit ?_
        exact ⟨_, he1 _ (Option.some.inj h1), wk (by simp [weak_iff])⟩
end Go.Vl
