/- Walks: each function of the given program computes what its mirror says. Conditions: none. -/
import Derived.Test.YtclmnpkhopioiabSw3
set_option linter.unusedSimpArgs false
set_option linter.unusedVariables false
namespace Go.Vl
open Go Go.Proofs
set_option maxHeartbeats 1000000 in
theorem law39_FallbackGoes_ok {a0 : List Int} {r : Bool} (h0 : law39_FallbackGoes a0 = some r) : FnOK Try.prog 8 [] [.d (.slice (rowsF (iRow .i64) a0))] (.d (.bool r)) [] := by
  unfold law39_FallbackGoes at h0
  refine fn_ok (nt := 90) (rs := [.tmp 2]) Try.func8 rfl Try.ntmps8 rfl (by simp) (by decide) rfl fun K => ?_
  refine kr [0] (by simp; rfl) ?_
  refine tr_seq ?_
  refine kr [0, 15] (by simp; rfl) ?_
  refine tr_cond (b := (decide (300 < ((a0).length : Int)))) (by simp) (fun c1 => ?_) (fun c1 => ?_)
  · rw [if_pos c1] at h0
    refine kc ?_
    replace h0 := bnd h0; obtain ⟨y1, hy1, h0⟩ := h0
    refine kcall [16] [] (law39_awake_ok hy1) rfl rfl rfl Try.call34 (by simp) (by simp; rfl) ?_
    refine ko [2] 1 (by simp; rfl) ?_
    refine tops_nil ?_
    cases h0
    exact tr_ret ⟨[], by simp, rfl, by simp⟩
  · rw [if_neg (by rw [c1]; decide)] at h0
    refine tr_skip ?_
    refine kr [3] (by simp; rfl) ?_
    refine kc ?_
    refine ko [3, 20] 1 (by simp; rfl) ?_
    replace h0 := bnd h0; obtain ⟨y2, hy2, h0⟩ := h0
    refine kcall [3, 21] [19] (make_FitFleet_ok hy2) rfl rfl rfl Try.call23 (by simp) (by simp; rfl) ?_
    refine ko [3, 4] 2 (by simp; rfl) ?_
    refine tops_nil ?_
    refine kc ?_
    refine ko [4, 22, 23] 2 (by simp; rfl) ?_
    replace h0 := bnd h0; obtain ⟨y3, hy3, h0⟩ := h0
    refine kcall [4, 24] [19] (make_Held_ok hy3) rfl rfl rfl Try.call24 (by simp) (by simp; rfl) ?_
    refine ko [4, 5] 2 (by simp; rfl) ?_
    refine tops_nil ?_
    refine kc ?_
    refine ko [4, 5, 26, 27] 2 (by simp; rfl) ?_
    replace h0 := bnd h0; obtain ⟨y4, hy4, h0⟩ := h0
    refine kcall [4, 5, 28] [] (fallback_Make_ok hy4) rfl rfl rfl Try.call35 (by simp) (by simp; rfl) ?_
    refine ko [4, 5, 6, 7] 5 (by simp; rfl) ?_
    refine tops_nil ?_
    refine kc ?_
    refine ko [4, 5, 6, 7, 32, 33, 34] 3 (by simp; rfl) ?_
    replace h0 := bnd h0; obtain ⟨y5, hy5, h0⟩ := h0
    refine kcall [4, 5, 6, 7, 35] [] (ref33_Run_ok hy5) rfl rfl rfl Try.call43 (by simp) (by simp; rfl) ?_
    refine ko [4, 5, 6, 7, 8, 9] 5 (by simp; rfl) ?_
    refine tops_nil ?_
    refine tr_seq ?_
    replace h0 := bnd h0; obtain ⟨v6, hvv6, h0⟩ := h0
    refine sjv (fun v6_ : Bool => ({ nt := 90, env := [(4, .ptr 4 0), (5, .ptr 5 0), (8, .d (.slice (rowsF api_Rotation_row y5.1))), (56, .d (.bool v6_))], box := [(4, [.d (.int .i64 y2.1.Slots), .d (.slice (rowsF api_Consumer_row y2.1.Consumers))]), (5, [.d (.int .i64 y3.1.Known), .d (.int .i64 y3.1.Valid), .d (.slice (rowsF api_Unit_row y3.1.Units))])], vec := [] } : St)) (fun v6_ => v6 = v6_) (fun v6_ e => ?_) ?_
    · subst e
      refine tr_cond (b := v6) (by simp) (fun c8 => ?_) (fun c8 => ?_)
      · rw [if_pos c8] at h0
        refine kr [2] (by simp; rfl) ?_
        cases h0
        exact tr_ret ⟨[], by simp, rfl, by simp⟩
      · rw [if_neg (by rw [c8]; decide)] at h0
        refine tr_skip ?_
        refine kr [4, 5, 8, 10] (by simp; rfl) ?_
        refine tr_seq ?_
        refine kr [4, 5, 10, 58, 59, 60] (by simp; rfl) ?_
        replace h0 := bnd h0; obtain ⟨e1, hI1, h0⟩ := h0
        refine tjv (fun v7 : Int × Int × (List api_Unit) => ({ nt := 90, env := [(4, .ptr 4 0), (10, .ptr 10 0)], box := [(4, [.d (.int .i64 y2.1.Slots), .d (.slice (rowsF api_Consumer_row y2.1.Consumers))]), (10, [.d (.int .i64 v7.1), .d (.int .i64 v7.2.1), .d (.slice (rowsF api_Unit_row v7.2.2))])], vec := [] } : St)) (fun v7 => .inl v7 = e1) (fun v7 hI1e _ W1 => ?_) ?_
        · subst hI1e
          dsimp only at h0
          refine tr_wk W1 ?_
          replace h0 := bnd h0; obtain ⟨v8, hvv8, h0⟩ := h0
          refine sjv (fun v8_ : Bool => ({ nt := 90, env := [(2, .d (.bool v8_))], box := [], vec := [] } : St)) (fun v8_ => v8 = v8_) (fun v8_ e => ?_) ?_
          · subst e
            cases h0
            exact tr_ret ⟨[], by simp, rfl, by simp⟩
          · refine kc1 ?_
            refine ko [84, 85] 2 (by simp; rfl) ?_
            replace hvv8 := bnd hvv8; obtain ⟨y9, hy9, hvv8⟩ := hvv8
            refine kcall [86] [] (ref32_Ended_ok hy9) rfl rfl rfl Try.call27 (by simp) (by simp; rfl) ?_
            refine ko [87] 1 (by simp; rfl) ?_
            refine tops_split 87 y9 (by simp) (fun c19 => ?_) (fun c19 => ?_)
            · rw [if_pos c19] at hvv8
              replace hvv8 := bnd hvv8; obtain ⟨y10, hy10, hvv8⟩ := hvv8
              refine kcall [87, 88] [] (law39_awake_ok hy10) rfl rfl rfl Try.call34 (by simp) (by simp; rfl) ?_
              refine ko [2] 2 (by simp; rfl) ?_
              refine tops_nil ?_
              cases hvv8
              exact ⟨_, rfl, wk (by simp [weak_iff])⟩
            · rw [if_neg (by rw [c19]; decide)] at hvv8
              refine ko [2] 3 (by simp; rfl) ?_
              refine tops_nil ?_
              cases hvv8
              exact ⟨_, rfl, wk (by simp [weak_iff])⟩
        · refine tr_block (tr_iter (fun s11 : Int × Int × Int × (List api_Unit) => ({ nt := 90, env := [(4, .ptr 4 0), (5, .ptr 5 0), (10, .ptr 10 0), (58, .d (.slice (rowsF api_Rotation_row y5.1))), (59, .d (.int .i64 ((y5.1).length : Int))), (60, .d (.int .i64 s11.1))], box := [(4, [.d (.int .i64 y2.1.Slots), .d (.slice (rowsF api_Consumer_row y2.1.Consumers))]), (5, [.d (.int .i64 y3.1.Known), .d (.int .i64 y3.1.Valid), .d (.slice (rowsF api_Unit_row y3.1.Units))]), (10, [.d (.int .i64 s11.2.1), .d (.int .i64 s11.2.2.1), .d (.slice (rowsF api_Unit_row s11.2.2.2))])], vec := [] } : St)) hI1 (wk (by simp [weak_iff])) fun G1 s11 o1 h1 hg1 he1 => ?_)
          unfold law39_FallbackGoes_l0 at h1
          refine kr [4, 5, 10, 58, 59, 60, 61] (by simp; rfl) ?_
          refine tr_seq ?_
          refine tr_cond (b := (decide (s11.1 < ((y5.1).length : Int)))) (by simp) (fun c20 => ?_) (fun c20 => ?_)
          · rw [if_pos c20] at h1
            refine tr_skip ?_
            refine tr_seq ?_
            refine tr_block ?_
            replace h1 := bnd h1; obtain ⟨x12, p3, h1⟩ := h1
            replace p3 := idx_some p3
            have p3' := p3; try simp at p3'
            refine kr [4, 5, 10, 12, 58, 59, 60] (by simp [p3, p3']; rfl) ?_
            refine tr_seq ?_
            replace h1 := bnd h1; obtain ⟨v13, hvv13, h1⟩ := h1
            refine sjv (fun v13_ : Bool => ({ nt := 90, env := [(4, .ptr 4 0), (5, .ptr 5 0), (10, .ptr 10 0), (12, .ptr 12 0), (58, .d (.slice (rowsF api_Rotation_row y5.1))), (59, .d (.int .i64 ((y5.1).length : Int))), (60, .d (.int .i64 s11.1)), (81, .d (.bool v13_))], box := [(4, [.d (.int .i64 y2.1.Slots), .d (.slice (rowsF api_Consumer_row y2.1.Consumers))]), (5, [.d (.int .i64 y3.1.Known), .d (.int .i64 y3.1.Valid), .d (.slice (rowsF api_Unit_row y3.1.Units))]), (10, [.d (.int .i64 s11.2.1), .d (.int .i64 s11.2.2.1), .d (.slice (rowsF api_Unit_row s11.2.2.2))]), (12, [.d (.int .i64 x12.Known), .d (.int .i64 x12.Valid), .d (.slice (rowsF api_Unit_row x12.Units))])], vec := [] } : St)) (fun v13_ => v13 = v13_) (fun v13_ e => ?_) ?_
            · subst e
              refine tr_cond (b := v13) (by simp) (fun c25 => ?_) (fun c25 => ?_)
              · rw [if_pos c25] at h1
                refine kr [2] (by simp; rfl) ?_
                have k1 := he1 _ (Option.some.inj h1)
                subst k1
                dsimp only at h0
                cases h0
                exact tr_ret ⟨[], by simp, rfl, by simp⟩
              · rw [if_neg (by rw [c25]; decide)] at h1
                refine tr_skip ?_
                refine lr (by simp; rfl) ?_
                refine lr (by simp; rfl) ?_
                exact ⟨_, hg1 _ (Option.some.inj h1), wk (by simp [weak_iff])⟩
            · refine kc1 ?_
              refine ko [4, 5, 10, 12, 58, 59, 60, 64, 65, 66] 3 (by simp; rfl) ?_
              replace hvv13 := bnd hvv13; obtain ⟨y14, hy14, hvv13⟩ := hvv13
              refine kcall [4, 5, 10, 12, 58, 59, 60, 67] [] (fallback_Forward_ok hy14) rfl rfl rfl Try.call41 (by simp) (by simp; rfl) ?_
              refine ko [4, 5, 10, 12, 58, 59, 60, 69] 2 (by simp; rfl) ?_
              refine tops_split 69 (!y14) (by simp) (fun c26 => ?_) (fun c26 => ?_)
              · rw [if_pos c26] at hvv13
                refine kskip 5 [] (by kernel_rfl) ?_
                refine ko [4, 5, 10, 12, 58, 59, 60, 76] 2 (by simp; rfl) ?_
                refine kskip 4 [] (by kernel_rfl) ?_
                refine ko [4, 5, 10, 12, 58, 59, 60, 81] 1 (by simp; rfl) ?_
                refine tops_nil ?_
                cases hvv13
                exact ⟨_, rfl, wk (by simp [weak_iff])⟩
              · rw [if_neg (by rw [c26]; decide)] at hvv13
                refine ko [4, 5, 10, 12, 58, 59, 60, 69, 70, 71, 72] 3 (by simp; rfl) ?_
                replace hvv13 := bnd hvv13; obtain ⟨y15, hy15, hvv13⟩ := hvv13
                refine kcall [4, 5, 10, 12, 58, 59, 60, 69, 70, 71, 72, 73] [] (fallback_Forward_ok hy15) rfl rfl rfl Try.call41 (by simp) (by simp; rfl) ?_
                refine ko [4, 5, 10, 12, 58, 59, 60, 70, 71, 72, 73, 74, 76] 3 (by simp; rfl) ?_
                refine tops_split 76 (!y15) (by simp) (fun c27 => ?_) (fun c27 => ?_)
                · rw [if_pos c27] at hvv13
                  refine kskip 4 [] (by kernel_rfl) ?_
                  refine ko [4, 5, 10, 12, 58, 59, 60, 70, 71, 72, 73, 74, 81] 1 (by simp; rfl) ?_
                  refine tops_nil ?_
                  cases hvv13
                  exact ⟨_, rfl, wk (by simp [weak_iff])⟩
                · rw [if_neg (by rw [c27]; decide)] at hvv13
                  refine ko [4, 5, 10, 12, 58, 59, 60, 70, 71, 72, 73, 74, 76, 77, 78] 2 (by simp; rfl) ?_
                  replace hvv13 := bnd hvv13; obtain ⟨y16, hy16, hvv13⟩ := hvv13
                  refine kcall [4, 5, 10, 12, 58, 59, 60, 70, 71, 72, 73, 74, 76, 77, 78, 79] [] (fallback_Hold_ok hy16) rfl rfl rfl Try.call39 (by simp) (by simp; rfl) ?_
                  refine ko [4, 5, 10, 12, 58, 59, 60, 70, 71, 72, 73, 74, 77, 78, 79, 80, 81] 2 (by simp; rfl) ?_
                  refine tops_nil ?_
                  cases hvv13
                  exact ⟨_, rfl, wk (by simp [weak_iff])⟩
          · rw [if_neg (by rw [c20]; decide)] at h1
            refine tr_exit ?_
            exact ⟨_, he1 _ (Option.some.inj h1), wk (by simp [weak_iff])⟩
    · refine kc1 ?_
      refine ko [4, 5, 6, 8, 9, 40] 3 (by simp; rfl) ?_
      refine tops_split 40 (y4.2 != 0) (by simp) (fun c28 => ?_) (fun c28 => ?_)
      · rw [if_pos c28] at hvv6
        refine ko [4, 5, 6, 8, 44] 4 (by simp; rfl) ?_
        refine kskip 5 [] (by kernel_rfl) ?_
        refine ko [4, 5, 8, 51] 2 (by simp; rfl) ?_
        refine kskip 4 [] (by kernel_rfl) ?_
        refine ko [4, 5, 8, 56] 1 (by simp; rfl) ?_
        refine tops_nil ?_
        cases hvv6
        exact ⟨_, rfl, wk (by simp [weak_iff])⟩
      · rw [if_neg (by rw [c28]; decide)] at hvv6
        refine ko [4, 5, 6, 8, 44] 4 (by simp; rfl) ?_
        refine tops_split 44 (y5.2 != 0) (by simp) (fun c29 => ?_) (fun c29 => ?_)
        · rw [if_pos c29] at hvv6
          refine kskip 5 [] (by kernel_rfl) ?_
          refine ko [4, 5, 8, 51] 2 (by simp; rfl) ?_
          refine kskip 4 [] (by kernel_rfl) ?_
          refine ko [4, 5, 8, 56] 1 (by simp; rfl) ?_
          refine tops_nil ?_
          cases hvv6
          exact ⟨_, rfl, wk (by simp [weak_iff])⟩
        · rw [if_neg (by rw [c29]; decide)] at hvv6
          refine ko [4, 5, 8, 44, 45, 46, 47] 3 (by simp; rfl) ?_
          replace hvv6 := bnd hvv6; obtain ⟨y19, hy19, hvv6⟩ := hvv6
          refine kcall [4, 5, 8, 44, 48] [] (ref35_Check_ok hy19) rfl rfl rfl Try.call37 (by simp) (by simp; rfl) ?_
          refine ko [4, 5, 8, 51] 3 (by simp; rfl) ?_
          refine tops_split 51 (!y19) (by simp) (fun c30 => ?_) (fun c30 => ?_)
          · rw [if_pos c30] at hvv6
            refine kskip 4 [] (by kernel_rfl) ?_
            refine ko [4, 5, 8, 56] 1 (by simp; rfl) ?_
            refine tops_nil ?_
            cases hvv6
            exact ⟨_, rfl, wk (by simp [weak_iff])⟩
          · rw [if_neg (by rw [c30]; decide)] at hvv6
            refine ko [4, 5, 8, 51, 52, 53] 2 (by simp; rfl) ?_
            replace hvv6 := bnd hvv6; obtain ⟨y20, hy20, hvv6⟩ := hvv6
            refine kcall [4, 5, 8, 51, 54] [] (fallback_Hold_ok hy20) rfl rfl rfl Try.call39 (by simp) (by simp; rfl) ?_
            refine ko [4, 5, 8, 56] 2 (by simp; rfl) ?_
            refine tops_nil ?_
            cases hvv6
            exact ⟨_, rfl, wk (by simp [weak_iff])⟩
end Go.Vl
