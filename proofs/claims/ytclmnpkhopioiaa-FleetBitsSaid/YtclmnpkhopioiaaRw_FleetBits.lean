/- Walks: each function of the given program computes what its mirror says. Conditions: none. -/
import Derived.Test.YtclmnpkhopioiaaRw1
set_option linter.unusedSimpArgs false
set_option linter.unusedVariables false
namespace Go.Vl
open Go Go.Proofs
set_option maxHeartbeats 1000000 in
theorem ref32_Copy_ok {a0 : api_Rotation} {r : api_Rotation} (h0 : ref32_Copy a0 = some r) : FnOK Try.prog 20 [] [.agg (api_Rotation_av a0)] (.agg (api_Rotation_av r)) [] := by
  unfold ref32_Copy at h0
  refine fn_ok (nt := 8) (rs := [.cell 2 33]) Try.func20 rfl Try.ntmps20 rfl (by simp) (by decide) rfl fun K => ?_
  refine kr [1, 2] (by simp; rfl) ?_
  replace h0 := bnd h0; obtain ⟨_, p1, h0⟩ := h0
  replace p1 := ck_some p1
  have p1' := p1; try simp at p1'
  refine kr [1, 2] (by simp [p1, p1']; rfl) ?_
  refine kr [2] (by simp; rfl) ?_
  cases h0
  exact tr_ret ⟨[5], by simp, rfl, by simp⟩
set_option maxHeartbeats 1000000 in
theorem law32_FleetBits_ok {a0 : List Int} {r : Bool} (h0 : law32_FleetBits a0 = some r) : FnOK Try.prog 3 [] [.d (.slice (rowsF (iRow .i64) a0))] (.d (.bool r)) [] := by
  unfold law32_FleetBits at h0
  refine fn_ok (nt := 70) (rs := [.tmp 2]) Try.func3 rfl Try.ntmps3 rfl (by simp) (by decide) rfl fun K => ?_
  refine kr [0] (by simp; rfl) ?_
  refine tr_seq ?_
  refine kr [0, 12] (by simp; rfl) ?_
  refine tr_cond (b := (decide (300 < ((a0).length : Int)))) (by simp) (fun c1 => ?_) (fun c1 => ?_)
  · rw [if_pos c1] at h0
    refine kc ?_
    replace h0 := bnd h0; obtain ⟨y1, hy1, h0⟩ := h0
    refine kcall [13] [] (law32_awake_ok hy1) rfl rfl rfl Try.call17 (by simp) (by simp; rfl) ?_
    refine ko [2] 1 (by simp; rfl) ?_
    refine tops_nil ?_
    cases h0
    exact tr_ret ⟨[], by simp, rfl, by simp⟩
  · rw [if_neg (by rw [c1]; decide)] at h0
    refine tr_skip ?_
    refine kr [3] (by simp; rfl) ?_
    refine kc ?_
    refine ko [3, 17] 1 (by simp; rfl) ?_
    replace h0 := bnd h0; obtain ⟨y2, hy2, h0⟩ := h0
    refine kcall [3, 18] [16] (make_Fleet_ok hy2) rfl rfl rfl Try.call18 (by simp) (by simp; rfl) ?_
    refine ko [3, 4] 2 (by simp; rfl) ?_
    refine tops_nil ?_
    refine kc ?_
    refine ko [4, 19, 20] 2 (by simp; rfl) ?_
    replace h0 := bnd h0; obtain ⟨y3, hy3, h0⟩ := h0
    refine kcall [4, 21] [16] (make_State_ok hy3) rfl rfl rfl Try.call19 (by simp) (by simp; rfl) ?_
    refine ko [4, 5] 2 (by simp; rfl) ?_
    refine tops_nil ?_
    refine tr_seq ?_
    refine kr [4, 5, 6] (by simp; rfl) ?_
    replace h0 := bnd h0; obtain ⟨e1, hI1, h0⟩ := h0
    refine tjv (fun v4 : Unit => ({ nt := 70, env := [], box := [], vec := [] } : St)) (fun v4 => .inl v4 = e1) (fun v4 hI1e _ W1 => ?_) ?_
    · subst hI1e
      dsimp only at h0
      refine tr_wk W1 ?_
      refine kc ?_
      replace h0 := bnd h0; obtain ⟨y5, hy5, h0⟩ := h0
      refine kcall [69] [] (law32_awake_ok hy5) rfl rfl rfl Try.call17 (by simp) (by simp; rfl) ?_
      refine ko [2] 1 (by simp; rfl) ?_
      refine tops_nil ?_
      cases h0
      exact tr_ret ⟨[], by simp, rfl, by simp⟩
    · refine tr_block (tr_iter (fun s6 : Int => ({ nt := 70, env := [(4, .ptr 4 0), (5, .ptr 5 0), (6, .d (.int .i64 s6))], box := [(4, [.d (.int .i64 y2.1.Slots), .d (.slice (rowsF api_Consumer_row y2.1.Consumers))]), (5, [.d (.int .i64 y3.1.Known), .d (.int .i64 y3.1.Valid), .d (.slice (rowsF api_Unit_row y3.1.Units))])], vec := [] } : St)) hI1 (wk (by simp [weak_iff])) fun G1 s6 o1 h1 hg1 he1 => ?_)
      unfold law32_FleetBits_l0 at h1
      refine tr_seq ?_
      refine kr [4, 5, 6, 23] (by simp; rfl) ?_
      refine tr_cond (b := (decide (s6 ≤ 3))) (by simp) (fun c30 => ?_) (fun c30 => ?_)
      · rw [if_pos c30] at h1
        refine tr_skip ?_
        refine tr_seq ?_
        refine tr_block ?_
        refine kc ?_
        refine ko [4, 5, 6, 26] 1 (by simp; rfl) ?_
        replace h1 := bnd h1; obtain ⟨y7, hy7, h1⟩ := h1
        refine kcall [4, 5, 6, 27] [] (ref32_Copy_ok hy7) rfl rfl rfl Try.call20 (by simp) (by simp; rfl) ?_
        refine ko [4, 5, 6, 7] 2 (by simp; rfl) ?_
        refine tops_nil ?_
        refine kr [4, 5, 6, 7] (by simp; rfl) ?_
        refine tr_seq ?_
        refine kd [[], [], [0, 1], [], [], [3, 4], [2, 5]] [] [] none [] 7 fol (by decide +kernel) (by simp) ?_
        refine dr_go 0 2 rfl (by simp (maxSteps := 1000000); rfl) ?_
        replace h1 := bnd h1; obtain ⟨y8, hy8, h1⟩ := h1
        refine dr_call 2 [] (fleet_Right_ok hy8) rfl rfl rfl rfl rfl Try.call21 (by simp) ?_
        refine dr_go 3 2 rfl (by simp (maxSteps := 1000000); rfl) ?_
        replace h1 := bnd h1; obtain ⟨y9, hy9, h1⟩ := h1
        refine dr_call 5 [] (ref32_Right_ok hy9) rfl rfl rfl rfl rfl Try.call22 (by simp) ?_
        refine dr_go 6 1 rfl (by simp (maxSteps := 1000000); rfl) ?_
        refine dr_end rfl (tops_nil ?_)
        refine tr_cond (b := (y8 != y9)) (by simp) (fun c31 => ?_) (fun c31 => ?_)
        · rw [if_pos c31] at h1
          refine kr [2] (by simp; rfl) ?_
          have k1 := he1 _ (Option.some.inj h1)
          subst k1
          dsimp only at h0
          cases h0
          exact tr_ret ⟨[], by simp, rfl, by simp⟩
        · rw [if_neg (by rw [c31]; decide)] at h1
          refine tr_skip ?_
          refine tr_seq ?_
          refine kc ?_
          refine ko [4, 5, 6, 7, 37, 38] 2 (by simp; rfl) ?_
          replace h1 := bnd h1; obtain ⟨y10, hy10, h1⟩ := h1
          refine kcall [4, 5, 6, 7, 39] [] (fleet_Right_ok hy10) rfl rfl rfl Try.call21 (by simp) (by simp; rfl) ?_
          refine ko [4, 5, 6, 7, 40] 1 (by simp; rfl) ?_
          refine tops_nil ?_
          refine tr_cond (b := (!y10)) (by simp) (fun c32 => ?_) (fun c32 => ?_)
          · rw [if_pos c32] at h1
            refine tr_seq ?_
            refine kc ?_
            refine ko [4, 5, 6, 41, 42] 2 (by simp; rfl) ?_
            replace h1 := bnd h1; obtain ⟨y11, hy11, h1⟩ := h1
            refine kcall [4, 5, 6, 43] [] (fleet_Served_ok hy11) rfl rfl rfl Try.call23 (by simp) (by simp; rfl) ?_
            refine ko [4, 5, 6, 45] 2 (by simp; rfl) ?_
            refine tops_nil ?_
            refine tr_cond (b := (decide (0 < ((y11).length : Int)))) (by simp) (fun c33 => ?_) (fun c33 => ?_)
            · rw [if_pos c33] at h1
              refine kr [2] (by simp; rfl) ?_
              have k1 := he1 _ (Option.some.inj h1)
              subst k1
              dsimp only at h0
              cases h0
              exact tr_ret ⟨[], by simp, rfl, by simp⟩
            · rw [if_neg (by rw [c33]; decide)] at h1
              refine tr_skip ?_
              refine tr_exit ?_
              refine lr (by simp; rfl) ?_
              exact ⟨_, hg1 _ (Option.some.inj h1), wk (by simp [weak_iff])⟩
          · rw [if_neg (by rw [c32]; decide)] at h1
            refine tr_skip ?_
            refine kr [4, 5, 6, 7, 47, 48, 49] (by simp; rfl) ?_
            replace h1 := bnd h1; obtain ⟨e2, hI2, h1⟩ := h1
            refine tjv (fun v12 : Unit => ({ nt := 70, env := [(4, .ptr 4 0), (5, .ptr 5 0), (6, .d (.int .i64 s6))], box := [(4, [.d (.int .i64 y2.1.Slots), .d (.slice (rowsF api_Consumer_row y2.1.Consumers))]), (5, [.d (.int .i64 y3.1.Known), .d (.int .i64 y3.1.Valid), .d (.slice (rowsF api_Unit_row y3.1.Units))])], vec := [] } : St)) (fun v12 => .inl v12 = e2) (fun v12 hI2e _ W2 => ?_) ?_
            · subst hI2e
              dsimp only at h1
              refine tr_wk W2 ?_
              refine lr (by simp; rfl) ?_
              exact ⟨_, hg1 _ (Option.some.inj h1), wk (by simp [weak_iff])⟩
            · refine tr_block (tr_iter (fun s13 : Int => ({ nt := 70, env := [(4, .ptr 4 0), (5, .ptr 5 0), (6, .d (.int .i64 s6)), (7, .ptr 7 0), (47, .d (.slice (rowsF api_Unit_row y7.Units))), (48, .d (.int .i64 ((y7.Units).length : Int))), (49, .d (.int .i64 s13))], box := [(4, [.d (.int .i64 y2.1.Slots), .d (.slice (rowsF api_Consumer_row y2.1.Consumers))]), (5, [.d (.int .i64 y3.1.Known), .d (.int .i64 y3.1.Valid), .d (.slice (rowsF api_Unit_row y3.1.Units))]), (7, [.d (.int .i64 y7.Known), .d (.int .i64 s6), .d (.slice (rowsF api_Unit_row y7.Units))])], vec := [] } : St)) hI2 (wk (by simp [weak_iff])) fun G2 s13 o2 h2 hg2 he2 => ?_)
              unfold law32_FleetBits_l1 at h2
              refine kr [4, 5, 6, 7, 47, 48, 49, 50] (by simp; rfl) ?_
              refine tr_seq ?_
              refine tr_cond (b := (decide (s13 < ((y7.Units).length : Int)))) (by simp) (fun c44 => ?_) (fun c44 => ?_)
              · rw [if_pos c44] at h2
                refine tr_skip ?_
                refine tr_seq ?_
                refine tr_block ?_
                replace h2 := bnd h2; obtain ⟨x14, p7, h2⟩ := h2
                replace p7 := idx_some p7
                have p7' := p7; try simp at p7'
                refine kr [4, 5, 6, 7, 8, 9, 47, 48, 49] (by simp [p7, p7']; rfl) ?_
                replace h2 := bnd h2; obtain ⟨v15, hvv15, h2⟩ := h2
                refine sjv (fun v15_ : Bool => ({ nt := 70, env := [(4, .ptr 4 0), (5, .ptr 5 0), (6, .d (.int .i64 s6)), (7, .ptr 7 0), (47, .d (.slice (rowsF api_Unit_row y7.Units))), (48, .d (.int .i64 ((y7.Units).length : Int))), (49, .d (.int .i64 s13)), (67, .d (.bool v15_))], box := [(4, [.d (.int .i64 y2.1.Slots), .d (.slice (rowsF api_Consumer_row y2.1.Consumers))]), (5, [.d (.int .i64 y3.1.Known), .d (.int .i64 y3.1.Valid), .d (.slice (rowsF api_Unit_row y3.1.Units))]), (7, [.d (.int .i64 y7.Known), .d (.int .i64 s6), .d (.slice (rowsF api_Unit_row y7.Units))])], vec := [] } : St)) (fun v15_ => v15 = v15_) (fun v15_ e => ?_) ?_
                · subst e
                  refine tr_cond (b := v15) (by simp) (fun c51 => ?_) (fun c51 => ?_)
                  · rw [if_pos c51] at h2
                    refine kr [2] (by simp; rfl) ?_
                    have k2 := he2 _ (Option.some.inj h2)
                    subst k2
                    dsimp only at h1
                    have k1 := he1 _ (Option.some.inj h1)
                    subst k1
                    dsimp only at h0
                    cases h0
                    exact tr_ret ⟨[], by simp, rfl, by simp⟩
                  · rw [if_neg (by rw [c51]; decide)] at h2
                    refine tr_skip ?_
                    refine lr (by simp; rfl) ?_
                    exact ⟨_, hg2 _ (Option.some.inj h2), wk (by simp [weak_iff])⟩
                · refine kd1 [[], [], [], [0, 1, 2], [], [4], [5], [6], [6, 7], [6], [6, 8, 9], [6, 10], [6, 11], [3, 12]] [] [] none [] 14 fol (by decide +kernel) (by simp) ?_
                  refine dr_go 0 2 rfl (by simp (maxSteps := 1000000); rfl) ?_
                  refine dr_go 2 1 rfl (by simp (maxSteps := 1000000); rfl) ?_
                  replace hvv15 := bnd hvv15; obtain ⟨y16, hy16, hvv15⟩ := hvv15
                  refine dr_call 3 [] (fleet_Serves_ok hy16) rfl rfl rfl rfl rfl Try.call24 (by simp) ?_
                  refine dr_go 4 2 rfl (by simp (maxSteps := 1000000); rfl) ?_
                  refine dr_go 6 1 rfl (by simp (maxSteps := 1000000); rfl) ?_
                  refine dr_split 6 60 x14.Up (by simp) (fun c54 => ?_) (fun c54 => ?_)
                  · rw [if_pos c54] at hvv15
                    refine dr_go 7 2 rfl (by simp (maxSteps := 1000000); rfl) ?_
                    refine dr_go 9 2 rfl (by simp (maxSteps := 1000000); rfl) ?_
                    refine dr_go 11 2 rfl (by simp (maxSteps := 1000000); rfl) ?_
                    refine dr_go 13 1 rfl (by simp (maxSteps := 1000000); rfl) ?_
                    refine dr_end rfl (tops_nil ?_)
                    cases hvv15
                    exact ⟨_, rfl, wk (by simp [weak_iff])⟩
                  · rw [if_neg (by rw [c54]; decide)] at hvv15
                    refine dr_skip 7 70 [some 61, some 62, some 63, some 64, some 65] rfl rfl (by decide) (by kernel_rfl) (by simp only [skEf, List.map_cons, List.map_nil, List.cons_append, List.nil_append]; rfl) ?_
                    refine dr_go 12 2 rfl (by simp (maxSteps := 1000000); rfl) ?_
                    refine dr_end rfl (tops_nil ?_)
                    cases hvv15
                    exact ⟨_, rfl, wk (by simp [weak_iff])⟩
              · rw [if_neg (by rw [c44]; decide)] at h2
                refine tr_exit ?_
                exact ⟨_, he2 _ (Option.some.inj h2), wk (by simp [weak_iff])⟩
      · rw [if_neg (by rw [c30]; decide)] at h1
        refine tr_exit ?_
        exact ⟨_, he1 _ (Option.some.inj h1), wk (by simp [weak_iff])⟩
end Go.Vl
