/- Walks: each function of the given program computes what its mirror says. Conditions: none. -/
import Derived.Test.YtclmnpkhopioiaaRw2
set_option linter.unusedSimpArgs false
set_option linter.unusedVariables false
namespace Go.Vl
open Go Go.Proofs
set_option maxHeartbeats 1000000 in
theorem law32_FleetPools_ok {a0 : List Int} {r : Bool} (h0 : law32_FleetPools a0 = some r) : FnOK Try.prog 6 [] [.d (.slice (rowsF (iRow .i64) a0))] (.d (.bool r)) [] := by
  unfold law32_FleetPools at h0
  refine fn_ok (nt := 73) (rs := [.tmp 2]) Try.func6 rfl Try.ntmps6 rfl (by simp) (by decide) rfl fun K => ?_
  refine kr [0] (by simp; rfl) ?_
  refine tr_seq ?_
  refine kr [0, 13] (by simp; rfl) ?_
  refine tr_cond (b := (decide (300 < ((a0).length : Int)))) (by simp) (fun c1 => ?_) (fun c1 => ?_)
  · rw [if_pos c1] at h0
    refine kc ?_
    replace h0 := bnd h0; obtain ⟨y1, hy1, h0⟩ := h0
    refine kcall [14] [] (law32_awake_ok hy1) rfl rfl rfl Try.call17 (by simp) (by simp; rfl) ?_
    refine ko [2] 1 (by simp; rfl) ?_
    refine tops_nil ?_
    cases h0
    exact tr_ret ⟨[], by simp, rfl, by simp⟩
  · rw [if_neg (by rw [c1]; decide)] at h0
    refine tr_skip ?_
    refine kr [3] (by simp; rfl) ?_
    refine kc ?_
    refine ko [18] 1 (by simp; rfl) ?_
    replace h0 := bnd h0; obtain ⟨y2, hy2, h0⟩ := h0
    refine kcall [19] [17] (make_Fleet_ok hy2) rfl rfl rfl Try.call18 (by simp) (by simp; rfl) ?_
    refine ko [4] 2 (by simp; rfl) ?_
    refine tops_nil ?_
    refine kr [4, 5] (by simp; rfl) ?_
    refine tr_seq ?_
    refine kc ?_
    refine ko [4, 5, 20] 1 (by simp; rfl) ?_
    replace h0 := bnd h0; obtain ⟨y3, hy3, h0⟩ := h0
    refine kcall [4, 5, 21] [] (fleet_Pools_ok hy3) rfl rfl rfl Try.call32 (by simp) (by simp; rfl) ?_
    refine ko [4, 5, 21, 22, 23] 2 (by simp; rfl) ?_
    refine tops_nil ?_
    replace h0 := bnd h0; obtain ⟨e1, hI1, h0⟩ := h0
    refine tjv (fun v4 : (List Int) => ({ nt := 73, env := [(4, .ptr 4 0), (5, .ptr 5 0)], box := [(4, [.d (.int .i64 y2.1.Slots), .d (.slice (rowsF api_Consumer_row y2.1.Consumers))]), (5, arC (iRow .i64) v4)], vec := [] } : St)) (fun v4 => .inl v4 = e1) (fun v4 hI1e _ W1 => ?_) ?_
    · subst hI1e
      dsimp only at h0
      refine tr_wk W1 ?_
      refine tr_seq ?_
      refine kr [5, 63, 64] (by simp; rfl) ?_
      replace h0 := bnd h0; obtain ⟨e2, hI2, h0⟩ := h0
      refine tjv (fun v5 : Unit => ({ nt := 73, env := [], box := [], vec := [] } : St)) (fun v5 => .inl v5 = e2) (fun v5 hI2e _ W2 => ?_) ?_
      · subst hI2e
        dsimp only at h0
        refine tr_wk W2 ?_
        refine kc ?_
        replace h0 := bnd h0; obtain ⟨y6, hy6, h0⟩ := h0
        refine kcall [72] [] (law32_awake_ok hy6) rfl rfl rfl Try.call17 (by simp) (by simp; rfl) ?_
        refine ko [2] 1 (by simp; rfl) ?_
        refine tops_nil ?_
        cases h0
        exact tr_ret ⟨[], by simp, rfl, by simp⟩
      · refine tr_block (tr_iter (fun s7 : Int => ({ nt := 73, env := [(5, .ptr 5 0), (63, .d (.int .i64 ((y2.1.Consumers).length : Int))), (64, .d (.int .i64 s7))], box := [(5, arC (iRow .i64) v4)], vec := [] } : St)) hI2 (wk (by simp [weak_iff])) fun G2 s7 o2 h2 hg2 he2 => ?_)
        unfold law32_FleetPools_l1 at h2
        refine kr [5, 63, 64, 65] (by simp; rfl) ?_
        refine tr_seq ?_
        refine tr_cond (b := (decide (s7 < ((y2.1.Consumers).length : Int)))) (by simp) (fun c24 => ?_) (fun c24 => ?_)
        · rw [if_pos c24] at h2
          refine tr_skip ?_
          refine tr_seq ?_
          refine tr_block ?_
          refine kr [5, 10, 63, 64] (by simp; rfl) ?_
          replace h2 := bnd h2; obtain ⟨_, p31, h2⟩ := h2
          replace p31 := ck_some p31
          have p31' := p31; try simp at p31'
          replace h2 := bnd h2; obtain ⟨x8, p32, h2⟩ := h2
          replace p32 := idx_some p32
          have p32' := p32; try simp at p32'
          refine kr [5, 63, 64, 70] (by simp [p31, p32, p31', p32']; rfl) ?_
          refine tr_cond (b := (x8 != 1)) (by simp) (fun c25 => ?_) (fun c25 => ?_)
          · rw [if_pos c25] at h2
            refine kr [2] (by simp; rfl) ?_
            have k1 := he2 _ (Option.some.inj h2)
            subst k1
            dsimp only at h0
            cases h0
            exact tr_ret ⟨[], by simp, rfl, by simp⟩
          · rw [if_neg (by rw [c25]; decide)] at h2
            refine tr_skip ?_
            refine lr (by simp; rfl) ?_
            exact ⟨_, hg2 _ (Option.some.inj h2), wk (by simp [weak_iff])⟩
        · rw [if_neg (by rw [c24]; decide)] at h2
          refine tr_exit ?_
          exact ⟨_, he2 _ (Option.some.inj h2), wk (by simp [weak_iff])⟩
    · refine tr_block (tr_iter (fun s11 : Int × (List Int) => ({ nt := 73, env := [(4, .ptr 4 0), (5, .ptr 5 0), (21, .d (.slice (rowsF (iRow .i64) y3))), (22, .d (.int .i64 ((y3).length : Int))), (23, .d (.int .i64 s11.1))], box := [(4, [.d (.int .i64 y2.1.Slots), .d (.slice (rowsF api_Consumer_row y2.1.Consumers))]), (5, arC (iRow .i64) s11.2)], vec := [] } : St)) hI1 (wk (by simp [weak_iff])) fun G2 s11 o2 h2 hg2 he2 => ?_)
      unfold law32_FleetPools_l0 at h2
      refine kr [4, 5, 21, 22, 23, 24] (by simp; rfl) ?_
      refine tr_seq ?_
      refine tr_cond (b := (decide (s11.1 < ((y3).length : Int)))) (by simp) (fun c26 => ?_) (fun c26 => ?_)
      · rw [if_pos c26] at h2
        refine tr_skip ?_
        refine tr_seq ?_
        refine tr_block ?_
        replace h2 := bnd h2; obtain ⟨x12, p33, h2⟩ := h2
        replace p33 := idx_some p33
        have p33' := p33; try simp at p33'
        refine kr [4, 5, 7, 21, 22, 23] (by simp [p33, p33']; rfl) ?_
        refine kc ?_
        refine ko [4, 5, 7, 21, 22, 23, 27, 28] 2 (by simp; rfl) ?_
        replace h2 := bnd h2; obtain ⟨y13, hy13, h2⟩ := h2
        refine kcall [4, 5, 7, 21, 22, 23, 29] [] (fleet_Units_ok hy13) rfl rfl rfl Try.call39 (by simp) (by simp; rfl) ?_
        refine ko [4, 5, 7, 21, 22, 23, 29, 30, 31] 2 (by simp; rfl) ?_
        refine tops_nil ?_
        replace h2 := bnd h2; obtain ⟨e3, hI3, h2⟩ := h2
        refine tjv (fun v14 : (List Int) => ({ nt := 73, env := [(4, .ptr 4 0), (5, .ptr 5 0), (21, .d (.slice (rowsF (iRow .i64) y3))), (22, .d (.int .i64 ((y3).length : Int))), (23, .d (.int .i64 s11.1))], box := [(4, [.d (.int .i64 y2.1.Slots), .d (.slice (rowsF api_Consumer_row y2.1.Consumers))]), (5, arC (iRow .i64) v14)], vec := [] } : St)) (fun v14 => .inl v14 = e3) (fun v14 hI3e _ W3 => ?_) ?_
        · subst hI3e
          dsimp only at h2
          refine tr_wk W3 ?_
          refine lr (by simp; rfl) ?_
          exact ⟨_, hg2 _ (Option.some.inj h2), wk (by simp [weak_iff])⟩
        · refine tr_block (tr_iter (fun s15 : Int × (List Int) => ({ nt := 73, env := [(4, .ptr 4 0), (5, .ptr 5 0), (7, .d (.int .i64 x12)), (21, .d (.slice (rowsF (iRow .i64) y3))), (22, .d (.int .i64 ((y3).length : Int))), (23, .d (.int .i64 s11.1)), (29, .d (.slice (rowsF (iRow .i64) y13))), (30, .d (.int .i64 ((y13).length : Int))), (31, .d (.int .i64 s15.1))], box := [(4, [.d (.int .i64 y2.1.Slots), .d (.slice (rowsF api_Consumer_row y2.1.Consumers))]), (5, arC (iRow .i64) s15.2)], vec := [] } : St)) hI3 (wk (by simp [weak_iff])) fun G3 s15 o3 h3 hg3 he3 => ?_)
          unfold law32_FleetPools_l2 at h3
          refine kr [4, 5, 7, 21, 22, 23, 29, 30, 31, 32] (by simp; rfl) ?_
          refine tr_seq ?_
          refine tr_cond (b := (decide (s15.1 < ((y13).length : Int)))) (by simp) (fun c35 => ?_) (fun c35 => ?_)
          · rw [if_pos c35] at h3
            refine tr_skip ?_
            refine tr_seq ?_
            refine tr_block ?_
            replace h3 := bnd h3; obtain ⟨x16, p46, h3⟩ := h3
            replace p46 := idx_some p46
            have p46' := p46; try simp at p46'
            refine kr [4, 5, 7, 9, 21, 22, 23, 29, 30, 31] (by simp [p46, p46']; rfl) ?_
            refine tr_seq ?_
            replace h3 := bnd h3; obtain ⟨v17, hvv17, h3⟩ := h3
            refine sjv (fun v17_ : Bool => ({ nt := 73, env := [(4, .ptr 4 0), (5, .ptr 5 0), (7, .d (.int .i64 x12)), (9, .d (.int .i64 x16)), (21, .d (.slice (rowsF (iRow .i64) y3))), (22, .d (.int .i64 ((y3).length : Int))), (23, .d (.int .i64 s11.1)), (29, .d (.slice (rowsF (iRow .i64) y13))), (30, .d (.int .i64 ((y13).length : Int))), (31, .d (.int .i64 s15.1)), (53, .d (.bool v17_))], box := [(4, [.d (.int .i64 y2.1.Slots), .d (.slice (rowsF api_Consumer_row y2.1.Consumers))]), (5, arC (iRow .i64) s15.2)], vec := [] } : St)) (fun v17_ => v17 = v17_) (fun v17_ e => ?_) ?_
            · subst e
              refine tr_cond (b := v17) (by simp) (fun c40 => ?_) (fun c40 => ?_)
              · rw [if_pos c40] at h3
                refine kr [2] (by simp; rfl) ?_
                have k2 := he3 _ (Option.some.inj h3)
                subst k2
                dsimp only at h2
                have k1 := he2 _ (Option.some.inj h2)
                subst k1
                dsimp only at h0
                cases h0
                exact tr_ret ⟨[], by simp, rfl, by simp⟩
              · rw [if_neg (by rw [c40]; decide)] at h3
                refine tr_skip ?_
                replace h3 := bnd h3; obtain ⟨_, p49, h3⟩ := h3
                replace p49 := ck_some p49
                have p49' := p49; try simp at p49'
                replace h3 := bnd h3; obtain ⟨x18, p50, h3⟩ := h3
                replace p50 := idx_some p50
                have p50' := p50; try simp at p50'
                replace h3 := bnd h3; obtain ⟨_, p51, h3⟩ := h3
                replace p51 := ck_some p51
                have p51' := p51; try simp at p51'
                replace h3 := bnd h3; obtain ⟨_, p52, h3⟩ := h3
                replace p52 := ck_some p52
                refine lr (by simp [p49, p50, p51, show (Int.toNat x16) + 1 ≤ (s15.2).length from p52, arC_put p52, p49', p50', p51']; rfl) ?_
                refine lr (by simp; rfl) ?_
                exact ⟨_, hg3 _ (Option.some.inj h3), wk (by simp [weak_iff])⟩
            · refine kc1 ?_
              refine ko [4, 5, 7, 9, 21, 22, 23, 29, 30, 31, 37] 3 (by simp; rfl) ?_
              refine tops_split 37 (decide (x16 < 0)) (by simp) (fun c41 => ?_) (fun c41 => ?_)
              · rw [if_pos c41] at hvv17
                refine kskip 5 [] (by kernel_rfl) ?_
                refine ko [4, 5, 7, 9, 21, 22, 23, 29, 30, 31, 44] 2 (by simp; rfl) ?_
                refine kskip 8 [] (by kernel_rfl) ?_
                refine ko [4, 5, 7, 9, 21, 22, 23, 29, 30, 31, 53] 1 (by simp; rfl) ?_
                refine tops_nil ?_
                cases hvv17
                exact ⟨_, rfl, wk (by simp [weak_iff])⟩
              · rw [if_neg (by rw [c41]; decide)] at hvv17
                refine ko [4, 5, 7, 9, 21, 22, 23, 29, 30, 31, 38, 39, 40, 41, 42, 44] 7 (by simp; rfl) ?_
                refine tops_split 44 (decide (((y2.1.Consumers).length : Int) ≤ x16)) (by simp) (fun c42 => ?_) (fun c42 => ?_)
                · rw [if_pos c42] at hvv17
                  refine kskip 8 [] (by kernel_rfl) ?_
                  refine ko [4, 5, 7, 9, 21, 22, 23, 29, 30, 31, 38, 39, 40, 41, 42, 53] 1 (by simp; rfl) ?_
                  refine tops_nil ?_
                  cases hvv17
                  exact ⟨_, rfl, wk (by simp [weak_iff])⟩
                · rw [if_neg (by rw [c42]; decide)] at hvv17
                  replace hvv17 := bnd hvv17; obtain ⟨x19, p53, hvv17⟩ := hvv17
                  replace p53 := idx_some p53
                  have p53' := p53; try simp at p53'
                  refine ko [4, 5, 7, 9, 21, 22, 23, 29, 30, 31, 38, 39, 40, 41, 42, 45, 46, 47, 48, 49, 50, 51, 52, 53] 9 (by simp [p53, p53']; rfl) ?_
                  refine tops_nil ?_
                  cases hvv17
                  exact ⟨_, rfl, wk (by simp [weak_iff])⟩
          · rw [if_neg (by rw [c35]; decide)] at h3
            refine tr_exit ?_
            exact ⟨_, he3 _ (Option.some.inj h3), wk (by simp [weak_iff])⟩
      · rw [if_neg (by rw [c26]; decide)] at h2
        refine tr_exit ?_
        exact ⟨_, he2 _ (Option.some.inj h2), wk (by simp [weak_iff])⟩
end Go.Vl
