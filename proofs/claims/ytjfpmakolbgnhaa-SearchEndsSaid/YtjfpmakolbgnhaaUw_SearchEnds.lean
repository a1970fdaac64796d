/- Walks: each function of the given program computes what its mirror says. Conditions: none. -/
import Derived.Test.YtjfpmakolbgnhaaUw2
set_option linter.unusedSimpArgs false
set_option linter.unusedVariables false
namespace Go.Vl
open Go Go.Proofs
set_option maxHeartbeats 1000000 in
theorem law34_SearchEnds_ok {a0 : List Int} {r : Bool} (h0 : law34_SearchEnds a0 = some r) : FnOK Try.prog 5 [] [.d (.slice (rowsF (iRow .i64) a0))] (.d (.bool r)) [] := by
  unfold law34_SearchEnds at h0
  refine fn_ok (nt := 109) (rs := [.tmp 2]) Try.func5 rfl Try.ntmps5 rfl (by simp) (by decide) rfl fun K => ?_
  refine kr [0] (by simp; rfl) ?_
  refine tr_seq ?_
  refine kr [0, 16] (by simp; rfl) ?_
  refine tr_cond (b := (decide (200 < ((a0).length : Int)))) (by simp) (fun c1 => ?_) (fun c1 => ?_)
  · rw [if_pos c1] at h0
    refine kc ?_
    replace h0 := bnd h0; obtain ⟨y1, hy1, h0⟩ := h0
    refine kcall [17] [] (law34_awake_ok hy1) rfl rfl rfl Try.call8 (by simp) (by simp; rfl) ?_
    refine ko [2] 1 (by simp; rfl) ?_
    refine tops_nil ?_
    cases h0
    exact tr_ret ⟨[], by simp, rfl, by simp⟩
  · rw [if_neg (by rw [c1]; decide)] at h0
    refine tr_skip ?_
    refine kr [3] (by simp; rfl) ?_
    refine kc ?_
    refine ko [21] 1 (by simp; rfl) ?_
    replace h0 := bnd h0; obtain ⟨y2, hy2, h0⟩ := h0
    refine kcallV [22] [20] [] [600088] (make_Fleet_own1_ok hy2) rfl rfl rfl Try.call9 (by simp) (by simp; rfl) ?_
    refine ko [4] 2 (by simp; rfl) ?_
    refine tops_nil ?_
    refine kr [4, 5] (by simp; rfl) ?_
    refine tr_seq ?_
    refine kr [4, 5, 26, 27] (by simp; rfl) ?_
    refine tr_wk (wk_ownbox 5 2 33 53 3 (by simp; rfl) (by simp) (by simp)) ?_
    replace h0 := bnd h0; obtain ⟨e1, hI1, h0⟩ := h0
    refine tjv (fun v3 : (List api_Unit) => ({ nt := 109, env := [(4, .ptr 4 0), (5, .ptr 5 0)], box := [(4, [.d (.int .i64 y2.1.Slots), .vec 600088]), (5, [.d (.int .i64 3), .d (.int .i64 2), .vec 33])], vec := [(33, ⟨53, 3, rowsF api_Unit_row v3⟩), (600088, ⟨65, 3, rowsF api_Consumer_row y2.1.Consumers⟩)] } : St)) (fun v3 => v3 = e1) (fun v3 hI1e _ W1 => ?_) ?_
    · subst hI1e
      refine tr_wk W1 ?_
      refine kc ?_
      refine ko [4, 5, 37, 38] 2 (by simp; rfl) ?_
      refine tops_wk (wk_frz 600088) ?_
      refine tops_wk (wk_frz 33) ?_
      replace h0 := bnd h0; obtain ⟨y4, hy4, h0⟩ := h0
      refine kcall [4, 5, 39] [] (search_Distance_ok hy4) rfl rfl rfl Try.call17 (by simp) (by simp; rfl) ?_
      refine ko [4, 5, 6, 7, 8] 7 (by simp; rfl) ?_
      refine tops_nil ?_
      refine kc ?_
      refine ko [4, 5, 6, 7, 8, 44, 45] 2 (by simp; rfl) ?_
      replace h0 := bnd h0; obtain ⟨y5, hy5, h0⟩ := h0
      refine kcall [4, 5, 6, 7, 8, 46] [] (search_Shortest_ok hy5) rfl rfl rfl Try.call18 (by simp) (by simp; rfl) ?_
      refine ko [4, 5, 6, 7, 8, 9, 10, 11] 7 (by simp; rfl) ?_
      refine tops_nil ?_
      refine tr_seq ?_
      replace h0 := bnd h0; obtain ⟨v6, hvv6, h0⟩ := h0
      refine sjv (fun v6_ : Bool => ({ nt := 109, env := [(4, .ptr 4 0), (5, .ptr 5 0), (72, .d (.bool v6_))], box := [(4, [.d (.int .i64 y2.1.Slots), .d (.slice (rowsF api_Consumer_row y2.1.Consumers))]), (5, [.d (.int .i64 3), .d (.int .i64 2), .d (.slice (rowsF api_Unit_row v3))])], vec := [] } : St)) (fun v6_ => v6 = v6_) (fun v6_ e => ?_) ?_
      · subst e
        refine tr_cond (b := v6) (by simp) (fun c15 => ?_) (fun c15 => ?_)
        · rw [if_pos c15] at h0
          refine kr [2] (by simp; rfl) ?_
          cases h0
          exact tr_ret ⟨[], by simp, rfl, by simp⟩
        · rw [if_neg (by rw [c15]; decide)] at h0
          refine tr_skip ?_
          refine kc ?_
          refine ko [4, 73] 1 (by simp; rfl) ?_
          replace h0 := bnd h0; obtain ⟨y7, hy7, h0⟩ := h0
          refine kcallV [4, 74] [] [] [600296] (ref32_Copy_own2_ok hy7) rfl rfl rfl Try.call21 (by simp) (by simp; rfl) ?_
          refine ko [4, 12] 2 (by simp; rfl) ?_
          refine tops_nil ?_
          refine tr_seq ?_
          refine kr [4, 12, 77, 78] (by simp; rfl) ?_
          replace h0 := bnd h0; obtain ⟨e2, hI2, h0⟩ := h0
          refine tjv (fun v8 : (List api_Unit) => ({ nt := 109, env := [(4, .ptr 4 0), (12, .ptr 12 0)], box := [(4, [.d (.int .i64 y2.1.Slots), .d (.slice (rowsF api_Consumer_row y2.1.Consumers))]), (12, [.d (.int .i64 y7.Known), .d (.int .i64 y7.Valid), .vec 600296])], vec := [(600296, ⟨53, 3, rowsF api_Unit_row v8⟩)] } : St)) (fun v8 => v8 = e2) (fun v8 hI2e _ W2 => ?_) ?_
          · subst hI2e
            refine tr_wk W2 ?_
            refine kc ?_
            refine ko [4, 88, 89] 2 (by simp; rfl) ?_
            refine tops_wk (wk_frz 600296) ?_
            replace h0 := bnd h0; obtain ⟨y9, hy9, h0⟩ := h0
            refine kcall [4, 90] [] (search_Distance_ok hy9) rfl rfl rfl Try.call17 (by simp) (by simp; rfl) ?_
            refine ko [4, 6, 7, 8] 7 (by simp; rfl) ?_
            refine tops_nil ?_
            replace h0 := bnd h0; obtain ⟨v10, hvv10, h0⟩ := h0
            refine sjv (fun v10_ : Bool => ({ nt := 109, env := [(2, .d (.bool v10_))], box := [], vec := [] } : St)) (fun v10_ => v10 = v10_) (fun v10_ e => ?_) ?_
            · subst e
              cases h0
              exact tr_ret ⟨[], by simp, rfl, by simp⟩
            · refine kc1 ?_
              refine ko [4, 6, 7, 96] 3 (by simp; rfl) ?_
              refine tops_split 96 (y9.2.2 == 0) (by simp) (fun c24 => ?_) (fun c24 => ?_)
              · rw [if_pos c24] at hvv10
                refine ko [4, 6, 99] 3 (by simp; rfl) ?_
                refine tops_split 99 y9.2.1 (by simp) (fun c25 => ?_) (fun c25 => ?_)
                · rw [if_pos c25] at hvv10
                  refine ko [106] 7 (by simp; rfl) ?_
                  refine tops_split 106 (y9.1 == ((y2.1.Consumers).length : Int)) (by simp) (fun c26 => ?_) (fun c26 => ?_)
                  · rw [if_pos c26] at hvv10
                    replace hvv10 := bnd hvv10; obtain ⟨y11, hy11, hvv10⟩ := hvv10
                    refine kcall [106, 107] [] (law34_awake_ok hy11) rfl rfl rfl Try.call8 (by simp) (by simp; rfl) ?_
                    refine ko [2] 2 (by simp; rfl) ?_
                    refine tops_nil ?_
                    cases hvv10
                    exact ⟨_, rfl, wk (by simp [weak_iff])⟩
                  · rw [if_neg (by rw [c26]; decide)] at hvv10
                    refine ko [2] 3 (by simp; rfl) ?_
                    refine tops_nil ?_
                    cases hvv10
                    exact ⟨_, rfl, wk (by simp [weak_iff])⟩
                · rw [if_neg (by rw [c25]; decide)] at hvv10
                  refine kskip 5 [] (by kernel_rfl) ?_
                  refine ko [2] 5 (by simp; rfl) ?_
                  refine tops_nil ?_
                  cases hvv10
                  exact ⟨_, rfl, wk (by simp [weak_iff])⟩
              · rw [if_neg (by rw [c24]; decide)] at hvv10
                refine ko [4, 6, 99] 3 (by simp; rfl) ?_
                refine kskip 5 [] (by kernel_rfl) ?_
                refine ko [2] 5 (by simp; rfl) ?_
                refine tops_nil ?_
                cases hvv10
                exact ⟨_, rfl, wk (by simp [weak_iff])⟩
          · refine tr_block (tr_iter (fun s12 : Int × (List api_Unit) => ({ nt := 109, env := [(4, .ptr 4 0), (12, .ptr 12 0), (77, .d (.int .i64 ((y7.Units).length : Int))), (78, .d (.int .i64 s12.1))], box := [(4, [.d (.int .i64 y2.1.Slots), .d (.slice (rowsF api_Consumer_row y2.1.Consumers))]), (12, [.d (.int .i64 y7.Known), .d (.int .i64 y7.Valid), .vec 600296])], vec := [(600296, ⟨53, 3, rowsF api_Unit_row s12.2⟩)] } : St)) hI2 (wk (by simp [weak_iff])) fun G2 s12 o2 h2 hg2 he2 => ?_)
            unfold law34_SearchEnds_l1 at h2
            refine kr [4, 12, 77, 78, 79] (by simp; rfl) ?_
            refine tr_seq ?_
            refine tr_cond (b := (decide (s12.1 < ((y7.Units).length : Int)))) (by simp) (fun c27 => ?_) (fun c27 => ?_)
            · rw [if_pos c27] at h2
              refine tr_skip ?_
              refine tr_seq ?_
              refine tr_block ?_
              refine kr [4, 12, 13, 77, 78] (by simp; rfl) ?_
              replace h2 := bnd h2; obtain ⟨_, p7, h2⟩ := h2
              replace p7 := ck_some p7
              have p7' := p7; try simp at p7'
              have p7o : s12.1 < (((s12.2)).length : Int) := by omega
              replace h2 := bnd h2; obtain ⟨x13, p8, h2⟩ := h2
              replace p8 := idx_some p8
              have p8' := p8; try simp at p8'
              refine lr (by simp [-getElem?_pos, List.getElem?_cons_zero, List.getElem?_cons_succ, p7, p7o, p8, (List.getElem?_eq_some_iff.1 p8.2).1, p7', p8']; rfl) ?_
              refine lr (by simp; rfl) ?_
              exact ⟨_, hg2 _ (Option.some.inj h2), wk (by simp [weak_iff])⟩
            · rw [if_neg (by rw [c27]; decide)] at h2
              refine tr_exit ?_
              exact ⟨_, he2 _ (Option.some.inj h2), wk (by simp [weak_iff])⟩
      · refine kc1 ?_
        refine ko [4, 5, 6, 7, 9, 10, 11, 52] 3 (by simp; rfl) ?_
        refine tops_split 52 (y4.2.2 != 0) (by simp) (fun c28 => ?_) (fun c28 => ?_)
        · rw [c28] at hvv6
          refine ko [4, 5, 9, 68] 16 (by simp; rfl) ?_
          refine kskip 3 [] (by kernel_rfl) ?_
          refine ko [4, 5, 72] 1 (by simp; rfl) ?_
          refine tops_nil ?_
          cases hvv6
          exact ⟨_, rfl, wk (by simp [weak_iff])⟩
        · rw [c28] at hvv6
          refine ko [4, 5, 6, 7, 9, 10, 56] 4 (by simp; rfl) ?_
          refine tops_split 56 (y5.2.2 != 0) (by simp) (fun c29 => ?_) (fun c29 => ?_)
          · rw [c29] at hvv6
            refine ko [4, 5, 9, 68] 12 (by simp; rfl) ?_
            refine kskip 3 [] (by kernel_rfl) ?_
            refine ko [4, 5, 72] 1 (by simp; rfl) ?_
            refine tops_nil ?_
            cases hvv6
            exact ⟨_, rfl, wk (by simp [weak_iff])⟩
          · rw [c29] at hvv6
            refine ko [4, 5, 6, 9, 10, 60] 4 (by simp; rfl) ?_
            refine tops_split 60 (!y4.2.1) (by simp) (fun c30 => ?_) (fun c30 => ?_)
            · rw [c30] at hvv6
              refine ko [4, 5, 9, 68] 8 (by simp; rfl) ?_
              refine kskip 3 [] (by kernel_rfl) ?_
              refine ko [4, 5, 72] 1 (by simp; rfl) ?_
              refine tops_nil ?_
              cases hvv6
              exact ⟨_, rfl, wk (by simp [weak_iff])⟩
            · rw [c30] at hvv6
              refine ko [4, 5, 6, 9, 64] 4 (by simp; rfl) ?_
              refine tops_split 64 (!y5.2.1) (by simp) (fun c31 => ?_) (fun c31 => ?_)
              · rw [c31] at hvv6
                refine ko [4, 5, 9, 68] 4 (by simp; rfl) ?_
                refine kskip 3 [] (by kernel_rfl) ?_
                refine ko [4, 5, 72] 1 (by simp; rfl) ?_
                refine tops_nil ?_
                cases hvv6
                exact ⟨_, rfl, wk (by simp [weak_iff])⟩
              · rw [c31] at hvv6
                refine ko [4, 5, 9, 68] 4 (by simp; rfl) ?_
                refine tops_split 68 (y4.1 != 0) (by simp) (fun c32 => ?_) (fun c32 => ?_)
                · rw [c32] at hvv6
                  refine kskip 3 [] (by kernel_rfl) ?_
                  refine ko [4, 5, 72] 1 (by simp; rfl) ?_
                  refine tops_nil ?_
                  cases hvv6
                  exact ⟨_, rfl, wk (by simp [weak_iff])⟩
                · rw [c32] at hvv6
                  refine ko [4, 5, 72] 4 (by simp; rfl) ?_
                  refine tops_nil ?_
                  cases hvv6
                  exact ⟨_, rfl, wk (by simp [weak_iff])⟩
    · refine tr_block (tr_iter (fun s14 : Int × (List api_Unit) => ({ nt := 109, env := [(4, .ptr 4 0), (5, .ptr 5 0), (26, .d (.int .i64 ((y2.1.Consumers).length : Int))), (27, .d (.int .i64 s14.1))], box := [(4, [.d (.int .i64 y2.1.Slots), .vec 600088]), (5, [.d (.int .i64 3), .d (.int .i64 2), .vec 33])], vec := [(33, ⟨53, 3, rowsF api_Unit_row s14.2⟩), (600088, ⟨65, 3, rowsF api_Consumer_row y2.1.Consumers⟩)] } : St)) hI1 (wk (by simp [weak_iff])) fun G2 s14 o2 h2 hg2 he2 => ?_)
      unfold law34_SearchEnds_l0 at h2
      refine kr [4, 5, 26, 27, 28] (by simp; rfl) ?_
      refine tr_seq ?_
      refine tr_cond (b := (decide (s14.1 < ((y2.1.Consumers).length : Int)))) (by simp) (fun c33 => ?_) (fun c33 => ?_)
      · rw [if_pos c33] at h2
        refine tr_skip ?_
        refine tr_seq ?_
        refine tr_block ?_
        replace h2 := bnd h2; obtain ⟨_, p9, h2⟩ := h2
        replace p9 := ck_some p9
        have p9' := p9; try simp at p9'
        refine lr (by simp [p9, p9']; rfl) ?_
        refine lr (by simp; rfl) ?_
        exact ⟨_, hg2 _ (Option.some.inj h2), wk (by simp [weak_iff])⟩
      · rw [if_neg (by rw [c33]; decide)] at h2
        refine tr_exit ?_
        exact ⟨_, he2 _ (Option.some.inj h2), wk (by simp [weak_iff])⟩
end Go.Vl
