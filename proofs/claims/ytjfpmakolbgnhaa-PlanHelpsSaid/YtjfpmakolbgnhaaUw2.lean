/- Walks: each function of the given program computes what its mirror says. Conditions: none. -/
import Derived.Test.YtjfpmakolbgnhaaUw1
set_option linter.unusedSimpArgs false
set_option linter.unusedVariables false
namespace Go.Vl
open Go Go.Proofs
set_option maxHeartbeats 1000000 in
theorem slices_IndexFunc_search_found_at_search_end_1_b_ok {a0 : List search_found} {b10 : api_Fleet} {r : Int × api_Fleet} (h0 : slices_IndexFunc_search_found_at_search_end_1_b a0 b10 = some r) : FnOK Try.prog 55 [api_Fleet_av b10] [.d (.slice (rowsF search_found_row a0)), .fn 56 [.ptr (InO 0) 0]] (.d (.int .i64 r.1)) [api_Fleet_av r.2] := by
  unfold slices_IndexFunc_search_found_at_search_end_1_b at h0
  refine fn_ok (nt := 19) (rs := [.tmp 4]) Try.func55 rfl Try.ntmps55 rfl (by simp) (by decide) rfl fun K => ?_
  refine kr [0, 1] (by simp; rfl) ?_
  refine tr_seq ?_
  refine kr [0, 1, 7, 8] (by simp; rfl) ?_
  replace h0 := bnd h0; obtain ⟨e1, hI1, h0⟩ := h0
  refine tjv (fun v1 : Int × (List api_Consumer) => ({ nt := 19, env := [], box := [(1000000, [.d (.int .i64 v1.1), .d (.slice (rowsF api_Consumer_row v1.2))])], vec := [] } : St)) (fun v1 => .inl v1 = e1) (fun v1 hI1e _ W1 => ?_) ?_
  · subst hI1e
    dsimp only at h0
    refine tr_wk W1 ?_
    refine kr [4] (by simp; rfl) ?_
    cases h0
    exact tr_ret ⟨[], by simp, rfl, by simp⟩
  · refine tr_block (tr_iter (fun s2 : Int × Int × (List api_Consumer) => ({ nt := 19, env := [(0, .d (.slice (rowsF search_found_row a0))), (1, .fn 56 [.ptr 1000000 0]), (7, .d (.int .i64 ((a0).length : Int))), (8, .d (.int .i64 s2.1))], box := [(1000000, [.d (.int .i64 s2.2.1), .d (.slice (rowsF api_Consumer_row s2.2.2))])], vec := [] } : St)) hI1 (wk (by simp [weak_iff])) fun G1 s2 o1 h1 hg1 he1 => ?_)
    unfold slices_IndexFunc_search_found_at_search_end_1_b_l0 at h1
    refine kr [0, 1, 7, 8, 9] (by simp; rfl) ?_
    refine tr_seq ?_
    refine tr_cond (b := (decide (s2.1 < ((a0).length : Int)))) (by simp) (fun c5 => ?_) (fun c5 => ?_)
    · rw [if_pos c5] at h1
      refine tr_skip ?_
      refine tr_seq ?_
      refine tr_block ?_
      refine kr [0, 1, 5, 7, 8] (by simp; rfl) ?_
      refine kc ?_
      replace h1 := bnd h1; obtain ⟨x3, p3, h1⟩ := h1
      replace p3 := idx_some p3
      have p3' := p3; try simp at p3'
      refine ko [0, 1, 5, 7, 8, 11, 15] 5 (by simp [p3, p3']; rfl) ?_
      replace h1 := bnd h1; obtain ⟨y4, hy4, h1⟩ := h1
      refine kcallV [0, 1, 5, 7, 8, 16] [1000000] [] [] (search_end_1_cb_ok hy4) rfl rfl rfl Try.call56 (by simp) (by simp; rfl) ?_
      refine tops_nil ?_
      refine tr_cond (b := y4.1) (by simp) (fun c6 => ?_) (fun c6 => ?_)
      · rw [if_pos c6] at h1
        refine kr [4] (by simp; rfl) ?_
        have k1 := he1 _ (Option.some.inj h1)
        subst k1
        dsimp only at h0
        cases h0
        exact tr_ret ⟨[], by simp, rfl, by simp⟩
      · rw [if_neg (by rw [c6]; decide)] at h1
        refine tr_skip ?_
        refine lr (by simp; rfl) ?_
        exact ⟨_, hg1 _ (Option.some.inj h1), wk (by simp [weak_iff])⟩
    · rw [if_neg (by rw [c5]; decide)] at h1
      refine tr_exit ?_
      exact ⟨_, he1 _ (Option.some.inj h1), wk (by simp [weak_iff])⟩
set_option maxHeartbeats 1000000 in
theorem search_end_ok {a0 : api_Fleet} {a1 : api_Rotation} {r : (List search_found) × Int × Int} (h0 : search_end a0 a1 = some r) : FnOK Try.prog 37 [] [.agg (api_Fleet_av a0), .agg (api_Rotation_av a1)] (.tup [.d (.slice (rowsF search_found_row r.1)), .d (.int .i64 r.2.1), .d (.int .i64 r.2.2)]) [] := by
  unfold search_end at h0
  refine fn_ok (nt := 22) (rs := [.tmp 4, .tmp 5, .tmp 6]) Try.func37 rfl Try.ntmps37 rfl (by simp) (by decide) rfl fun K => ?_
  refine kr [2, 3] (by simp; rfl) ?_
  refine tr_seq ?_
  refine kc ?_
  refine ko [2, 3, 9, 10] 2 (by simp; rfl) ?_
  replace h0 := bnd h0; obtain ⟨y1, hy1, h0⟩ := h0
  refine kcall [2, 3, 11] [] (search_check_ok hy1) rfl rfl rfl Try.call31 (by simp) (by simp; rfl) ?_
  refine ko [2, 3, 7] 1 (by simp; rfl) ?_
  refine tops_nil ?_
  refine kr [2, 3, 7, 13] (by simp; rfl) ?_
  refine tr_cond (b := (y1 != 0)) (by simp) (fun c1 => ?_) (fun c1 => ?_)
  · rw [if_pos c1] at h0
    refine kr [4, 5, 6] (by simp; rfl) ?_
    cases h0
    exact tr_ret ⟨[], by simp, rfl, by simp⟩
  · rw [if_neg (by rw [c1]; decide)] at h0
    refine tr_skip ?_
    refine kc ?_
    refine ko [2, 15, 16] 2 (by simp; rfl) ?_
    replace h0 := bnd h0; obtain ⟨y2, hy2, h0⟩ := h0
    refine kcall [2, 17] [] (search_all_ok hy2) rfl rfl rfl Try.call32 (by simp) (by simp; rfl) ?_
    refine ko [2, 8] 1 (by simp; rfl) ?_
    refine tops_nil ?_
    refine kc ?_
    refine ko [18, 19, 20] 3 (by simp; rfl) ?_
    replace h0 := bnd h0; obtain ⟨y3, hy3, h0⟩ := h0
    refine kcall [18, 21] [2] (slices_IndexFunc_search_found_at_search_end_1_b_ok hy3) rfl rfl rfl Try.call55 (by simp) (by simp; rfl) ?_
    refine ko [4, 5, 6] 3 (by simp; rfl) ?_
    refine tops_nil ?_
    cases h0
    exact tr_ret ⟨[], by simp, rfl, by simp⟩
set_option maxHeartbeats 1000000 in
theorem search_Distance_ok {a0 : api_Fleet} {a1 : api_Rotation} {r : Int × Bool × Int} (h0 : search_Distance a0 a1 = some r) : FnOK Try.prog 17 [] [.agg (api_Fleet_av a0), .agg (api_Rotation_av a1)] (.tup [.d (.int .i64 r.1), .d (.bool r.2.1), .d (.int .i64 r.2.2)]) [] := by
  unfold search_Distance at h0
  refine fn_ok (nt := 25) (rs := [.tmp 4, .tmp 5, .tmp 6]) Try.func17 rfl Try.ntmps17 rfl (by simp) (by decide) rfl fun K => ?_
  refine kr [2, 3] (by simp; rfl) ?_
  refine kc ?_
  refine ko [11, 12] 2 (by simp; rfl) ?_
  replace h0 := bnd h0; obtain ⟨y1, hy1, h0⟩ := h0
  refine kcall [13] [] (search_end_ok hy1) rfl rfl rfl Try.call37 (by simp) (by simp; rfl) ?_
  refine ko [7, 8, 9] 7 (by simp; rfl) ?_
  refine tops_nil ?_
  refine tr_seq ?_
  refine kr [7, 8, 9, 18] (by simp; rfl) ?_
  refine tr_cond (b := (decide (y1.2.1 < 0))) (by simp) (fun c1 => ?_) (fun c1 => ?_)
  · rw [if_pos c1] at h0
    refine kr [4, 5, 6] (by simp; rfl) ?_
    cases h0
    exact tr_ret ⟨[], by simp, rfl, by simp⟩
  · rw [if_neg (by rw [c1]; decide)] at h0
    refine tr_skip ?_
    replace h0 := bnd h0; obtain ⟨x2, p1, h0⟩ := h0
    replace p1 := idx_some p1
    have p1' := p1; try simp at p1'
    refine kr [4, 5, 6] (by simp [p1, p1']; rfl) ?_
    cases h0
    exact tr_ret ⟨[], by simp, rfl, by simp⟩
set_option maxHeartbeats 1000000 in
theorem law34_awake_ok  {r : Bool} (h0 : law34_awake = some r) : FnOK Try.prog 8 [] [] (.d (.bool r)) [] := by
  unfold law34_awake at h0
  refine fn_ok (nt := 31) (rs := [.tmp 0]) Try.func8 rfl Try.ntmps8 rfl (by simp) (by decide) rfl fun K => ?_
  refine kr [] (by simp; rfl) ?_
  refine kr [1] (by simp; rfl) ?_
  refine kc ?_
  refine ko [1, 11] 1 (by simp; rfl) ?_
  refine tops_wk (wk_frz 8) ?_
  replace h0 := bnd h0; obtain ⟨y1, hy1, h0⟩ := h0
  refine kcall [1, 12] [] (ref32_Start_ok hy1) rfl rfl rfl Try.call22 (by simp) (by simp; rfl) ?_
  refine ko [1, 2] 6 (by simp; rfl) ?_
  refine tops_nil ?_
  refine kc ?_
  refine ko [16, 17] 2 (by simp; rfl) ?_
  replace h0 := bnd h0; obtain ⟨y2, hy2, h0⟩ := h0
  refine kcall [18] [] (search_Distance_ok hy2) rfl rfl rfl Try.call17 (by simp) (by simp; rfl) ?_
  refine ko [4, 5, 6] 7 (by simp; rfl) ?_
  refine tops_nil ?_
  replace h0 := bnd h0; obtain ⟨v3, hvv3, h0⟩ := h0
  refine sjv (fun v3_ : Bool => ({ nt := 31, env := [(0, .d (.bool v3_))], box := [], vec := [] } : St)) (fun v3_ => v3 = v3_) (fun v3_ e => ?_) ?_
  · subst e
    cases h0
    exact tr_ret ⟨[], by simp, rfl, by simp⟩
  · refine kc1 ?_
    refine ko [4, 5, 24] 3 (by simp; rfl) ?_
    refine tops_split 24 (y2.2.2 == 0) (by simp) (fun c5 => ?_) (fun c5 => ?_)
    · rw [c5] at hvv3
      refine ko [4, 27] 3 (by simp; rfl) ?_
      refine tops_split 27 y2.2.1 (by simp) (fun c6 => ?_) (fun c6 => ?_)
      · rw [c6] at hvv3
        refine ko [0] 4 (by simp; rfl) ?_
        refine tops_nil ?_
        cases hvv3
        exact ⟨_, rfl, wk (by simp [weak_iff])⟩
      · rw [c6] at hvv3
        refine ko [0] 4 (by simp; rfl) ?_
        refine tops_nil ?_
        cases hvv3
        exact ⟨_, rfl, wk (by simp [weak_iff])⟩
    · rw [c5] at hvv3
      refine ko [0] 7 (by simp; rfl) ?_
      refine tops_nil ?_
      cases hvv3
      exact ⟨_, rfl, wk (by simp [weak_iff])⟩
set_option maxHeartbeats 1000000 in
theorem ref32_bits_ok {a0 : api_Consumer} {a1 : api_Rotation} {a2 : Int} {r : Bool} (h0 : ref32_bits a0 a1 a2 = some r) : FnOK Try.prog 54 [] [.agg (api_Consumer_av a0), .agg (api_Rotation_av a1), .d (.int .i64 a2)] (.d (.bool r)) [] := by
  unfold ref32_bits at h0
  refine fn_ok (nt := 24) (rs := [.tmp 6]) Try.func54 rfl Try.ntmps54 rfl (by simp) (by decide) rfl fun K => ?_
  refine kr [2, 3, 4] (by simp; rfl) ?_
  replace h0 := bnd h0; obtain ⟨v1, hvv1, h0⟩ := h0
  refine sjv (fun v1_ : Bool => ({ nt := 24, env := [(6, .d (.bool v1_))], box := [], vec := [] } : St)) (fun v1_ => v1 = v1_) (fun v1_ e => ?_) ?_
  · subst e
    cases h0
    exact tr_ret ⟨[], by simp, rfl, by simp⟩
  · refine kc1 ?_
    refine ko [2, 3, 4, 7] 1 (by simp; rfl) ?_
    replace hvv1 := bnd hvv1; obtain ⟨y2, hy2, hvv1⟩ := hvv1
    refine kcall [2, 3, 4, 8] [] (ref32_in_ok hy2) rfl rfl rfl Try.call53 (by simp) (by simp; rfl) ?_
    refine ko [2, 3, 4, 9] 1 (by simp; rfl) ?_
    refine tops_split 9 y2 (by simp) (fun c7 => ?_) (fun c7 => ?_)
    · rw [if_pos c7] at hvv1
      refine ko [2, 3, 16] 7 (by simp; rfl) ?_
      refine tops_split 16 ((bAndNot .i64 a2 a1.Known) == 0) (by simp) (fun c8 => ?_) (fun c8 => ?_)
      · rw [if_pos c8] at hvv1
        refine ko [3, 16, 19] 3 (by simp; rfl) ?_
        refine tops_split 19 (a2 != 3) (by simp) (fun c9 => ?_) (fun c9 => ?_)
        · rw [if_pos c9] at hvv1
          refine ko [6] 5 (by simp; rfl) ?_
          refine tops_nil ?_
          cases hvv1
          exact ⟨_, rfl, wk (by simp [weak_iff])⟩
        · rw [if_neg (by rw [c9]; decide)] at hvv1
          refine ko [6] 5 (by simp; rfl) ?_
          refine tops_nil ?_
          cases hvv1
          exact ⟨_, rfl, wk (by simp [weak_iff])⟩
      · rw [if_neg (by rw [c8]; decide)] at hvv1
        refine kskip 6 [] (by kernel_rfl) ?_
        refine ko [6] 2 (by simp; rfl) ?_
        refine tops_nil ?_
        cases hvv1
        exact ⟨_, rfl, wk (by simp [weak_iff])⟩
    · rw [if_neg (by rw [c7]; decide)] at hvv1
      refine kskip 5 [] (by kernel_rfl) ?_
      refine ko [2, 3, 16] 2 (by simp; rfl) ?_
      refine kskip 6 [] (by kernel_rfl) ?_
      refine ko [6] 2 (by simp; rfl) ?_
      refine tops_nil ?_
      cases hvv1
      exact ⟨_, rfl, wk (by simp [weak_iff])⟩
set_option maxHeartbeats 1000000 in
theorem ref32_Right_ok {a0 : api_Fleet} {a1 : api_Rotation} {r : Bool} (h0 : ref32_Right a0 a1 = some r) : FnOK Try.prog 33 [] [.agg (api_Fleet_av a0), .agg (api_Rotation_av a1)] (.d (.bool r)) [] := by
  unfold ref32_Right at h0
  refine fn_ok (nt := 111) (rs := [.tmp 4]) Try.func33 rfl Try.ntmps33 rfl (by simp) (by decide) rfl fun K => ?_
  refine kr [2, 3] (by simp; rfl) ?_
  refine tr_seq ?_
  replace h0 := bnd h0; obtain ⟨v1, hvv1, h0⟩ := h0
  refine sjv (fun v1_ : Bool => ({ nt := 111, env := [(2, .ptr 2 0), (3, .ptr 3 0), (53, .d (.bool v1_))], box := [(2, [.d (.int .i64 a0.Slots), .d (.slice (rowsF api_Consumer_row a0.Consumers))]), (3, [.d (.int .i64 a1.Known), .d (.int .i64 a1.Valid), .d (.slice (rowsF api_Unit_row a1.Units))])], vec := [] } : St)) (fun v1_ => v1 = v1_) (fun v1_ e => ?_) ?_
  · subst e
    refine tr_cond (b := v1) (by simp) (fun c23 => ?_) (fun c23 => ?_)
    · rw [if_pos c23] at h0
      refine kr [4] (by simp; rfl) ?_
      cases h0
      exact tr_ret ⟨[], by simp, rfl, by simp⟩
    · rw [if_neg (by rw [c23]; decide)] at h0
      refine tr_skip ?_
      refine tr_seq ?_
      refine kr [2, 3, 55, 56, 57] (by simp; rfl) ?_
      replace h0 := bnd h0; obtain ⟨e1, hI1, h0⟩ := h0
      refine tjv (fun v2 : Unit => ({ nt := 111, env := [], box := [], vec := [] } : St)) (fun v2 => .inl v2 = e1) (fun v2 hI1e _ W1 => ?_) ?_
      · subst hI1e
        dsimp only at h0
        refine tr_wk W1 ?_
        refine kr [4] (by simp; rfl) ?_
        cases h0
        exact tr_ret ⟨[], by simp, rfl, by simp⟩
      · refine tr_block (tr_iter (fun s3 : Int => ({ nt := 111, env := [(2, .ptr 2 0), (3, .ptr 3 0), (55, .d (.slice (rowsF api_Unit_row a1.Units))), (56, .d (.int .i64 ((a1.Units).length : Int))), (57, .d (.int .i64 s3))], box := [(2, [.d (.int .i64 a0.Slots), .d (.slice (rowsF api_Consumer_row a0.Consumers))]), (3, [.d (.int .i64 a1.Known), .d (.int .i64 a1.Valid), .d (.slice (rowsF api_Unit_row a1.Units))])], vec := [] } : St)) hI1 (wk (by simp [weak_iff])) fun G1 s3 o1 h1 hg1 he1 => ?_)
        unfold ref32_Right_l0 at h1
        refine kr [2, 3, 55, 56, 57, 58] (by simp; rfl) ?_
        refine tr_seq ?_
        refine tr_cond (b := (decide (s3 < ((a1.Units).length : Int)))) (by simp) (fun c58 => ?_) (fun c58 => ?_)
        · rw [if_pos c58] at h1
          refine tr_skip ?_
          refine tr_seq ?_
          refine tr_block ?_
          replace h1 := bnd h1; obtain ⟨x4, p5, h1⟩ := h1
          replace p5 := idx_some p5
          have p5' := p5; try simp at p5'
          refine kr [2, 3, 5, 6, 55, 56, 57] (by simp [p5, p5']; rfl) ?_
          replace h1 := bnd h1; obtain ⟨x5, p6, h1⟩ := h1
          replace p6 := idx_some p6
          have p6' := p6; try simp at p6'
          refine kr [2, 3, 6, 7, 55, 56, 57] (by simp [p6, p6']; rfl) ?_
          replace h1 := bnd h1; obtain ⟨v6, hvv6, h1⟩ := h1
          refine sjv (fun v6_ : Bool => ({ nt := 111, env := [(2, .ptr 2 0), (3, .ptr 3 0), (55, .d (.slice (rowsF api_Unit_row a1.Units))), (56, .d (.int .i64 ((a1.Units).length : Int))), (57, .d (.int .i64 s3)), (109, .d (.bool v6_))], box := [(2, [.d (.int .i64 a0.Slots), .d (.slice (rowsF api_Consumer_row a0.Consumers))]), (3, [.d (.int .i64 a1.Known), .d (.int .i64 a1.Valid), .d (.slice (rowsF api_Unit_row a1.Units))])], vec := [] } : St)) (fun v6_ => v6 = v6_) (fun v6_ e => ?_) ?_
          · subst e
            refine tr_cond (b := v6) (by simp) (fun c89 => ?_) (fun c89 => ?_)
            · rw [if_pos c89] at h1
              refine kr [4] (by simp; rfl) ?_
              have k1 := he1 _ (Option.some.inj h1)
              subst k1
              dsimp only at h0
              cases h0
              exact tr_ret ⟨[], by simp, rfl, by simp⟩
            · rw [if_neg (by rw [c89]; decide)] at h1
              refine tr_skip ?_
              refine lr (by simp; rfl) ?_
              exact ⟨_, hg1 _ (Option.some.inj h1), wk (by simp [weak_iff])⟩
          · refine kc1 ?_
            refine ko [2, 3, 6, 7, 55, 56, 57, 67, 68, 70] 4 (by simp; rfl) ?_
            replace hvv6 := bnd hvv6; obtain ⟨y7, hy7, hvv6⟩ := hvv6
            refine kcall [2, 3, 6, 7, 55, 56, 57, 71] [] (ref32_bits_ok hy7) rfl rfl rfl Try.call54 (by simp) (by simp; rfl) ?_
            refine ko [2, 3, 6, 7, 55, 56, 57, 73] 2 (by simp; rfl) ?_
            refine tops_split 73 (!y7) (by simp) (fun c90 => ?_) (fun c90 => ?_)
            · rw [if_pos c90] at hvv6
              refine kskip 8 [] (by kernel_rfl) ?_
              refine ko [2, 3, 6, 7, 55, 56, 57, 83] 2 (by simp; rfl) ?_
              refine kskip 10 [] (by kernel_rfl) ?_
              refine ko [2, 3, 6, 7, 55, 56, 57, 95] 2 (by simp; rfl) ?_
              refine kskip 13 [] (by kernel_rfl) ?_
              refine ko [2, 3, 55, 56, 57, 109] 1 (by simp; rfl) ?_
              refine tops_nil ?_
              cases hvv6
              exact ⟨_, rfl, wk (by simp [weak_iff])⟩
            · rw [if_neg (by rw [c90]; decide)] at hvv6
              refine ko [2, 3, 6, 7, 55, 56, 57, 73, 74, 75, 76, 77] 4 (by simp; rfl) ?_
              refine tops_split 77 (!x4.Up) (by simp) (fun c91 => ?_) (fun c91 => ?_)
              · rw [if_pos c91] at hvv6
                refine ko [2, 3, 6, 7, 55, 56, 57, 74, 75, 76, 77, 78, 79, 80, 81, 83] 6 (by simp; rfl) ?_
                refine tops_split 83 (x4.Used != 0) (by simp) (fun c92 => ?_) (fun c92 => ?_)
                · rw [if_pos c92] at hvv6
                  refine kskip 10 [] (by kernel_rfl) ?_
                  refine ko [2, 3, 6, 7, 55, 56, 57, 74, 75, 76, 77, 78, 79, 80, 81, 95] 2 (by simp; rfl) ?_
                  refine kskip 13 [] (by kernel_rfl) ?_
                  refine ko [2, 3, 55, 56, 57, 74, 75, 76, 77, 78, 79, 80, 81, 109] 1 (by simp; rfl) ?_
                  refine tops_nil ?_
                  cases hvv6
                  exact ⟨_, rfl, wk (by simp [weak_iff])⟩
                · rw [if_neg (by rw [c92]; decide)] at hvv6
                  refine ko [2, 3, 6, 7, 55, 56, 57, 74, 75, 76, 77, 78, 79, 80, 81, 83, 84, 85, 86] 3 (by simp; rfl) ?_
                  refine tops_split 86 x4.Up (by simp) (fun c93 => ?_) (fun c93 => ?_)
                  · rw [if_pos c93] at hvv6
                    refine ko [2, 3, 6, 7, 55, 56, 57, 74, 75, 76, 77, 78, 79, 80, 81, 83, 84, 85, 86, 87, 88, 89, 90] 4 (by simp; rfl) ?_
                    replace hvv6 := bnd hvv6; obtain ⟨y8, hy8, hvv6⟩ := hvv6
                    refine kcall [2, 3, 6, 7, 55, 56, 57, 74, 75, 76, 77, 78, 79, 80, 81, 83, 84, 85, 86, 87, 88, 89, 90, 91] [] (ref32_bits_ok hy8) rfl rfl rfl Try.call54 (by simp) (by simp; rfl) ?_
                    refine ko [2, 3, 6, 7, 55, 56, 57, 74, 75, 76, 77, 78, 79, 80, 81, 84, 85, 86, 87, 88, 89, 90, 91, 92, 93, 95] 4 (by simp; rfl) ?_
                    refine tops_split 95 (!y8) (by simp) (fun c94 => ?_) (fun c94 => ?_)
                    · rw [if_pos c94] at hvv6
                      refine kskip 13 [] (by kernel_rfl) ?_
                      refine ko [2, 3, 55, 56, 57, 74, 75, 76, 77, 78, 79, 80, 81, 84, 85, 86, 87, 88, 89, 90, 91, 92, 93, 109] 1 (by simp; rfl) ?_
                      refine tops_nil ?_
                      cases hvv6
                      exact ⟨_, rfl, wk (by simp [weak_iff])⟩
                    · rw [if_neg (by rw [c94]; decide)] at hvv6
                      refine ko [2, 3, 6, 7, 55, 56, 57, 74, 75, 76, 77, 78, 79, 80, 81, 84, 85, 86, 87, 88, 89, 90, 91, 92, 93, 95, 96, 97, 98] 3 (by simp; rfl) ?_
                      refine tops_split 98 x4.Up (by simp) (fun c95 => ?_) (fun c95 => ?_)
                      · rw [if_pos c95] at hvv6
                        refine ko [2, 3, 6, 55, 56, 57, 74, 75, 76, 77, 78, 79, 80, 81, 84, 85, 86, 87, 88, 89, 90, 91, 92, 93, 95, 96, 97, 98, 99, 100, 101, 102] 4 (by simp; rfl) ?_
                        refine tops_split 102 x5.Live (by simp) (fun c96 => ?_) (fun c96 => ?_)
                        · rw [if_pos c96] at hvv6
                          refine ko [2, 3, 55, 56, 57, 74, 75, 76, 77, 78, 79, 80, 81, 84, 85, 86, 87, 88, 89, 90, 91, 92, 93, 96, 97, 98, 99, 100, 101, 102, 103, 104, 105, 106, 107, 108, 109] 7 (by simp; rfl) ?_
                          refine tops_nil ?_
                          cases hvv6
                          exact ⟨_, rfl, wk (by simp [weak_iff])⟩
                        · rw [if_neg (by rw [c96]; decide)] at hvv6
                          refine kskip 5 [] (by kernel_rfl) ?_
                          refine ko [2, 3, 55, 56, 57, 74, 75, 76, 77, 78, 79, 80, 81, 84, 85, 86, 87, 88, 89, 90, 91, 92, 93, 96, 97, 98, 99, 100, 101, 102, 108, 109] 2 (by simp; rfl) ?_
                          refine tops_nil ?_
                          cases hvv6
                          exact ⟨_, rfl, wk (by simp [weak_iff])⟩
                      · rw [if_neg (by rw [c95]; decide)] at hvv6
                        refine ko [2, 3, 6, 55, 56, 57, 74, 75, 76, 77, 78, 79, 80, 81, 84, 85, 86, 87, 88, 89, 90, 91, 92, 93, 95, 96, 97, 98, 99, 100, 101, 102] 4 (by simp; rfl) ?_
                        refine kskip 5 [] (by kernel_rfl) ?_
                        refine ko [2, 3, 55, 56, 57, 74, 75, 76, 77, 78, 79, 80, 81, 84, 85, 86, 87, 88, 89, 90, 91, 92, 93, 96, 97, 98, 99, 100, 101, 102, 108, 109] 2 (by simp; rfl) ?_
                        refine tops_nil ?_
                        cases hvv6
                        exact ⟨_, rfl, wk (by simp [weak_iff])⟩
                  · rw [if_neg (by rw [c93]; decide)] at hvv6
                    refine kskip 6 [] (by kernel_rfl) ?_
                    refine ko [2, 3, 6, 7, 55, 56, 57, 74, 75, 76, 77, 78, 79, 80, 81, 84, 85, 86, 93, 95, 96, 97, 98] 6 (by simp; rfl) ?_
                    refine tops_split 98 x4.Up (by simp) (fun c97 => ?_) (fun c97 => ?_)
                    · rw [if_pos c97] at hvv6
                      refine ko [2, 3, 6, 55, 56, 57, 74, 75, 76, 77, 78, 79, 80, 81, 84, 85, 86, 93, 95, 96, 97, 98, 99, 100, 101, 102] 4 (by simp; rfl) ?_
                      refine tops_split 102 x5.Live (by simp) (fun c98 => ?_) (fun c98 => ?_)
                      · rw [if_pos c98] at hvv6
                        refine ko [2, 3, 55, 56, 57, 74, 75, 76, 77, 78, 79, 80, 81, 84, 85, 86, 93, 96, 97, 98, 99, 100, 101, 102, 103, 104, 105, 106, 107, 108, 109] 7 (by simp; rfl) ?_
                        refine tops_nil ?_
                        cases hvv6
                        exact ⟨_, rfl, wk (by simp [weak_iff])⟩
                      · rw [if_neg (by rw [c98]; decide)] at hvv6
                        refine kskip 5 [] (by kernel_rfl) ?_
                        refine ko [2, 3, 55, 56, 57, 74, 75, 76, 77, 78, 79, 80, 81, 84, 85, 86, 93, 96, 97, 98, 99, 100, 101, 102, 108, 109] 2 (by simp; rfl) ?_
                        refine tops_nil ?_
                        cases hvv6
                        exact ⟨_, rfl, wk (by simp [weak_iff])⟩
                    · rw [if_neg (by rw [c97]; decide)] at hvv6
                      refine ko [2, 3, 6, 55, 56, 57, 74, 75, 76, 77, 78, 79, 80, 81, 84, 85, 86, 93, 95, 96, 97, 98, 99, 100, 101, 102] 4 (by simp; rfl) ?_
                      refine kskip 5 [] (by kernel_rfl) ?_
                      refine ko [2, 3, 55, 56, 57, 74, 75, 76, 77, 78, 79, 80, 81, 84, 85, 86, 93, 96, 97, 98, 99, 100, 101, 102, 108, 109] 2 (by simp; rfl) ?_
                      refine tops_nil ?_
                      cases hvv6
                      exact ⟨_, rfl, wk (by simp [weak_iff])⟩
              · rw [if_neg (by rw [c91]; decide)] at hvv6
                refine kskip 3 [] (by kernel_rfl) ?_
                refine ko [2, 3, 6, 7, 55, 56, 57, 74, 75, 76, 77, 81, 83, 84, 85, 86] 6 (by simp; rfl) ?_
                refine tops_split 86 x4.Up (by simp) (fun c99 => ?_) (fun c99 => ?_)
                · rw [if_pos c99] at hvv6
                  refine ko [2, 3, 6, 7, 55, 56, 57, 74, 75, 76, 77, 81, 83, 84, 85, 86, 87, 88, 89, 90] 4 (by simp; rfl) ?_
                  replace hvv6 := bnd hvv6; obtain ⟨y9, hy9, hvv6⟩ := hvv6
                  refine kcall [2, 3, 6, 7, 55, 56, 57, 74, 75, 76, 77, 81, 83, 84, 85, 86, 87, 88, 89, 90, 91] [] (ref32_bits_ok hy9) rfl rfl rfl Try.call54 (by simp) (by simp; rfl) ?_
                  refine ko [2, 3, 6, 7, 55, 56, 57, 74, 75, 76, 77, 81, 84, 85, 86, 87, 88, 89, 90, 91, 92, 93, 95] 4 (by simp; rfl) ?_
                  refine tops_split 95 (!y9) (by simp) (fun c100 => ?_) (fun c100 => ?_)
                  · rw [if_pos c100] at hvv6
                    refine kskip 13 [] (by kernel_rfl) ?_
                    refine ko [2, 3, 55, 56, 57, 74, 75, 76, 77, 81, 84, 85, 86, 87, 88, 89, 90, 91, 92, 93, 109] 1 (by simp; rfl) ?_
                    refine tops_nil ?_
                    cases hvv6
                    exact ⟨_, rfl, wk (by simp [weak_iff])⟩
                  · rw [if_neg (by rw [c100]; decide)] at hvv6
                    refine ko [2, 3, 6, 7, 55, 56, 57, 74, 75, 76, 77, 81, 84, 85, 86, 87, 88, 89, 90, 91, 92, 93, 95, 96, 97, 98] 3 (by simp; rfl) ?_
                    refine tops_split 98 x4.Up (by simp) (fun c101 => ?_) (fun c101 => ?_)
                    · rw [if_pos c101] at hvv6
                      refine ko [2, 3, 6, 55, 56, 57, 74, 75, 76, 77, 81, 84, 85, 86, 87, 88, 89, 90, 91, 92, 93, 95, 96, 97, 98, 99, 100, 101, 102] 4 (by simp; rfl) ?_
                      refine tops_split 102 x5.Live (by simp) (fun c102 => ?_) (fun c102 => ?_)
                      · rw [if_pos c102] at hvv6
                        refine ko [2, 3, 55, 56, 57, 74, 75, 76, 77, 81, 84, 85, 86, 87, 88, 89, 90, 91, 92, 93, 96, 97, 98, 99, 100, 101, 102, 103, 104, 105, 106, 107, 108, 109] 7 (by simp; rfl) ?_
                        refine tops_nil ?_
                        cases hvv6
                        exact ⟨_, rfl, wk (by simp [weak_iff])⟩
                      · rw [if_neg (by rw [c102]; decide)] at hvv6
                        refine kskip 5 [] (by kernel_rfl) ?_
                        refine ko [2, 3, 55, 56, 57, 74, 75, 76, 77, 81, 84, 85, 86, 87, 88, 89, 90, 91, 92, 93, 96, 97, 98, 99, 100, 101, 102, 108, 109] 2 (by simp; rfl) ?_
                        refine tops_nil ?_
                        cases hvv6
                        exact ⟨_, rfl, wk (by simp [weak_iff])⟩
                    · rw [if_neg (by rw [c101]; decide)] at hvv6
                      refine ko [2, 3, 6, 55, 56, 57, 74, 75, 76, 77, 81, 84, 85, 86, 87, 88, 89, 90, 91, 92, 93, 95, 96, 97, 98, 99, 100, 101, 102] 4 (by simp; rfl) ?_
                      refine kskip 5 [] (by kernel_rfl) ?_
                      refine ko [2, 3, 55, 56, 57, 74, 75, 76, 77, 81, 84, 85, 86, 87, 88, 89, 90, 91, 92, 93, 96, 97, 98, 99, 100, 101, 102, 108, 109] 2 (by simp; rfl) ?_
                      refine tops_nil ?_
                      cases hvv6
                      exact ⟨_, rfl, wk (by simp [weak_iff])⟩
                · rw [if_neg (by rw [c99]; decide)] at hvv6
                  refine kskip 6 [] (by kernel_rfl) ?_
                  refine ko [2, 3, 6, 7, 55, 56, 57, 74, 75, 76, 77, 81, 84, 85, 86, 93, 95, 96, 97, 98] 6 (by simp; rfl) ?_
                  refine tops_split 98 x4.Up (by simp) (fun c103 => ?_) (fun c103 => ?_)
                  · rw [if_pos c103] at hvv6
                    refine ko [2, 3, 6, 55, 56, 57, 74, 75, 76, 77, 81, 84, 85, 86, 93, 95, 96, 97, 98, 99, 100, 101, 102] 4 (by simp; rfl) ?_
                    refine tops_split 102 x5.Live (by simp) (fun c104 => ?_) (fun c104 => ?_)
                    · rw [if_pos c104] at hvv6
                      refine ko [2, 3, 55, 56, 57, 74, 75, 76, 77, 81, 84, 85, 86, 93, 96, 97, 98, 99, 100, 101, 102, 103, 104, 105, 106, 107, 108, 109] 7 (by simp; rfl) ?_
                      refine tops_nil ?_
                      cases hvv6
                      exact ⟨_, rfl, wk (by simp [weak_iff])⟩
                    · rw [if_neg (by rw [c104]; decide)] at hvv6
                      refine kskip 5 [] (by kernel_rfl) ?_
                      refine ko [2, 3, 55, 56, 57, 74, 75, 76, 77, 81, 84, 85, 86, 93, 96, 97, 98, 99, 100, 101, 102, 108, 109] 2 (by simp; rfl) ?_
                      refine tops_nil ?_
                      cases hvv6
                      exact ⟨_, rfl, wk (by simp [weak_iff])⟩
                  · rw [if_neg (by rw [c103]; decide)] at hvv6
                    refine ko [2, 3, 6, 55, 56, 57, 74, 75, 76, 77, 81, 84, 85, 86, 93, 95, 96, 97, 98, 99, 100, 101, 102] 4 (by simp; rfl) ?_
                    refine kskip 5 [] (by kernel_rfl) ?_
                    refine ko [2, 3, 55, 56, 57, 74, 75, 76, 77, 81, 84, 85, 86, 93, 96, 97, 98, 99, 100, 101, 102, 108, 109] 2 (by simp; rfl) ?_
                    refine tops_nil ?_
                    cases hvv6
                    exact ⟨_, rfl, wk (by simp [weak_iff])⟩
        · rw [if_neg (by rw [c58]; decide)] at h1
          refine tr_exit ?_
          exact ⟨_, he1 _ (Option.some.inj h1), wk (by simp [weak_iff])⟩
  · refine kc1 ?_
    refine ko [2, 3, 8] 1 (by simp; rfl) ?_
    replace hvv1 := bnd hvv1; obtain ⟨y12, hy12, hvv1⟩ := hvv1
    refine kcall [2, 3, 9] [] (ref32_Valid_ok hy12) rfl rfl rfl Try.call40 (by simp) (by simp; rfl) ?_
    refine ko [2, 3, 11] 2 (by simp; rfl) ?_
    refine tops_split 11 (!y12) (by simp) (fun c105 => ?_) (fun c105 => ?_)
    · rw [if_pos c105] at hvv1
      refine kskip 8 [] (by kernel_rfl) ?_
      refine ko [2, 3, 21] 2 (by simp; rfl) ?_
      refine kskip 4 [] (by kernel_rfl) ?_
      refine ko [2, 3, 27] 2 (by simp; rfl) ?_
      refine kskip 6 [] (by kernel_rfl) ?_
      refine ko [2, 3, 35] 2 (by simp; rfl) ?_
      refine kskip 8 [] (by kernel_rfl) ?_
      refine ko [2, 3, 45] 2 (by simp; rfl) ?_
      refine kskip 7 [] (by kernel_rfl) ?_
      refine ko [2, 3, 53] 1 (by simp; rfl) ?_
      refine tops_nil ?_
      cases hvv1
      exact ⟨_, rfl, wk (by simp [weak_iff])⟩
    · rw [if_neg (by rw [c105]; decide)] at hvv1
      refine ko [2, 3, 11, 15] 4 (by simp; rfl) ?_
      refine tops_split 15 (a1.Known != 1) (by simp) (fun c106 => ?_) (fun c106 => ?_)
      · rw [if_pos c106] at hvv1
        refine ko [2, 3, 21] 6 (by simp; rfl) ?_
        refine tops_split 21 (a1.Known != 3) (by simp) (fun c107 => ?_) (fun c107 => ?_)
        · rw [if_pos c107] at hvv1
          refine kskip 4 [] (by kernel_rfl) ?_
          refine ko [2, 3, 27] 2 (by simp; rfl) ?_
          refine kskip 6 [] (by kernel_rfl) ?_
          refine ko [2, 3, 35] 2 (by simp; rfl) ?_
          refine kskip 8 [] (by kernel_rfl) ?_
          refine ko [2, 3, 45] 2 (by simp; rfl) ?_
          refine kskip 7 [] (by kernel_rfl) ?_
          refine ko [2, 3, 53] 1 (by simp; rfl) ?_
          refine tops_nil ?_
          cases hvv1
          exact ⟨_, rfl, wk (by simp [weak_iff])⟩
        · rw [if_neg (by rw [c107]; decide)] at hvv1
          refine ko [2, 3, 21, 23] 2 (by simp; rfl) ?_
          replace hvv1 := bnd hvv1; obtain ⟨y13, hy13, hvv1⟩ := hvv1
          refine kcall [2, 3, 21, 24] [] (ref32_in_ok hy13) rfl rfl rfl Try.call53 (by simp) (by simp; rfl) ?_
          refine ko [2, 3, 27] 3 (by simp; rfl) ?_
          refine tops_split 27 (!y13) (by simp) (fun c108 => ?_) (fun c108 => ?_)
          · rw [if_pos c108] at hvv1
            refine kskip 6 [] (by kernel_rfl) ?_
            refine ko [2, 3, 35] 2 (by simp; rfl) ?_
            refine kskip 8 [] (by kernel_rfl) ?_
            refine ko [2, 3, 45] 2 (by simp; rfl) ?_
            refine kskip 7 [] (by kernel_rfl) ?_
            refine ko [2, 3, 53] 1 (by simp; rfl) ?_
            refine tops_nil ?_
            cases hvv1
            exact ⟨_, rfl, wk (by simp [weak_iff])⟩
          · rw [if_neg (by rw [c108]; decide)] at hvv1
            refine ko [2, 3, 35] 8 (by simp; rfl) ?_
            refine tops_split 35 ((bAndNot .i64 a1.Valid a1.Known) != 0) (by simp) (fun c109 => ?_) (fun c109 => ?_)
            · rw [if_pos c109] at hvv1
              refine kskip 8 [] (by kernel_rfl) ?_
              refine ko [2, 3, 45] 2 (by simp; rfl) ?_
              refine kskip 7 [] (by kernel_rfl) ?_
              refine ko [2, 3, 53] 1 (by simp; rfl) ?_
              refine tops_nil ?_
              cases hvv1
              exact ⟨_, rfl, wk (by simp [weak_iff])⟩
            · rw [if_neg (by rw [c109]; decide)] at hvv1
              refine ko [2, 3, 35, 39] 4 (by simp; rfl) ?_
              refine tops_split 39 (a1.Valid == 3) (by simp) (fun c110 => ?_) (fun c110 => ?_)
              · rw [if_pos c110] at hvv1
                refine ko [2, 3, 45] 6 (by simp; rfl) ?_
                refine tops_split 45 (a0.Slots == 1) (by simp) (fun c111 => ?_) (fun c111 => ?_)
                · rw [if_pos c111] at hvv1
                  refine kskip 7 [] (by kernel_rfl) ?_
                  refine ko [2, 3, 53] 1 (by simp; rfl) ?_
                  refine tops_nil ?_
                  cases hvv1
                  exact ⟨_, rfl, wk (by simp [weak_iff])⟩
                · rw [if_neg (by rw [c111]; decide)] at hvv1
                  refine ko [2, 3, 53] 8 (by simp; rfl) ?_
                  refine tops_nil ?_
                  cases hvv1
                  exact ⟨_, rfl, wk (by simp [weak_iff])⟩
              · rw [if_neg (by rw [c110]; decide)] at hvv1
                refine kskip 3 [] (by kernel_rfl) ?_
                refine ko [2, 3, 53] 11 (by simp; rfl) ?_
                refine tops_nil ?_
                cases hvv1
                exact ⟨_, rfl, wk (by simp [weak_iff])⟩
      · rw [if_neg (by rw [c106]; decide)] at hvv1
        refine kskip 3 [] (by kernel_rfl) ?_
        refine ko [2, 3, 21, 23] 5 (by simp; rfl) ?_
        replace hvv1 := bnd hvv1; obtain ⟨y14, hy14, hvv1⟩ := hvv1
        refine kcall [2, 3, 21, 24] [] (ref32_in_ok hy14) rfl rfl rfl Try.call53 (by simp) (by simp; rfl) ?_
        refine ko [2, 3, 27] 3 (by simp; rfl) ?_
        refine tops_split 27 (!y14) (by simp) (fun c112 => ?_) (fun c112 => ?_)
        · rw [if_pos c112] at hvv1
          refine kskip 6 [] (by kernel_rfl) ?_
          refine ko [2, 3, 35] 2 (by simp; rfl) ?_
          refine kskip 8 [] (by kernel_rfl) ?_
          refine ko [2, 3, 45] 2 (by simp; rfl) ?_
          refine kskip 7 [] (by kernel_rfl) ?_
          refine ko [2, 3, 53] 1 (by simp; rfl) ?_
          refine tops_nil ?_
          cases hvv1
          exact ⟨_, rfl, wk (by simp [weak_iff])⟩
        · rw [if_neg (by rw [c112]; decide)] at hvv1
          refine ko [2, 3, 35] 8 (by simp; rfl) ?_
          refine tops_split 35 ((bAndNot .i64 a1.Valid a1.Known) != 0) (by simp) (fun c113 => ?_) (fun c113 => ?_)
          · rw [if_pos c113] at hvv1
            refine kskip 8 [] (by kernel_rfl) ?_
            refine ko [2, 3, 45] 2 (by simp; rfl) ?_
            refine kskip 7 [] (by kernel_rfl) ?_
            refine ko [2, 3, 53] 1 (by simp; rfl) ?_
            refine tops_nil ?_
            cases hvv1
            exact ⟨_, rfl, wk (by simp [weak_iff])⟩
          · rw [if_neg (by rw [c113]; decide)] at hvv1
            refine ko [2, 3, 35, 39] 4 (by simp; rfl) ?_
            refine tops_split 39 (a1.Valid == 3) (by simp) (fun c114 => ?_) (fun c114 => ?_)
            · rw [if_pos c114] at hvv1
              refine ko [2, 3, 45] 6 (by simp; rfl) ?_
              refine tops_split 45 (a0.Slots == 1) (by simp) (fun c115 => ?_) (fun c115 => ?_)
              · rw [if_pos c115] at hvv1
                refine kskip 7 [] (by kernel_rfl) ?_
                refine ko [2, 3, 53] 1 (by simp; rfl) ?_
                refine tops_nil ?_
                cases hvv1
                exact ⟨_, rfl, wk (by simp [weak_iff])⟩
              · rw [if_neg (by rw [c115]; decide)] at hvv1
                refine ko [2, 3, 53] 8 (by simp; rfl) ?_
                refine tops_nil ?_
                cases hvv1
                exact ⟨_, rfl, wk (by simp [weak_iff])⟩
            · rw [if_neg (by rw [c114]; decide)] at hvv1
              refine kskip 3 [] (by kernel_rfl) ?_
              refine ko [2, 3, 53] 11 (by simp; rfl) ?_
              refine tops_nil ?_
              cases hvv1
              exact ⟨_, rfl, wk (by simp [weak_iff])⟩
set_option maxHeartbeats 1000000 in
theorem ref33_kind_ok {a0 : api_Fleet} {a1 : api_Step} {r : Bool} (h0 : ref33_kind a0 a1 = some r) : FnOK Try.prog 34 [] [.agg (api_Fleet_av a0), .agg (api_Step_av a1)] (.d (.bool r)) [] := by
  unfold ref33_kind at h0
  refine fn_ok (nt := 31) (rs := [.tmp 4]) Try.func34 rfl Try.ntmps34 rfl (by simp) (by decide) rfl fun K => ?_
  refine kr [2, 3] (by simp; rfl) ?_
  refine tr_seq ?_
  refine kr [2, 3, 6] (by simp; rfl) ?_
  refine tr_block ?_
  refine sjv (fun v1 : Bool => ({ nt := 31, env := [(2, .ptr 2 0), (3, .ptr 3 0), (6, .d (.int .i64 a1.Kind)), (7, .d (.bool v1))], box := [(2, [.d (.int .i64 a0.Slots), .d (.slice (rowsF api_Consumer_row a0.Consumers))]), (3, [.d (.int .i64 a1.Kind), .d (.int .i64 a1.Unit)])], vec := [] } : St)) (fun v1 => ref33_kind_j0 a1 a0 v1 = some r) (fun v1 h0 => ?_) ?_
  · unfold ref33_kind_j0 at h0
    refine tr_cond (b := v1) (by simp) (fun c4 => ?_) (fun c4 => ?_)
    · rw [if_pos c4] at h0
      refine kr [4] (by simp; rfl) ?_
      cases h0
      exact tr_ret ⟨[], by simp, rfl, by simp⟩
    · rw [if_neg (by rw [c4]; decide)] at h0
      refine sjv (fun v2 : Bool => ({ nt := 31, env := [(2, .ptr 2 0), (3, .ptr 3 0), (15, .d (.bool v2))], box := [(2, [.d (.int .i64 a0.Slots), .d (.slice (rowsF api_Consumer_row a0.Consumers))]), (3, [.d (.int .i64 a1.Kind), .d (.int .i64 a1.Unit)])], vec := [] } : St)) (fun v2 => ref33_kind_j1 a1 a0 v2 = some r) (fun v2 h0 => ?_) ?_
      · unfold ref33_kind_j1 at h0
        refine tr_cond (b := v2) (by simp) (fun c8 => ?_) (fun c8 => ?_)
        · rw [if_pos c8] at h0
          replace h0 := bnd h0; obtain ⟨v3, hvv3, h0⟩ := h0
          refine sjv (fun v3_ : Bool => ({ nt := 31, env := [(4, .d (.bool v3_))], box := [], vec := [] } : St)) (fun v3_ => v3 = v3_) (fun v3_ e => ?_) ?_
          · subst e
            cases h0
            exact tr_ret ⟨[], by simp, rfl, by simp⟩
          · refine kc1 ?_
            refine ko [2, 3, 23] 4 (by simp; rfl) ?_
            refine tops_split 23 (decide (0 ≤ a1.Unit)) (by simp) (fun c11 => ?_) (fun c11 => ?_)
            · rw [c11] at hvv3
              refine ko [4] 8 (by simp; rfl) ?_
              refine tops_nil ?_
              cases hvv3
              exact ⟨_, rfl, wk (by simp [weak_iff])⟩
            · rw [c11] at hvv3
              refine kskip 6 [] (by kernel_rfl) ?_
              refine ko [4] 2 (by simp; rfl) ?_
              refine tops_nil ?_
              cases hvv3
              exact ⟨_, rfl, wk (by simp [weak_iff])⟩
        · rw [if_neg (by rw [c8]; decide)] at h0
          refine tr_skip ?_
          refine kr [4] (by simp; rfl) ?_
          cases h0
          exact tr_ret ⟨[], by simp, rfl, by simp⟩
      · refine kr [2, 3, 6, 15] (by simp; rfl) ?_
        refine tr_cond (b := (a1.Kind == 4)) (by simp) (fun c12 => ?_) (fun c12 => ?_)
        · rw [if_pos c12] at h0
          refine tr_skip ?_
          exact ⟨_, h0, wk (by simp [weak_iff])⟩
        · rw [if_neg (by rw [c12]; decide)] at h0
          refine kr [2, 3, 6, 15] (by simp; rfl) ?_
          refine tr_cond (b := (a1.Kind == 5)) (by simp) (fun c13 => ?_) (fun c13 => ?_)
          · rw [if_pos c13] at h0
            refine tr_skip ?_
            exact ⟨_, h0, wk (by simp [weak_iff])⟩
          · rw [if_neg (by rw [c13]; decide)] at h0
            refine kr [2, 3, 6, 15] (by simp; rfl) ?_
            refine tr_cond (b := (a1.Kind == 6)) (by simp) (fun c14 => ?_) (fun c14 => ?_)
            · rw [if_pos c14] at h0
              refine tr_skip ?_
              exact ⟨_, h0, wk (by simp [weak_iff])⟩
            · rw [if_neg (by rw [c14]; decide)] at h0
              refine lr (by simp; rfl) ?_
              exact ⟨_, h0, wk (by simp [weak_iff])⟩
  · refine kr [2, 3, 6, 7] (by simp; rfl) ?_
    refine tr_cond (b := (a1.Kind == 1)) (by simp) (fun c15 => ?_) (fun c15 => ?_)
    · rw [if_pos c15] at h0
      refine tr_skip ?_
      exact ⟨_, h0, wk (by simp [weak_iff])⟩
    · rw [if_neg (by rw [c15]; decide)] at h0
      refine kr [2, 3, 6, 7] (by simp; rfl) ?_
      refine tr_cond (b := (a1.Kind == 2)) (by simp) (fun c16 => ?_) (fun c16 => ?_)
      · rw [if_pos c16] at h0
        refine tr_skip ?_
        exact ⟨_, h0, wk (by simp [weak_iff])⟩
      · rw [if_neg (by rw [c16]; decide)] at h0
        refine kr [2, 3, 6, 7] (by simp; rfl) ?_
        refine tr_cond (b := (a1.Kind == 3)) (by simp) (fun c17 => ?_) (fun c17 => ?_)
        · rw [if_pos c17] at h0
          refine tr_skip ?_
          exact ⟨_, h0, wk (by simp [weak_iff])⟩
        · rw [if_neg (by rw [c17]; decide)] at h0
          refine lr (by simp; rfl) ?_
          exact ⟨_, h0, wk (by simp [weak_iff])⟩
set_option maxHeartbeats 1000000 in
theorem ref33_do_ok {a0 : api_Fleet} {a1 : api_Rotation} {a2 : api_Step} {r : api_Rotation × Bool} (h0 : ref33_do a0 a1 a2 = some r) : FnOK Try.prog 35 [] [.agg (api_Fleet_av a0), .agg (api_Rotation_av a1), .agg (api_Step_av a2)] (.tup [.agg (api_Rotation_av r.1), .d (.bool r.2)]) [] := by
  unfold ref33_do at h0
  refine fn_ok (nt := 131) (rs := [.cell 6 33, .tmp 7]) Try.func35 rfl Try.ntmps35 rfl (by simp) (by decide) rfl fun K => ?_
  refine kr [3, 4, 5, 6] (by simp; rfl) ?_
  refine kc ?_
  refine ko [3, 4, 5, 6, 12] 1 (by simp; rfl) ?_
  replace h0 := bnd h0; obtain ⟨y1, hy1, h0⟩ := h0
  refine kcallV [3, 4, 5, 6, 13] [] [] [600052] (ref32_Copy_own2_ok hy1) rfl rfl rfl Try.call21 (by simp) (by simp; rfl) ?_
  refine ko [3, 4, 5, 6] 1 (by simp; rfl) ?_
  refine tops_nil ?_
  replace h0 := bnd h0; obtain ⟨_, p1, h0⟩ := h0
  replace p1 := ck_some p1
  have p1' := p1; try simp at p1'
  have p1o : a2.Unit < (((y1.Units)).length : Int) := by omega
  replace h0 := bnd h0; obtain ⟨x2, p2, h0⟩ := h0
  replace p2 := idx_some p2
  have p2' := p2; try simp at p2'
  refine kr [3, 4, 5, 6, 8] (by simp [-getElem?_pos, List.getElem?_cons_zero, List.getElem?_cons_succ, p1, p1o, p2, p1', p2']; rfl) ?_
  replace h0 := bnd h0; obtain ⟨x3, p3, h0⟩ := h0
  replace p3 := idx_some p3
  have p3' := p3; try simp at p3'
  refine kr [3, 4, 5, 6, 8, 9] (by simp [p3, p3']; rfl) ?_
  refine kr [3, 4, 5, 6, 8, 9, 10] (by simp; rfl) ?_
  refine kr [3, 4, 5, 6, 8, 9, 10, 11] (by simp; rfl) ?_
  refine sjv (fun v4 : Bool × Bool × Int × Int => ({ nt := 131, env := [(4, .ptr 4 0), (5, .ptr 5 0), (6, .ptr 6 0), (8, .ptr 8 0), (9, .ptr 9 0), (11, .d (.bool v4.1))], box := [(4, [.d (.int .i64 y1.Known), .d (.int .i64 y1.Valid), .vec 600052]), (5, [.d (.int .i64 a2.Kind), .d (.int .i64 a2.Unit)]), (6, [.d (.int .i64 0), .d (.int .i64 0), .nilS]), (8, [.d (.bool v4.2.1), .d (.int .i64 v4.2.2.1), .d (.int .i64 v4.2.2.2)]), (9, [.d (.int .i64 x3.Pool), .d (.bool x3.Dual), .d (.bool x3.Live)])], vec := [(600052, ⟨53, 3, rowsF api_Unit_row y1.Units⟩)] } : St)) (fun v4 => ref33_do_j0 x3 a2 y1 v4 = some r) (fun v4 h0 => ?_) ?_
  · unfold ref33_do_j0 at h0
    refine sjv (fun v5 : Int => ({ nt := 131, env := [(4, .ptr 4 0), (5, .ptr 5 0), (6, .ptr 6 0), (8, .ptr 8 0), (11, .d (.bool v4.1))], box := [(4, [.d (.int .i64 y1.Known), .d (.int .i64 y1.Valid), .vec 600052]), (5, [.d (.int .i64 a2.Kind), .d (.int .i64 a2.Unit)]), (6, [.d (.int .i64 0), .d (.int .i64 0), .nilS]), (8, [.d (.bool v4.2.1), .d (.int .i64 v4.2.2.1), .d (.int .i64 v5)])], vec := [(600052, ⟨53, 3, rowsF api_Unit_row y1.Units⟩)] } : St)) (fun v5 => ref33_do_j1 a2 y1 v4 v5 = some r) (fun v5 h0 => ?_) ?_
    · unfold ref33_do_j1 at h0
      replace h0 := bnd h0; obtain ⟨_, p4, h0⟩ := h0
      replace p4 := ck_some p4
      have p4' := p4; try simp at p4'
      have p4o : a2.Unit < (((y1.Units)).length : Int) := by omega
      refine kr [4, 6, 11] (by simp [-getElem?_pos, List.getElem?_cons_zero, List.getElem?_cons_succ, p4, p4o, p2, (List.getElem?_eq_some_iff.1 p2.2).1, p4', p2']; rfl) ?_
      refine kr [6, 7] (by simp; rfl) ?_
      cases h0
      exact tr_ret ⟨[600052], by simp, rfl, by simp⟩
    · replace h0 := bnd h0; obtain ⟨v6, hvv6, h0⟩ := h0
      refine sjv (fun v6_ : Bool => ({ nt := 131, env := [(4, .ptr 4 0), (5, .ptr 5 0), (6, .ptr 6 0), (8, .ptr 8 0), (11, .d (.bool v4.1)), (119, .d (.bool v6_))], box := [(4, [.d (.int .i64 y1.Known), .d (.int .i64 y1.Valid), .vec 600052]), (5, [.d (.int .i64 a2.Kind), .d (.int .i64 a2.Unit)]), (6, [.d (.int .i64 0), .d (.int .i64 0), .nilS]), (8, [.d (.bool v4.2.1), .d (.int .i64 v4.2.2.1), .d (.int .i64 v4.2.2.2)])], vec := [(600052, ⟨53, 3, rowsF api_Unit_row y1.Units⟩)] } : St)) (fun v6_ => v6 = v6_) (fun v6_ e => ?_) ?_
      · subst e
        refine tr_cond (b := v6) (by simp) (fun c18 => ?_) (fun c18 => ?_)
        · rw [if_pos c18] at h0
          refine lr (by simp; rfl) ?_
          exact ⟨_, h0, wk (by simp [weak_iff])⟩
        · rw [if_neg (by rw [c18]; decide)] at h0
          refine tr_skip ?_
          exact ⟨_, h0, wk (by simp [weak_iff])⟩
      · refine kc1 ?_
        refine ko [4, 5, 6, 8, 11, 116] 3 (by simp; rfl) ?_
        refine tops_split 116 x3.Live (by simp) (fun c19 => ?_) (fun c19 => ?_)
        · rw [c19] at hvv6
          refine ko [4, 5, 6, 8, 11, 119] 3 (by simp; rfl) ?_
          refine tops_nil ?_
          cases hvv6
          exact ⟨_, rfl, wk (by simp [weak_iff])⟩
        · rw [c19] at hvv6
          refine ko [4, 5, 6, 8, 11, 119] 3 (by simp; rfl) ?_
          refine tops_nil ?_
          cases hvv6
          exact ⟨_, rfl, wk (by simp [weak_iff])⟩
  · refine kr [3, 4, 5, 6, 8, 9, 10, 11, 31] (by simp; rfl) ?_
    refine tr_block ?_
    refine kr [3, 4, 5, 6, 8, 9, 10, 11, 31, 32] (by simp; rfl) ?_
    refine tr_cond (b := (a2.Kind == 1)) (by simp) (fun c20 => ?_) (fun c20 => ?_)
    · rw [if_pos c20] at h0
      refine kr [4, 6, 11] (by simp; rfl) ?_
      refine kr [4, 6, 11] (by simp; rfl) ?_
      refine kr [6, 7] (by simp; rfl) ?_
      cases h0
      exact tr_ret ⟨[600052], by simp, rfl, by simp⟩
    · rw [if_neg (by rw [c20]; decide)] at h0
      refine kr [3, 4, 5, 6, 8, 9, 10, 11, 31, 42] (by simp; rfl) ?_
      refine tr_cond (b := (a2.Kind == 2)) (by simp) (fun c21 => ?_) (fun c21 => ?_)
      · rw [if_pos c21] at h0
        replace h0 := bnd h0; obtain ⟨v7, hvv7, h0⟩ := h0
        refine sjv (fun v7_ : Bool => ({ nt := 131, env := [(4, .ptr 4 0), (6, .ptr 6 0), (11, .d (.bool v7_))], box := [(4, [.d (.int .i64 y1.Known), .d (.int .i64 y1.Valid), .vec 600052]), (6, [.d (.int .i64 0), .d (.int .i64 0), .nilS])], vec := [(600052, ⟨53, 3, rowsF api_Unit_row y1.Units⟩)] } : St)) (fun v7_ => v7 = v7_) (fun v7_ e => ?_) ?_
        · subst e
          refine kr [4, 6, 11] (by simp; rfl) ?_
          refine kr [6, 7] (by simp; rfl) ?_
          cases h0
          exact tr_ret ⟨[600052], by simp, rfl, by simp⟩
        · refine kc1 ?_
          refine ko [3, 4, 6, 45] 2 (by simp; rfl) ?_
          refine tops_split 45 ((bAnd .i64 y1.Known 2) != 0) (by simp) (fun c26 => ?_) (fun c26 => ?_)
          · rw [c26] at hvv7
            refine ko [3, 4, 6, 50] 5 (by simp; rfl) ?_
            refine tops_split 50 (y1.Valid == 1) (by simp) (fun c27 => ?_) (fun c27 => ?_)
            · rw [c27] at hvv7
              refine ko [4, 6, 11] 5 (by simp; rfl) ?_
              refine tops_nil ?_
              cases hvv7
              exact ⟨_, rfl, wk (by simp [weak_iff])⟩
            · rw [c27] at hvv7
              refine kskip 3 [] (by kernel_rfl) ?_
              refine ko [4, 6, 11] 2 (by simp; rfl) ?_
              refine tops_nil ?_
              cases hvv7
              exact ⟨_, rfl, wk (by simp [weak_iff])⟩
          · rw [c26] at hvv7
            refine kskip 3 [] (by kernel_rfl) ?_
            refine ko [3, 4, 6, 50] 2 (by simp; rfl) ?_
            refine kskip 3 [] (by kernel_rfl) ?_
            refine ko [4, 6, 11] 2 (by simp; rfl) ?_
            refine tops_nil ?_
            cases hvv7
            exact ⟨_, rfl, wk (by simp [weak_iff])⟩
      · rw [if_neg (by rw [c21]; decide)] at h0
        refine kr [4, 5, 6, 8, 9, 10, 11, 31, 61] (by simp; rfl) ?_
        refine tr_cond (b := (a2.Kind == 3)) (by simp) (fun c28 => ?_) (fun c28 => ?_)
        · rw [if_pos c28] at h0
          replace h0 := bnd h0; obtain ⟨v8, hvv8, h0⟩ := h0
          refine sjv (fun v8_ : Bool => ({ nt := 131, env := [(4, .ptr 4 0), (6, .ptr 6 0), (11, .d (.bool v8_))], box := [(4, [.d (.int .i64 y1.Known), .d (.int .i64 y1.Valid), .vec 600052]), (6, [.d (.int .i64 0), .d (.int .i64 0), .nilS])], vec := [(600052, ⟨53, 3, rowsF api_Unit_row y1.Units⟩)] } : St)) (fun v8_ => v8 = v8_) (fun v8_ e => ?_) ?_
          · subst e
            refine kr [4, 6, 11] (by simp; rfl) ?_
            refine kr [6, 7] (by simp; rfl) ?_
            cases h0
            exact tr_ret ⟨[600052], by simp, rfl, by simp⟩
          · refine kc1 ?_
            refine ko [4, 6, 64] 2 (by simp; rfl) ?_
            refine tops_split 64 ((bAnd .i64 y1.Known 2) != 0) (by simp) (fun c31 => ?_) (fun c31 => ?_)
            · rw [c31] at hvv8
              refine ko [4, 6, 11] 5 (by simp; rfl) ?_
              refine tops_nil ?_
              cases hvv8
              exact ⟨_, rfl, wk (by simp [weak_iff])⟩
            · rw [c31] at hvv8
              refine kskip 3 [] (by kernel_rfl) ?_
              refine ko [4, 6, 11] 2 (by simp; rfl) ?_
              refine tops_nil ?_
              cases hvv8
              exact ⟨_, rfl, wk (by simp [weak_iff])⟩
        · rw [if_neg (by rw [c28]; decide)] at h0
          refine kr [4, 5, 6, 8, 9, 10, 11, 31, 72] (by simp; rfl) ?_
          refine tr_cond (b := (a2.Kind == 8)) (by simp) (fun c32 => ?_) (fun c32 => ?_)
          · rw [if_pos c32] at h0
            refine kr [4, 6, 11] (by simp; rfl) ?_
            refine kr [4, 6, 11] (by simp; rfl) ?_
            refine kr [6, 7] (by simp; rfl) ?_
            cases h0
            exact tr_ret ⟨[600052], by simp, rfl, by simp⟩
          · rw [if_neg (by rw [c32]; decide)] at h0
            refine kr [4, 5, 6, 8, 9, 10, 11, 31, 80] (by simp; rfl) ?_
            refine tr_cond (b := (a2.Kind == 4)) (by simp) (fun c33 => ?_) (fun c33 => ?_)
            · rw [if_pos c33] at h0
              replace h0 := bnd h0; obtain ⟨v9, hvv9, h0⟩ := h0
              refine sjv (fun v9_ : Bool => ({ nt := 131, env := [(4, .ptr 4 0), (5, .ptr 5 0), (6, .ptr 6 0), (8, .ptr 8 0), (9, .ptr 9 0), (11, .d (.bool v9_))], box := [(4, [.d (.int .i64 y1.Known), .d (.int .i64 y1.Valid), .vec 600052]), (5, [.d (.int .i64 a2.Kind), .d (.int .i64 a2.Unit)]), (6, [.d (.int .i64 0), .d (.int .i64 0), .nilS]), (8, [.d (.bool x2.Up), .d (.int .i64 x2.Stored), .d (.int .i64 x2.Used)]), (9, [.d (.int .i64 x3.Pool), .d (.bool x3.Dual), .d (.bool x3.Live)])], vec := [(600052, ⟨53, 3, rowsF api_Unit_row y1.Units⟩)] } : St)) (fun v9_ => v9 = v9_) (fun v9_ e => ?_) ?_
              · subst e
                refine kr [4, 5, 6, 8, 9, 11] (by simp; rfl) ?_
                refine kr [4, 5, 6, 8, 9, 11, 91] (by simp; rfl) ?_
                refine tr_cond (b := x3.Dual) (by simp) (fun c36 => ?_) (fun c36 => ?_)
                · rw [if_pos c36] at h0
                  refine lr (by simp; rfl) ?_
                  exact ⟨_, h0, wk (by simp [weak_iff])⟩
                · rw [if_neg (by rw [c36]; decide)] at h0
                  refine tr_skip ?_
                  exact ⟨_, h0, wk (by simp [weak_iff])⟩
              · refine kc1 ?_
                refine ko [4, 5, 6, 8, 9, 83] 2 (by simp; rfl) ?_
                refine tops_split 83 ((bAnd .i64 y1.Known 2) != 0) (by simp) (fun c37 => ?_) (fun c37 => ?_)
                · rw [c37] at hvv9
                  refine ko [4, 5, 6, 8, 9, 11] 6 (by simp; rfl) ?_
                  refine tops_nil ?_
                  cases hvv9
                  exact ⟨_, rfl, wk (by simp [weak_iff])⟩
                · rw [c37] at hvv9
                  refine kskip 4 [] (by kernel_rfl) ?_
                  refine ko [4, 5, 6, 8, 9, 11] 2 (by simp; rfl) ?_
                  refine tops_nil ?_
                  cases hvv9
                  exact ⟨_, rfl, wk (by simp [weak_iff])⟩
            · rw [if_neg (by rw [c33]; decide)] at h0
              refine kr [4, 5, 6, 8, 9, 11, 31, 93] (by simp; rfl) ?_
              refine tr_cond (b := (a2.Kind == 7)) (by simp) (fun c38 => ?_) (fun c38 => ?_)
              · rw [if_pos c38] at h0
                refine kr [4, 5, 6, 8, 9, 11] (by simp; rfl) ?_
                refine lr (by simp; rfl) ?_
                exact ⟨_, h0, wk (by simp [weak_iff])⟩
              · rw [if_neg (by rw [c38]; decide)] at h0
                refine kr [4, 5, 6, 8, 9, 11, 31, 99] (by simp; rfl) ?_
                refine tr_cond (b := (a2.Kind == 5)) (by simp) (fun c39 => ?_) (fun c39 => ?_)
                · rw [if_pos c39] at h0
                  refine kr [4, 5, 6, 8, 9, 11] (by simp; rfl) ?_
                  refine lr (by simp; rfl) ?_
                  exact ⟨_, h0, wk (by simp [weak_iff])⟩
                · rw [if_neg (by rw [c39]; decide)] at h0
                  refine kr [4, 5, 6, 8, 9, 11, 105] (by simp; rfl) ?_
                  refine tr_cond (b := (a2.Kind == 6)) (by simp) (fun c40 => ?_) (fun c40 => ?_)
                  · rw [if_pos c40] at h0
                    refine kr [4, 5, 6, 8, 9, 11] (by simp; rfl) ?_
                    refine lr (by simp; rfl) ?_
                    exact ⟨_, h0, wk (by simp [weak_iff])⟩
                  · rw [if_neg (by rw [c40]; decide)] at h0
                    refine tr_skip ?_
                    exact ⟨_, h0, wk (by simp [weak_iff])⟩
set_option maxHeartbeats 1000000 in
theorem ref33_Apply_ok {a0 : api_Fleet} {a1 : api_Rotation} {a2 : api_Step} {r : api_Rotation × Int} (h0 : ref33_Apply a0 a1 a2 = some r) : FnOK Try.prog 13 [] [.agg (api_Fleet_av a0), .agg (api_Rotation_av a1), .agg (api_Step_av a2)] (.tup [.agg (api_Rotation_av r.1), .d (.int .i64 r.2)]) [] := by
  unfold ref33_Apply at h0
  refine fn_ok (nt := 31) (rs := [.cell 6 33, .tmp 7]) Try.func13 rfl Try.ntmps13 rfl (by simp) (by decide) rfl fun K => ?_
  refine kr [3, 4, 5, 6] (by simp; rfl) ?_
  refine tr_seq ?_
  refine kc ?_
  refine ko [3, 4, 5, 6, 10, 11] 2 (by simp; rfl) ?_
  replace h0 := bnd h0; obtain ⟨y1, hy1, h0⟩ := h0
  refine kcall [3, 4, 5, 6, 12] [] (ref32_Right_ok hy1) rfl rfl rfl Try.call33 (by simp) (by simp; rfl) ?_
  refine ko [3, 4, 5, 6, 13] 1 (by simp; rfl) ?_
  refine tops_nil ?_
  refine tr_cond (b := (!y1)) (by simp) (fun c1 => ?_) (fun c1 => ?_)
  · rw [if_pos c1] at h0
    refine kr [6, 7] (by simp; rfl) ?_
    cases h0
    exact tr_ret ⟨[], by simp, rfl, by simp⟩
  · rw [if_neg (by rw [c1]; decide)] at h0
    refine tr_skip ?_
    refine tr_seq ?_
    refine kc ?_
    refine ko [3, 4, 5, 6, 15, 16] 2 (by simp; rfl) ?_
    replace h0 := bnd h0; obtain ⟨y2, hy2, h0⟩ := h0
    refine kcall [3, 4, 5, 6, 17] [] (ref33_kind_ok hy2) rfl rfl rfl Try.call34 (by simp) (by simp; rfl) ?_
    refine ko [3, 4, 5, 6, 18] 1 (by simp; rfl) ?_
    refine tops_nil ?_
    refine tr_cond (b := (!y2)) (by simp) (fun c2 => ?_) (fun c2 => ?_)
    · rw [if_pos c2] at h0
      refine kr [6, 7] (by simp; rfl) ?_
      cases h0
      exact tr_ret ⟨[], by simp, rfl, by simp⟩
    · rw [if_neg (by rw [c2]; decide)] at h0
      refine tr_skip ?_
      refine kc ?_
      refine ko [6, 21, 22, 23] 3 (by simp; rfl) ?_
      replace h0 := bnd h0; obtain ⟨y3, hy3, h0⟩ := h0
      refine kcall [6, 24] [] (ref33_do_ok hy3) rfl rfl rfl Try.call35 (by simp) (by simp; rfl) ?_
      refine ko [6, 8, 9] 6 (by simp; rfl) ?_
      refine tops_nil ?_
      refine tr_seq ?_
      refine kr [6, 8, 28] (by simp; rfl) ?_
      refine tr_cond (b := (!y3.2)) (by simp) (fun c3 => ?_) (fun c3 => ?_)
      · rw [if_pos c3] at h0
        refine kr [6, 7] (by simp; rfl) ?_
        cases h0
        exact tr_ret ⟨[], by simp, rfl, by simp⟩
      · rw [if_neg (by rw [c3]; decide)] at h0
        refine tr_skip ?_
        refine kr [6, 7] (by simp; rfl) ?_
        cases h0
        exact tr_ret ⟨[], by simp, rfl, by simp⟩
set_option maxHeartbeats 1000000 in
theorem ref32_Units_ok {a0 : api_Fleet} {a1 : Int} {r : (List Int)} (h0 : ref32_Units a0 a1 = some r) : FnOK Try.prog 36 [] [.agg (api_Fleet_av a0), .d (.int .i64 a1)] (.d (.slice (rowsF (iRow .i64) r))) [] := by
  unfold ref32_Units at h0
  refine fn_ok (nt := 29) (rs := [.tmp 4]) Try.func36 rfl Try.ntmps36 rfl (by simp) (by decide) rfl fun K => ?_
  refine kr [1, 2] (by simp; rfl) ?_
  refine tr_seq ?_
  refine kc ?_
  refine ko [1, 2, 8] 1 (by simp; rfl) ?_
  replace h0 := bnd h0; obtain ⟨y1, hy1, h0⟩ := h0
  refine kcall [1, 2, 9] [] (ref32_Valid_ok hy1) rfl rfl rfl Try.call40 (by simp) (by simp; rfl) ?_
  refine ko [1, 2, 10] 1 (by simp; rfl) ?_
  refine tops_nil ?_
  refine tr_cond (b := (!y1)) (by simp) (fun c1 => ?_) (fun c1 => ?_)
  · rw [if_pos c1] at h0
    refine kr [4] (by simp; rfl) ?_
    cases h0
    exact tr_ret ⟨[], by simp, rfl, by simp⟩
  · rw [if_neg (by rw [c1]; decide)] at h0
    refine tr_skip ?_
    refine kr [1, 2, 5] (by simp; rfl) ?_
    refine tr_seq ?_
    refine kr [1, 5, 12, 13, 14] (by simp; rfl) ?_
    refine tr_wk (wk_own 5 26 3 1 (by simp) (by simp)) ?_
    replace h0 := bnd h0; obtain ⟨e1, hI1, h0⟩ := h0
    refine tjv (fun v2 : (List Int) => ({ nt := 29, env := [(5, .vec 26)], box := [], vec := [(26, ⟨3, 1, rowsF (iRow .i64) v2⟩)] } : St)) (fun v2 => v2 = e1) (fun v2 hI1e _ W1 => ?_) ?_
    · subst hI1e
      refine tr_wk W1 ?_
      refine kr [4] (by simp; rfl) ?_
      cases h0
      exact tr_ret ⟨[26], by simp, rfl, by simp⟩
    · refine tr_block (tr_iter (fun s3 : Int × (List Int) => ({ nt := 29, env := [(1, .d (.int .i64 a1)), (5, .vec 26), (12, .d (.slice (rowsF api_Consumer_row a0.Consumers))), (13, .d (.int .i64 ((a0.Consumers).length : Int))), (14, .d (.int .i64 s3.1))], box := [], vec := [(26, ⟨3, 1, rowsF (iRow .i64) s3.2⟩)] } : St)) hI1 (wk (by simp [weak_iff])) fun G1 s3 o1 h1 hg1 he1 => ?_)
      unfold ref32_Units_l0 at h1
      refine kr [1, 5, 12, 13, 14, 15] (by simp; rfl) ?_
      refine tr_seq ?_
      refine tr_cond (b := (decide (s3.1 < ((a0.Consumers).length : Int)))) (by simp) (fun c8 => ?_) (fun c8 => ?_)
      · rw [if_pos c8] at h1
        refine tr_skip ?_
        refine tr_seq ?_
        refine tr_block ?_
        replace h1 := bnd h1; obtain ⟨x4, p6, h1⟩ := h1
        replace p6 := idx_some p6
        have p6' := p6; try simp at p6'
        refine kr [1, 5, 6, 7, 12, 13, 14] (by simp [p6, p6']; rfl) ?_
        refine kr [1, 5, 6, 12, 13, 14, 22] (by simp; rfl) ?_
        refine tr_cond (b := (x4.Pool == a1)) (by simp) (fun c9 => ?_) (fun c9 => ?_)
        · rw [if_pos c9] at h1
          replace h1 := bnd h1; obtain ⟨_, p7, h1⟩ := h1
          replace p7 := ck_some p7
          have p7' := p7; try simp at p7'
          refine lr (by simp [p7, p7']; rfl) ?_
          refine lr (by simp; rfl) ?_
          exact ⟨_, hg1 _ (Option.some.inj h1), wk (by simp [weak_iff])⟩
        · rw [if_neg (by rw [c9]; decide)] at h1
          refine tr_skip ?_
          refine lr (by simp; rfl) ?_
          exact ⟨_, hg1 _ (Option.some.inj h1), wk (by simp [weak_iff])⟩
      · rw [if_neg (by rw [c8]; decide)] at h1
        refine tr_exit ?_
        exact ⟨_, he1 _ (Option.some.inj h1), wk (by simp [weak_iff])⟩
set_option maxHeartbeats 1000000 in
theorem ref32_Pools_ok {a0 : api_Fleet} {r : (List Int)} (h0 : ref32_Pools a0 = some r) : FnOK Try.prog 72 [] [.agg (api_Fleet_av a0)] (.d (.slice (rowsF (iRow .i64) r))) [] := by
  unfold ref32_Pools at h0
  refine fn_ok (nt := 19) (rs := [.tmp 2]) Try.func72 rfl Try.ntmps72 rfl (by simp) (by decide) rfl fun K => ?_
  refine kr [1] (by simp; rfl) ?_
  refine kr [1, 3] (by simp; rfl) ?_
  refine tr_seq ?_
  refine kr [1, 3, 4] (by simp; rfl) ?_
  refine tr_wk (wk_own 3 17 3 1 (by simp) (by simp)) ?_
  replace h0 := bnd h0; obtain ⟨e1, hI1, h0⟩ := h0
  refine tjv (fun v1 : (List Int) => ({ nt := 19, env := [(3, .vec 17)], box := [], vec := [(17, ⟨3, 1, rowsF (iRow .i64) v1⟩)] } : St)) (fun v1 => v1 = e1) (fun v1 hI1e _ W1 => ?_) ?_
  · subst hI1e
    refine tr_wk W1 ?_
    refine kr [2] (by simp; rfl) ?_
    cases h0
    exact tr_ret ⟨[17], by simp, rfl, by simp⟩
  · refine tr_block (tr_iter (fun s2 : Int × (List Int) => ({ nt := 19, env := [(1, .ptr 1 0), (3, .vec 17), (4, .d (.int .i64 s2.1))], box := [(1, [.d (.int .i64 a0.Slots), .d (.slice (rowsF api_Consumer_row a0.Consumers))])], vec := [(17, ⟨3, 1, rowsF (iRow .i64) s2.2⟩)] } : St)) hI1 (wk (by simp [weak_iff])) fun G1 s2 o1 h1 hg1 he1 => ?_)
    unfold ref32_Pools_l0 at h1
    refine tr_seq ?_
    refine kr [1, 3, 4, 6] (by simp; rfl) ?_
    refine tr_cond (b := (decide (s2.1 ≤ 7))) (by simp) (fun c7 => ?_) (fun c7 => ?_)
    · rw [if_pos c7] at h1
      refine tr_skip ?_
      refine tr_seq ?_
      refine tr_block ?_
      refine kc ?_
      refine ko [1, 3, 4, 9, 10] 2 (by simp; rfl) ?_
      replace h1 := bnd h1; obtain ⟨y3, hy3, h1⟩ := h1
      refine kcall [1, 3, 4, 11] [] (ref32_Units_ok hy3) rfl rfl rfl Try.call36 (by simp) (by simp; rfl) ?_
      refine ko [1, 3, 4, 13] 2 (by simp; rfl) ?_
      refine tops_nil ?_
      refine tr_cond (b := (decide (0 < ((y3).length : Int)))) (by simp) (fun c8 => ?_) (fun c8 => ?_)
      · rw [if_pos c8] at h1
        replace h1 := bnd h1; obtain ⟨_, p3, h1⟩ := h1
        replace p3 := ck_some p3
        have p3' := p3; try simp at p3'
        refine lr (by simp [p3, p3']; rfl) ?_
        refine lr (by simp; rfl) ?_
        exact ⟨_, hg1 _ (Option.some.inj h1), wk (by simp [weak_iff])⟩
      · rw [if_neg (by rw [c8]; decide)] at h1
        refine tr_skip ?_
        refine lr (by simp; rfl) ?_
        exact ⟨_, hg1 _ (Option.some.inj h1), wk (by simp [weak_iff])⟩
    · rw [if_neg (by rw [c7]; decide)] at h1
      refine tr_exit ?_
      exact ⟨_, he1 _ (Option.some.inj h1), wk (by simp [weak_iff])⟩
set_option maxHeartbeats 1000000 in
theorem ref32_Serves_ok {a0 : api_Fleet} {a1 : api_Rotation} {a2 : Int} {r : Bool} (h0 : ref32_Serves a0 a1 a2 = some r) : FnOK Try.prog 73 [] [.agg (api_Fleet_av a0), .agg (api_Rotation_av a1), .d (.int .i64 a2)] (.d (.bool r)) [] := by
  unfold ref32_Serves at h0
  refine fn_ok (nt := 38) (rs := [.tmp 6]) Try.func73 rfl Try.ntmps73 rfl (by simp) (by decide) rfl fun K => ?_
  refine kr [2, 3, 4] (by simp; rfl) ?_
  replace h0 := bnd h0; obtain ⟨v1, hvv1, h0⟩ := h0
  refine sjv (fun v1_ : Bool => ({ nt := 38, env := [(6, .d (.bool v1_))], box := [], vec := [] } : St)) (fun v1_ => v1 = v1_) (fun v1_ e => ?_) ?_
  · subst e
    cases h0
    exact tr_ret ⟨[], by simp, rfl, by simp⟩
  · refine kd1 [[], [], [0, 1], [2], [3], [3], [3, 5], [3, 6], [3, 7], [3, 4, 7, 8], [3, 7, 9], [7, 10], [7, 11], [7, 11, 12], [7, 11], [7, 11, 13, 14], [7, 11, 15], [7, 11, 16], [7, 11, 17], [7, 18], [7, 19], [7, 19, 20], [7, 19], [7, 19, 21, 22], [7, 19, 23], [7, 19, 24], [7, 19], [7, 19, 26], [7, 19, 25, 27], [7, 19, 28], [7, 19, 29], [7, 30]] [] [] none [] 32 fol (by decide +kernel) (by simp) ?_
    refine dr_go 0 2 rfl (by simp (maxSteps := 1000000); rfl) ?_
    replace hvv1 := bnd hvv1; obtain ⟨y2, hy2, hvv1⟩ := hvv1
    refine dr_call 2 [] (ref32_Right_ok hy2) rfl rfl rfl rfl rfl Try.call33 (by simp) ?_
    refine dr_go 3 1 rfl (by simp (maxSteps := 1000000); rfl) ?_
    refine dr_split 3 10 y2 (by simp) (fun c25 => ?_) (fun c25 => ?_)
    · rw [if_pos c25] at hvv1
      refine dr_go 4 2 rfl (by simp (maxSteps := 1000000); rfl) ?_
      refine dr_go 6 2 rfl (by simp (maxSteps := 1000000); rfl) ?_
      refine dr_go 8 1 rfl (by simp (maxSteps := 1000000); rfl) ?_
      replace hvv1 := bnd hvv1; obtain ⟨y3, hy3, hvv1⟩ := hvv1
      refine dr_call 9 [] (ref32_in_ok hy3) rfl rfl rfl rfl rfl Try.call53 (by simp) ?_
      refine dr_go 10 2 rfl (by simp (maxSteps := 1000000); rfl) ?_
      refine dr_split 11 18 y3 (by simp) (fun c26 => ?_) (fun c26 => ?_)
      · rw [if_pos c26] at hvv1
        replace hvv1 := bnd hvv1; obtain ⟨x4, p9, hvv1⟩ := hvv1
        replace p9 := idx_some p9
        have p9' := p9; try simp at p9'
        refine dr_go 12 2 rfl (by simp (maxSteps := 1000000) [p9, p9']; rfl) ?_
        refine dr_go 14 2 rfl (by simp (maxSteps := 1000000) [p9, p9']; rfl) ?_
        refine dr_go 16 2 rfl (by simp (maxSteps := 1000000) [p9, p9']; rfl) ?_
        refine dr_go 18 2 rfl (by simp (maxSteps := 1000000) [p9, p9']; rfl) ?_
        refine dr_split 19 26 x4.Up (by simp) (fun c27 => ?_) (fun c27 => ?_)
        · rw [if_pos c27] at hvv1
          refine dr_go 20 2 rfl (by simp (maxSteps := 1000000) [p9, p9']; rfl) ?_
          refine dr_go 22 2 rfl (by simp (maxSteps := 1000000) [p9, p9']; rfl) ?_
          refine dr_go 24 2 rfl (by simp (maxSteps := 1000000) [p9, p9']; rfl) ?_
          refine dr_go 26 2 rfl (by simp (maxSteps := 1000000) [p9, p9']; rfl) ?_
          refine dr_go 28 2 rfl (by simp (maxSteps := 1000000) [p9, p9']; rfl) ?_
          refine dr_go 30 2 rfl (by simp (maxSteps := 1000000) [p9, p9']; rfl) ?_
          refine dr_end rfl (tops_nil ?_)
          cases hvv1
          exact ⟨_, rfl, wk (by simp [weak_iff])⟩
        · rw [if_neg (by rw [c27]; decide)] at hvv1
          refine dr_skip 20 38 [some 27, some 28, some 29, some 30, some 31, some 32, some 33, some 34, some 35, some 36] rfl rfl (by decide) (by kernel_rfl) (by simp only [skEf, List.map_cons, List.map_nil, List.cons_append, List.nil_append]; rfl) ?_
          refine dr_go 30 2 rfl (by simp (maxSteps := 1000000); rfl) ?_
          refine dr_end rfl (tops_nil ?_)
          cases hvv1
          exact ⟨_, rfl, wk (by simp [weak_iff])⟩
      · rw [if_neg (by rw [c26]; decide)] at hvv1
        refine dr_skip 12 38 [some 19, some 20, some 21, some 22, some 23, some 24] rfl rfl (by decide) (by kernel_rfl) (by simp only [skEf, List.map_cons, List.map_nil, List.cons_append, List.nil_append]; rfl) ?_
        refine dr_go 18 2 rfl (by simp (maxSteps := 1000000); rfl) ?_
        refine dr_skip 20 38 [some 27, some 28, some 29, some 30, some 31, some 32, some 33, some 34, some 35, some 36] rfl rfl (by decide) (by kernel_rfl) (by simp only [skEf, List.map_cons, List.map_nil, List.cons_append, List.nil_append]; rfl) ?_
        refine dr_go 30 2 rfl (by simp (maxSteps := 1000000); rfl) ?_
        refine dr_end rfl (tops_nil ?_)
        cases hvv1
        exact ⟨_, rfl, wk (by simp [weak_iff])⟩
    · rw [if_neg (by rw [c25]; decide)] at hvv1
      refine dr_skip 4 38 [some 11, some 12, some 13, some 14, some 15, some 16] rfl rfl (by decide) (by kernel_rfl) (by simp only [skEf, List.map_cons, List.map_nil, List.cons_append, List.nil_append]; rfl) ?_
      refine dr_go 10 2 rfl (by simp (maxSteps := 1000000); rfl) ?_
      refine dr_skip 12 38 [some 19, some 20, some 21, some 22, some 23, some 24] rfl rfl (by decide) (by kernel_rfl) (by simp only [skEf, List.map_cons, List.map_nil, List.cons_append, List.nil_append]; rfl) ?_
      refine dr_go 18 2 rfl (by simp (maxSteps := 1000000); rfl) ?_
      refine dr_skip 20 38 [some 27, some 28, some 29, some 30, some 31, some 32, some 33, some 34, some 35, some 36] rfl rfl (by decide) (by kernel_rfl) (by simp only [skEf, List.map_cons, List.map_nil, List.cons_append, List.nil_append]; rfl) ?_
      refine dr_go 30 2 rfl (by simp (maxSteps := 1000000); rfl) ?_
      refine dr_end rfl (tops_nil ?_)
      cases hvv1
      exact ⟨_, rfl, wk (by simp [weak_iff])⟩
set_option maxHeartbeats 1000000 in
theorem ref32_Served_ok {a0 : api_Fleet} {a1 : api_Rotation} {r : (List Int)} (h0 : ref32_Served a0 a1 = some r) : FnOK Try.prog 58 [] [.agg (api_Fleet_av a0), .agg (api_Rotation_av a1)] (.d (.slice (rowsF (iRow .i64) r))) [] := by
  unfold ref32_Served at h0
  refine fn_ok (nt := 36) (rs := [.tmp 4]) Try.func58 rfl Try.ntmps58 rfl (by simp) (by decide) rfl fun K => ?_
  refine kr [2, 3] (by simp; rfl) ?_
  refine kr [2, 3, 5] (by simp; rfl) ?_
  refine tr_seq ?_
  refine kc ?_
  refine ko [2, 3, 5, 10] 1 (by simp; rfl) ?_
  replace h0 := bnd h0; obtain ⟨y1, hy1, h0⟩ := h0
  refine kcall [2, 3, 5, 11] [] (ref32_Pools_ok hy1) rfl rfl rfl Try.call72 (by simp) (by simp; rfl) ?_
  refine ko [2, 3, 5, 11, 12, 13] 2 (by simp; rfl) ?_
  refine tops_nil ?_
  refine tr_wk (wk_own 5 32 3 1 (by simp) (by simp)) ?_
  replace h0 := bnd h0; obtain ⟨e1, hI1, h0⟩ := h0
  refine tjv (fun v2 : (List Int) => ({ nt := 36, env := [(5, .vec 32)], box := [], vec := [(32, ⟨3, 1, rowsF (iRow .i64) v2⟩)] } : St)) (fun v2 => v2 = e1) (fun v2 hI1e _ W1 => ?_) ?_
  · subst hI1e
    refine tr_wk W1 ?_
    refine kr [4] (by simp; rfl) ?_
    cases h0
    exact tr_ret ⟨[32], by simp, rfl, by simp⟩
  · refine tr_block (tr_iter (fun s3 : Int × (List Int) => ({ nt := 36, env := [(2, .ptr 2 0), (3, .ptr 3 0), (5, .vec 32), (11, .d (.slice (rowsF (iRow .i64) y1))), (12, .d (.int .i64 ((y1).length : Int))), (13, .d (.int .i64 s3.1))], box := [(2, [.d (.int .i64 a0.Slots), .d (.slice (rowsF api_Consumer_row a0.Consumers))]), (3, [.d (.int .i64 a1.Known), .d (.int .i64 a1.Valid), .d (.slice (rowsF api_Unit_row a1.Units))])], vec := [(32, ⟨3, 1, rowsF (iRow .i64) s3.2⟩)] } : St)) hI1 (wk (by simp [weak_iff])) fun G1 s3 o1 h1 hg1 he1 => ?_)
    unfold ref32_Served_l0 at h1
    refine kr [2, 3, 5, 11, 12, 13, 14] (by simp; rfl) ?_
    refine tr_seq ?_
    refine tr_cond (b := (decide (s3.1 < ((y1).length : Int)))) (by simp) (fun c20 => ?_) (fun c20 => ?_)
    · rw [if_pos c20] at h1
      refine tr_skip ?_
      refine tr_seq ?_
      refine tr_block ?_
      replace h1 := bnd h1; obtain ⟨x4, p18, h1⟩ := h1
      replace p18 := idx_some p18
      have p18' := p18; try simp at p18'
      refine kr [2, 3, 5, 7, 11, 12, 13] (by simp [p18, p18']; rfl) ?_
      refine kc ?_
      refine ko [2, 3, 5, 7, 11, 12, 13, 17, 18] 2 (by simp; rfl) ?_
      replace h1 := bnd h1; obtain ⟨y5, hy5, h1⟩ := h1
      refine kcall [2, 3, 5, 7, 11, 12, 13, 19] [] (ref32_Units_ok hy5) rfl rfl rfl Try.call36 (by simp) (by simp; rfl) ?_
      refine ko [2, 3, 5, 7, 11, 12, 13, 19, 20, 21] 2 (by simp; rfl) ?_
      refine tops_nil ?_
      replace h1 := bnd h1; obtain ⟨e2, hI2, h1⟩ := h1
      refine tjv (fun v6 : (List Int) => ({ nt := 36, env := [(2, .ptr 2 0), (3, .ptr 3 0), (5, .vec 32), (11, .d (.slice (rowsF (iRow .i64) y1))), (12, .d (.int .i64 ((y1).length : Int))), (13, .d (.int .i64 s3.1))], box := [(2, [.d (.int .i64 a0.Slots), .d (.slice (rowsF api_Consumer_row a0.Consumers))]), (3, [.d (.int .i64 a1.Known), .d (.int .i64 a1.Valid), .d (.slice (rowsF api_Unit_row a1.Units))])], vec := [(32, ⟨3, 1, rowsF (iRow .i64) v6⟩)] } : St)) (fun v6 => v6 = e2) (fun v6 hI2e _ W2 => ?_) ?_
      · subst hI2e
        refine tr_wk W2 ?_
        refine lr (by simp; rfl) ?_
        exact ⟨_, hg1 _ (Option.some.inj h1), wk (by simp [weak_iff])⟩
      · refine tr_block (tr_iter (fun s7 : Int => ({ nt := 36, env := [(2, .ptr 2 0), (3, .ptr 3 0), (5, .vec 32), (7, .d (.int .i64 x4)), (11, .d (.slice (rowsF (iRow .i64) y1))), (12, .d (.int .i64 ((y1).length : Int))), (13, .d (.int .i64 s3.1)), (19, .d (.slice (rowsF (iRow .i64) y5))), (20, .d (.int .i64 ((y5).length : Int))), (21, .d (.int .i64 s7))], box := [(2, [.d (.int .i64 a0.Slots), .d (.slice (rowsF api_Consumer_row a0.Consumers))]), (3, [.d (.int .i64 a1.Known), .d (.int .i64 a1.Valid), .d (.slice (rowsF api_Unit_row a1.Units))])], vec := [(32, ⟨3, 1, rowsF (iRow .i64) s3.2⟩)] } : St)) hI2 (wk (by simp [weak_iff])) fun G2 s7 o2 h2 hg2 he2 => ?_)
        unfold ref32_Served_l1 at h2
        refine kr [2, 3, 5, 7, 11, 12, 13, 19, 20, 21, 22] (by simp; rfl) ?_
        refine tr_seq ?_
        refine tr_cond (b := (decide (s7 < ((y5).length : Int)))) (by simp) (fun c25 => ?_) (fun c25 => ?_)
        · rw [if_pos c25] at h2
          refine tr_skip ?_
          refine tr_seq ?_
          refine tr_block ?_
          replace h2 := bnd h2; obtain ⟨x8, p23, h2⟩ := h2
          replace p23 := idx_some p23
          have p23' := p23; try simp at p23'
          refine kr [2, 3, 5, 7, 9, 11, 12, 13, 19, 20, 21] (by simp [p23, p23']; rfl) ?_
          refine kc ?_
          refine ko [2, 3, 5, 7, 11, 12, 13, 19, 20, 21, 25, 26, 27] 3 (by simp; rfl) ?_
          replace h2 := bnd h2; obtain ⟨y9, hy9, h2⟩ := h2
          refine kcall [2, 3, 5, 7, 11, 12, 13, 19, 20, 21, 28] [] (ref32_Serves_ok hy9) rfl rfl rfl Try.call73 (by simp) (by simp; rfl) ?_
          refine tops_nil ?_
          refine tr_cond (b := y9) (by simp) (fun c26 => ?_) (fun c26 => ?_)
          · rw [if_pos c26] at h2
            replace h2 := bnd h2; obtain ⟨_, p24, h2⟩ := h2
            replace p24 := ck_some p24
            have p24' := p24; try simp at p24'
            refine kr [2, 3, 5, 11, 12, 13] (by simp [p24, p24']; rfl) ?_
            refine tr_exit ?_
            exact ⟨_, he2 _ (Option.some.inj h2), wk (by simp [weak_iff])⟩
          · rw [if_neg (by rw [c26]; decide)] at h2
            refine tr_skip ?_
            refine lr (by simp; rfl) ?_
            exact ⟨_, hg2 _ (Option.some.inj h2), wk (by simp [weak_iff])⟩
        · rw [if_neg (by rw [c25]; decide)] at h2
          refine tr_exit ?_
          exact ⟨_, he2 _ (Option.some.inj h2), wk (by simp [weak_iff])⟩
    · rw [if_neg (by rw [c20]; decide)] at h1
      refine tr_exit ?_
      exact ⟨_, he1 _ (Option.some.inj h1), wk (by simp [weak_iff])⟩
set_option maxHeartbeats 1000000 in
theorem ref33_safe_ok {a0 : api_Fleet} {a1 : api_Rotation} {a2 : api_Rotation} {r : Bool} (h0 : ref33_safe a0 a1 a2 = some r) : FnOK Try.prog 39 [] [.agg (api_Fleet_av a0), .agg (api_Rotation_av a1), .agg (api_Rotation_av a2)] (.d (.bool r)) [] := by
  unfold ref33_safe at h0
  refine fn_ok (nt := 40) (rs := [.tmp 6]) Try.func39 rfl Try.ntmps39 rfl (by simp) (by decide) rfl fun K => ?_
  refine kr [3, 4, 5] (by simp; rfl) ?_
  refine kc ?_
  refine ko [3, 4, 13, 14] 2 (by simp; rfl) ?_
  replace h0 := bnd h0; obtain ⟨y1, hy1, h0⟩ := h0
  refine kcall [3, 4, 15] [] (ref32_Served_ok hy1) rfl rfl rfl Try.call58 (by simp) (by simp; rfl) ?_
  refine ko [3, 4, 7] 1 (by simp; rfl) ?_
  refine tops_nil ?_
  refine tr_seq ?_
  refine kc ?_
  refine ko [7, 16, 17] 2 (by simp; rfl) ?_
  replace h0 := bnd h0; obtain ⟨y2, hy2, h0⟩ := h0
  refine kcall [7, 18] [] (ref32_Served_ok hy2) rfl rfl rfl Try.call58 (by simp) (by simp; rfl) ?_
  refine ko [7, 18, 19, 20] 2 (by simp; rfl) ?_
  refine tops_nil ?_
  replace h0 := bnd h0; obtain ⟨e1, hI1, h0⟩ := h0
  refine tjv (fun v3 : Unit => ({ nt := 40, env := [], box := [], vec := [] } : St)) (fun v3 => .inl v3 = e1) (fun v3 hI1e _ W1 => ?_) ?_
  · subst hI1e
    dsimp only at h0
    refine tr_wk W1 ?_
    refine kr [6] (by simp; rfl) ?_
    cases h0
    exact tr_ret ⟨[], by simp, rfl, by simp⟩
  · refine tr_block (tr_iter (fun s4 : Int => ({ nt := 40, env := [(7, .d (.slice (rowsF (iRow .i64) y1))), (18, .d (.slice (rowsF (iRow .i64) y2))), (19, .d (.int .i64 ((y2).length : Int))), (20, .d (.int .i64 s4))], box := [], vec := [] } : St)) hI1 (wk (by simp [weak_iff])) fun G1 s4 o1 h1 hg1 he1 => ?_)
    unfold ref33_safe_l0 at h1
    refine kr [7, 18, 19, 20, 21] (by simp; rfl) ?_
    refine tr_seq ?_
    refine tr_cond (b := (decide (s4 < ((y2).length : Int)))) (by simp) (fun c11 => ?_) (fun c11 => ?_)
    · rw [if_pos c11] at h1
      refine tr_skip ?_
      refine tr_seq ?_
      refine tr_block ?_
      replace h1 := bnd h1; obtain ⟨x5, p7, h1⟩ := h1
      replace p7 := idx_some p7
      have p7' := p7; try simp at p7'
      refine kr [7, 9, 18, 19, 20] (by simp [p7, p7']; rfl) ?_
      refine kr [7, 9, 10, 18, 19, 20] (by simp; rfl) ?_
      refine tr_seq ?_
      refine kr [7, 9, 10, 18, 19, 20, 24, 25, 26] (by simp; rfl) ?_
      replace h1 := bnd h1; obtain ⟨e2, hI2, h1⟩ := h1
      refine tjv (fun v6 : Bool => ({ nt := 40, env := [(7, .d (.slice (rowsF (iRow .i64) y1))), (10, .d (.bool v6)), (18, .d (.slice (rowsF (iRow .i64) y2))), (19, .d (.int .i64 ((y2).length : Int))), (20, .d (.int .i64 s4))], box := [], vec := [] } : St)) (fun v6 => v6 = e2) (fun v6 hI2e _ W2 => ?_) ?_
      · subst hI2e
        refine tr_wk W2 ?_
        refine kr [7, 18, 19, 20, 38] (by simp; rfl) ?_
        refine tr_cond (b := (!v6)) (by simp) (fun c15 => ?_) (fun c15 => ?_)
        · rw [if_pos c15] at h1
          refine kr [6] (by simp; rfl) ?_
          have k1 := he1 _ (Option.some.inj h1)
          subst k1
          dsimp only at h0
          cases h0
          exact tr_ret ⟨[], by simp, rfl, by simp⟩
        · rw [if_neg (by rw [c15]; decide)] at h1
          refine tr_skip ?_
          refine lr (by simp; rfl) ?_
          exact ⟨_, hg1 _ (Option.some.inj h1), wk (by simp [weak_iff])⟩
      · refine tr_block (tr_iter (fun s7 : Bool × Int => ({ nt := 40, env := [(7, .d (.slice (rowsF (iRow .i64) y1))), (9, .d (.int .i64 x5)), (10, .d (.bool s7.1)), (18, .d (.slice (rowsF (iRow .i64) y2))), (19, .d (.int .i64 ((y2).length : Int))), (20, .d (.int .i64 s4)), (24, .d (.slice (rowsF (iRow .i64) y1))), (25, .d (.int .i64 ((y1).length : Int))), (26, .d (.int .i64 s7.2))], box := [], vec := [] } : St)) hI2 (wk (by simp [weak_iff])) fun G2 s7 o2 h2 hg2 he2 => ?_)
        unfold ref33_safe_l1 at h2
        refine kr [7, 9, 10, 18, 19, 20, 24, 25, 26, 27] (by simp; rfl) ?_
        refine tr_seq ?_
        refine tr_cond (b := (decide (s7.2 < ((y1).length : Int)))) (by simp) (fun c16 => ?_) (fun c16 => ?_)
        · rw [if_pos c16] at h2
          refine tr_skip ?_
          refine tr_seq ?_
          refine tr_block ?_
          replace h2 := bnd h2; obtain ⟨x8, p10, h2⟩ := h2
          replace p10 := idx_some p10
          have p10' := p10; try simp at p10'
          refine kr [7, 9, 10, 12, 18, 19, 20, 24, 25, 26] (by simp [p10, p10']; rfl) ?_
          replace h2 := bnd h2; obtain ⟨v9, hvv9, h2⟩ := h2
          refine tjv (fun v9_ : Bool => ({ nt := 40, env := [(7, .d (.slice (rowsF (iRow .i64) y1))), (9, .d (.int .i64 x5)), (10, .d (.bool v9_)), (18, .d (.slice (rowsF (iRow .i64) y2))), (19, .d (.int .i64 ((y2).length : Int))), (20, .d (.int .i64 s4)), (24, .d (.slice (rowsF (iRow .i64) y1))), (25, .d (.int .i64 ((y1).length : Int))), (26, .d (.int .i64 s7.2))], box := [], vec := [] } : St)) (fun v9_ => v9 = v9_) (fun v9_ e _ Wv9 => ?_) ?_
          · subst e
            refine tr_wk Wv9 ?_
            refine lr (by simp; rfl) ?_
            exact ⟨_, hg2 _ (Option.some.inj h2), wk (by simp [weak_iff])⟩
          · refine kc1 ?_
            refine ko [7, 9, 12, 18, 19, 20, 24, 25, 26, 31] 2 (by simp; rfl) ?_
            refine tops_split 31 s7.1 (by simp) (fun c19 => ?_) (fun c19 => ?_)
            · rw [c19] at hvv9
              refine kskip 3 [] (by kernel_rfl) ?_
              refine ko [7, 9, 10, 18, 19, 20, 24, 25, 26] 2 (by simp; rfl) ?_
              refine tops_nil ?_
              cases hvv9
              exact ⟨_, rfl, wk (by simp [weak_iff])⟩
            · rw [c19] at hvv9
              refine ko [7, 9, 10, 18, 19, 20, 24, 25, 26, 32, 33, 34] 5 (by simp; rfl) ?_
              refine tops_nil ?_
              cases hvv9
              exact ⟨_, rfl, wk (by simp [weak_iff])⟩
        · rw [if_neg (by rw [c16]; decide)] at h2
          refine tr_exit ?_
          exact ⟨_, he2 _ (Option.some.inj h2), wk (by simp [weak_iff])⟩
    · rw [if_neg (by rw [c11]; decide)] at h1
      refine tr_exit ?_
      exact ⟨_, he1 _ (Option.some.inj h1), wk (by simp [weak_iff])⟩
set_option maxHeartbeats 1000000 in
theorem make_Fleet_ok {a0 : make_Tape} {a1 : Int} {r : api_Fleet × make_Tape} (h0 : make_Fleet a0 a1 = some r) : FnOK Try.prog 9 [make_Tape_av a0] [.ptr (InO 0) 0, .d (.int .i64 a1)] (.agg (api_Fleet_av r.1)) [make_Tape_av r.2] := by
  unfold make_Fleet at h0
  refine fn_ok (nt := 32) (rs := [.cell 4 29]) Try.func9 rfl Try.ntmps9 rfl (by simp) (by decide) rfl fun K => ?_
  refine kr [0, 1, 4] (by simp; rfl) ?_
  refine kc ?_
  refine ko [0, 1, 4, 7] 1 (by simp; rfl) ?_
  replace h0 := bnd h0; obtain ⟨y1, hy1, h0⟩ := h0
  refine kcall [0, 1, 4, 8] [1000000] (make_Tape_Between_ok hy1) rfl rfl rfl Try.call29 (by simp) (by simp; rfl) ?_
  refine ko [0, 1, 4, 5] 3 (by simp; rfl) ?_
  refine tops_nil ?_
  refine tr_seq ?_
  refine kc ?_
  refine ko [0, 4, 5, 10, 11] 2 (by simp; rfl) ?_
  replace h0 := bnd h0; obtain ⟨y2, hy2, h0⟩ := h0
  refine kcall [0, 4, 5, 12] [1000000] (make_Tape_Between_ok hy2) rfl rfl rfl Try.call29 (by simp) (by simp; rfl) ?_
  refine ko [0, 4, 5, 6] 1 (by simp; rfl) ?_
  refine tops_nil ?_
  refine tr_wk (wk_ownbox 5 1 29 65 3 (by simp; rfl) (by simp) (by simp)) ?_
  replace h0 := bnd h0; obtain ⟨e1, hI1, h0⟩ := h0
  refine tjv (fun v3 : (List Int) × Int × (List api_Consumer) => ({ nt := 32, env := [(4, .ptr 4 0), (5, .ptr 5 0)], box := [(4, [.d (.int .i64 0), .nilS]), (5, [.d (.int .i64 y1.1), .vec 29]), (1000000, [.d (.slice (rowsF (iRow .i64) v3.1)), .d (.int .i64 v3.2.1)])], vec := [(29, ⟨65, 3, rowsF api_Consumer_row v3.2.2⟩)] } : St)) (fun v3 => v3 = e1) (fun v3 hI1e _ W1 => ?_) ?_
  · subst hI1e
    refine tr_wk W1 ?_
    refine kr [4] (by simp; rfl) ?_
    cases h0
    exact tr_ret ⟨[29], by simp, rfl, by simp⟩
  · refine tr_block (tr_iter (fun s4 : Int × (List Int) × Int × (List api_Consumer) => ({ nt := 32, env := [(0, .ptr 1000000 0), (4, .ptr 4 0), (5, .ptr 5 0), (6, .d (.int .i64 s4.1))], box := [(4, [.d (.int .i64 0), .nilS]), (5, [.d (.int .i64 y1.1), .vec 29]), (1000000, [.d (.slice (rowsF (iRow .i64) s4.2.1)), .d (.int .i64 s4.2.2.1)])], vec := [(29, ⟨65, 3, rowsF api_Consumer_row s4.2.2.2⟩)] } : St)) hI1 (wk (by simp [weak_iff])) fun G1 s4 o1 h1 hg1 he1 => ?_)
    unfold make_Fleet_l0 at h1
    refine tr_seq ?_
    refine kr [0, 4, 5, 6, 14] (by simp; rfl) ?_
    refine tr_cond (b := (decide (0 < s4.1))) (by simp) (fun c4 => ?_) (fun c4 => ?_)
    · rw [if_pos c4] at h1
      refine tr_skip ?_
      refine tr_seq ?_
      refine tr_block ?_
      refine tr_wk (wk_ren 29 700029) ?_
      refine kd1 [[], [0], [], [2], [], [3, 4], [5], [], [3, 5, 7], [8], [3, 5, 6, 9], [3, 5, 10], [1, 3, 5, 8, 11], [12], [1, 12, 13]] [3, 5, 8, 12, 14] [(5, [12, 14]), (1000000, [3, 5, 8, 12])] (some (12, 700029)) [18] 15 fol (by decide +kernel) (by simp) ?_
      refine dr_go 0 2 rfl (by simp (maxSteps := 1000000); rfl) ?_
      refine dr_go 2 1 rfl (by simp (maxSteps := 1000000); rfl) ?_
      replace h1 := bnd h1; obtain ⟨y5, hy5, h1⟩ := h1
      refine dr_call 3 [1000000] (make_Tape_Next_ok hy5) rfl rfl rfl rfl rfl Try.call14 (by simp) ?_
      refine dr_go 4 1 rfl (by simp (maxSteps := 1000000); rfl) ?_
      replace h1 := bnd h1; obtain ⟨y6, hy6, h1⟩ := h1
      refine dr_call 5 [1000000] (make_Tape_Next_ok hy6) rfl rfl rfl rfl rfl Try.call14 (by simp) ?_
      refine dr_go 6 2 rfl (by simp (maxSteps := 1000000); rfl) ?_
      replace h1 := bnd h1; obtain ⟨y7, hy7, h1⟩ := h1
      refine dr_call 8 [1000000] (make_Tape_Next_ok hy7) rfl rfl rfl rfl rfl Try.call14 (by simp) ?_
      replace h1 := bnd h1; obtain ⟨_, p12, h1⟩ := h1
      replace p12 := ck_some p12
      have p12' := p12; try simp at p12'
      refine dr_go 9 2 rfl (by simp (maxSteps := 1000000) [p12, p12']; rfl) ?_
      refine dr_go 11 2 rfl (by simp (maxSteps := 1000000) [p12, p12']; rfl) ?_
      refine dr_go 13 2 rfl (by simp (maxSteps := 1000000) [p12, p12']; rfl) ?_
      refine dr_end rfl (tops_nil ?_)
      refine lr (by simp; rfl) ?_
      exact ⟨_, hg1 _ (Option.some.inj h1), wk (by simp [weak_iff])⟩
    · rw [if_neg (by rw [c4]; decide)] at h1
      refine tr_exit ?_
      exact ⟨_, he1 _ (Option.some.inj h1), wk (by simp [weak_iff])⟩
set_option maxHeartbeats 1000000 in
theorem ref33_Safe_ok {a0 : api_Fleet} {a1 : api_Rotation} {a2 : api_Step} {r : Bool} (h0 : ref33_Safe a0 a1 a2 = some r) : FnOK Try.prog 20 [] [.agg (api_Fleet_av a0), .agg (api_Rotation_av a1), .agg (api_Step_av a2)] (.d (.bool r)) [] := by
  unfold ref33_Safe at h0
  refine fn_ok (nt := 24) (rs := [.tmp 6]) Try.func20 rfl Try.ntmps20 rfl (by simp) (by decide) rfl fun K => ?_
  refine kr [3, 4, 5] (by simp; rfl) ?_
  refine kc ?_
  refine ko [3, 4, 10, 11, 12] 3 (by simp; rfl) ?_
  replace h0 := bnd h0; obtain ⟨y1, hy1, h0⟩ := h0
  refine kcall [3, 4, 13] [] (ref33_Apply_ok hy1) rfl rfl rfl Try.call13 (by simp) (by simp; rfl) ?_
  refine ko [3, 4, 7, 8] 6 (by simp; rfl) ?_
  refine tops_nil ?_
  replace h0 := bnd h0; obtain ⟨v2, hvv2, h0⟩ := h0
  refine sjv (fun v2_ : Bool => ({ nt := 24, env := [(6, .d (.bool v2_))], box := [], vec := [] } : St)) (fun v2_ => v2 = v2_) (fun v2_ e => ?_) ?_
  · subst e
    cases h0
    exact tr_ret ⟨[], by simp, rfl, by simp⟩
  · refine kc1 ?_
    refine ko [3, 4, 7, 18] 3 (by simp; rfl) ?_
    refine tops_split 18 (y1.2 == 0) (by simp) (fun c3 => ?_) (fun c3 => ?_)
    · rw [if_pos c3] at hvv2
      refine ko [18, 19, 20, 21] 3 (by simp; rfl) ?_
      replace hvv2 := bnd hvv2; obtain ⟨y3, hy3, hvv2⟩ := hvv2
      refine kcall [18, 22] [] (ref33_safe_ok hy3) rfl rfl rfl Try.call39 (by simp) (by simp; rfl) ?_
      refine ko [6] 2 (by simp; rfl) ?_
      refine tops_nil ?_
      cases hvv2
      exact ⟨_, rfl, wk (by simp [weak_iff])⟩
    · rw [if_neg (by rw [c3]; decide)] at hvv2
      refine kskip 4 [] (by kernel_rfl) ?_
      refine ko [6] 2 (by simp; rfl) ?_
      refine tops_nil ?_
      cases hvv2
      exact ⟨_, rfl, wk (by simp [weak_iff])⟩
set_option maxHeartbeats 1000000 in
theorem ref33_Choices_ok {a0 : api_Fleet} {a1 : api_Rotation} {r : (List api_Step)} (h0 : ref33_Choices a0 a1 = some r) : FnOK Try.prog 12 [] [.agg (api_Fleet_av a0), .agg (api_Rotation_av a1)] (.d (.slice (rowsF api_Step_row r))) [] := by
  unfold ref33_Choices at h0
  refine fn_ok (nt := 32) (rs := [.tmp 4]) Try.func12 rfl Try.ntmps12 rfl (by simp) (by decide) rfl fun K => ?_
  refine kr [2, 3] (by simp; rfl) ?_
  refine kr [2, 3, 5] (by simp; rfl) ?_
  refine tr_seq ?_
  refine kr [2, 3, 5, 6] (by simp; rfl) ?_
  refine tr_wk (wk_own 5 29 43 2 (by simp) (by simp)) ?_
  replace h0 := bnd h0; obtain ⟨e1, hI1, h0⟩ := h0
  refine tjv (fun v1 : (List api_Step) => ({ nt := 32, env := [(5, .vec 29)], box := [], vec := [(29, ⟨43, 2, rowsF api_Step_row v1⟩)] } : St)) (fun v1 => v1 = e1) (fun v1 hI1e _ W1 => ?_) ?_
  · subst hI1e
    refine tr_wk W1 ?_
    refine kr [4] (by simp; rfl) ?_
    cases h0
    exact tr_ret ⟨[29], by simp, rfl, by simp⟩
  · refine tr_block (tr_iter (fun s2 : Int × (List api_Step) => ({ nt := 32, env := [(2, .ptr 2 0), (3, .ptr 3 0), (5, .vec 29), (6, .d (.int .i64 s2.1))], box := [(2, [.d (.int .i64 a0.Slots), .d (.slice (rowsF api_Consumer_row a0.Consumers))]), (3, [.d (.int .i64 a1.Known), .d (.int .i64 a1.Valid), .d (.slice (rowsF api_Unit_row a1.Units))])], vec := [(29, ⟨43, 2, rowsF api_Step_row s2.2⟩)] } : St)) hI1 (wk (by simp [weak_iff])) fun G1 s2 o1 h1 hg1 he1 => ?_)
    unfold ref33_Choices_l0 at h1
    refine tr_seq ?_
    refine kr [2, 3, 5, 6, 10] (by simp; rfl) ?_
    refine tr_cond (b := (decide (s2.1 ≤ 8))) (by simp) (fun c18 => ?_) (fun c18 => ?_)
    · rw [if_pos c18] at h1
      refine tr_skip ?_
      refine tr_seq ?_
      refine tr_block ?_
      refine kr [2, 3, 5, 6, 15, 16] (by simp; rfl) ?_
      replace h1 := bnd h1; obtain ⟨e2, hI2, h1⟩ := h1
      refine tjv (fun v3 : (List api_Step) => ({ nt := 32, env := [(2, .ptr 2 0), (3, .ptr 3 0), (5, .vec 29), (6, .d (.int .i64 s2.1))], box := [(2, [.d (.int .i64 a0.Slots), .d (.slice (rowsF api_Consumer_row a0.Consumers))]), (3, [.d (.int .i64 a1.Known), .d (.int .i64 a1.Valid), .d (.slice (rowsF api_Unit_row a1.Units))])], vec := [(29, ⟨43, 2, rowsF api_Step_row v3⟩)] } : St)) (fun v3 => v3 = e2) (fun v3 hI2e _ W2 => ?_) ?_
      · subst hI2e
        refine tr_wk W2 ?_
        refine lr (by simp; rfl) ?_
        exact ⟨_, hg1 _ (Option.some.inj h1), wk (by simp [weak_iff])⟩
      · refine tr_block (tr_iter (fun s4 : Int × (List api_Step) => ({ nt := 32, env := [(2, .ptr 2 0), (3, .ptr 3 0), (5, .vec 29), (6, .d (.int .i64 s2.1)), (15, .d (.int .i64 ((a0.Consumers).length : Int))), (16, .d (.int .i64 s4.1))], box := [(2, [.d (.int .i64 a0.Slots), .d (.slice (rowsF api_Consumer_row a0.Consumers))]), (3, [.d (.int .i64 a1.Known), .d (.int .i64 a1.Valid), .d (.slice (rowsF api_Unit_row a1.Units))])], vec := [(29, ⟨43, 2, rowsF api_Step_row s4.2⟩)] } : St)) hI2 (wk (by simp [weak_iff])) fun G2 s4 o2 h2 hg2 he2 => ?_)
        unfold ref33_Choices_l1 at h2
        refine kr [2, 3, 5, 6, 15, 16, 17] (by simp; rfl) ?_
        refine tr_seq ?_
        refine tr_cond (b := (decide (s4.1 < ((a0.Consumers).length : Int)))) (by simp) (fun c23 => ?_) (fun c23 => ?_)
        · rw [if_pos c23] at h2
          refine tr_skip ?_
          refine tr_seq ?_
          refine tr_block ?_
          refine kr [2, 3, 5, 6, 7, 15, 16] (by simp; rfl) ?_
          refine kr [2, 3, 5, 6, 8, 15, 16] (by simp; rfl) ?_
          refine kc ?_
          refine ko [2, 3, 5, 6, 8, 15, 16, 22, 23, 24] 3 (by simp; rfl) ?_
          replace h2 := bnd h2; obtain ⟨y5, hy5, h2⟩ := h2
          refine kcall [2, 3, 5, 6, 8, 15, 16, 25] [] (ref33_Safe_ok hy5) rfl rfl rfl Try.call20 (by simp) (by simp; rfl) ?_
          refine tops_nil ?_
          refine tr_cond (b := y5) (by simp) (fun c24 => ?_) (fun c24 => ?_)
          · rw [if_pos c24] at h2
            replace h2 := bnd h2; obtain ⟨_, p9, h2⟩ := h2
            replace p9 := ck_some p9
            have p9' := p9; try simp at p9'
            refine lr (by simp [p9, p9']; rfl) ?_
            refine lr (by simp; rfl) ?_
            exact ⟨_, hg2 _ (Option.some.inj h2), wk (by simp [weak_iff])⟩
          · rw [if_neg (by rw [c24]; decide)] at h2
            refine tr_skip ?_
            refine lr (by simp; rfl) ?_
            exact ⟨_, hg2 _ (Option.some.inj h2), wk (by simp [weak_iff])⟩
        · rw [if_neg (by rw [c23]; decide)] at h2
          refine tr_exit ?_
          exact ⟨_, he2 _ (Option.some.inj h2), wk (by simp [weak_iff])⟩
    · rw [if_neg (by rw [c18]; decide)] at h1
      refine tr_exit ?_
      exact ⟨_, he1 _ (Option.some.inj h1), wk (by simp [weak_iff])⟩
set_option maxHeartbeats 1000000 in
theorem search_Shortest_ok {a0 : api_Fleet} {a1 : api_Rotation} {r : (List api_Step) × Bool × Int} (h0 : search_Shortest a0 a1 = some r) : FnOK Try.prog 18 [] [.agg (api_Fleet_av a0), .agg (api_Rotation_av a1)] (.tup [.d (.slice (rowsF api_Step_row r.1)), .d (.bool r.2.1), .d (.int .i64 r.2.2)]) [] := by
  unfold search_Shortest at h0
  refine fn_ok (nt := 43) (rs := [.tmp 4, .tmp 5, .tmp 6]) Try.func18 rfl Try.ntmps18 rfl (by simp) (by decide) rfl fun K => ?_
  refine kr [2, 3] (by simp; rfl) ?_
  refine kc ?_
  refine ko [12, 13] 2 (by simp; rfl) ?_
  replace h0 := bnd h0; obtain ⟨y1, hy1, h0⟩ := h0
  refine kcall [14] [] (search_end_ok hy1) rfl rfl rfl Try.call37 (by simp) (by simp; rfl) ?_
  refine ko [7, 8, 9] 7 (by simp; rfl) ?_
  refine tops_nil ?_
  refine tr_seq ?_
  refine kr [7, 8, 9, 19] (by simp; rfl) ?_
  refine tr_cond (b := (decide (y1.2.1 < 0))) (by simp) (fun c1 => ?_) (fun c1 => ?_)
  · rw [if_pos c1] at h0
    refine kr [4, 5, 6] (by simp; rfl) ?_
    cases h0
    exact tr_ret ⟨[], by simp, rfl, by simp⟩
  · rw [if_neg (by rw [c1]; decide)] at h0
    refine tr_skip ?_
    refine kr [7, 8, 10] (by simp; rfl) ?_
    refine tr_wk (wk_own 10 39 43 2 (by simp) (by simp)) ?_
    replace h0 := bnd h0; obtain ⟨e1, hI1, h0⟩ := h0
    refine sjv (fun v2 : (List api_Step) => ({ nt := 43, env := [(10, .vec 39)], box := [], vec := [(39, ⟨43, 2, rowsF api_Step_row v2⟩)] } : St)) (fun v2 => v2 = e1) (fun v2 hI1e => ?_) ?_
    · subst hI1e
      refine kc ?_
      refine ko [10, 40] 1 (by simp; rfl) ?_
      replace h0 := bnd h0; obtain ⟨y3, hy3, h0⟩ := h0
      refine kcallH [10] [] [39] [(10, 39), (40, 39)] (slices_Reverse_api_Step_vec0_ok hy3) rfl rfl rfl Try.call38 (by simp) (by simp; rfl) ?_
      refine tops_nil ?_
      refine kr [4, 5, 6] (by simp; rfl) ?_
      cases h0
      exact tr_ret ⟨[39], by simp, rfl, by simp⟩
    · refine tr_block (tr_iter (fun s4 : Int × (List api_Step) => ({ nt := 43, env := [(7, .d (.slice (rowsF search_found_row y1.1))), (8, .d (.int .i64 s4.1)), (10, .vec 39)], box := [], vec := [(39, ⟨43, 2, rowsF api_Step_row s4.2⟩)] } : St)) hI1 (wk (by simp [weak_iff])) fun G1 s4 o1 h1 hg1 he1 => ?_)
      unfold search_Shortest_l0 at h1
      refine tr_seq ?_
      replace h1 := bnd h1; obtain ⟨x5, p6, h1⟩ := h1
      replace p6 := idx_some p6
      have p6' := p6; try simp at p6'
      refine kr [7, 8, 10, 26] (by simp [p6, p6']; rfl) ?_
      refine tr_cond (b := (decide (0 ≤ x5.before))) (by simp) (fun c5 => ?_) (fun c5 => ?_)
      · rw [if_pos c5] at h1
        refine tr_skip ?_
        refine tr_seq ?_
        refine tr_block ?_
        replace h1 := bnd h1; obtain ⟨_, p7, h1⟩ := h1
        replace p7 := ck_some p7
        have p7' := p7; try simp at p7'
        refine lr (by simp [p6, p7, p6', p7']; rfl) ?_
        refine lr (by simp [p6, p6']; rfl) ?_
        exact ⟨_, hg1 _ (Option.some.inj h1), wk (by simp [weak_iff])⟩
      · rw [if_neg (by rw [c5]; decide)] at h1
        refine tr_exit ?_
        exact ⟨_, he1 _ (Option.some.inj h1), wk (by simp [weak_iff])⟩
set_option maxHeartbeats 1000000 in
theorem ref32_Ended_ok {a0 : api_Fleet} {a1 : api_Rotation} {r : Bool} (h0 : ref32_Ended a0 a1 = some r) : FnOK Try.prog 19 [] [.agg (api_Fleet_av a0), .agg (api_Rotation_av a1)] (.d (.bool r)) [] := by
  unfold ref32_Ended at h0
  refine fn_ok (nt := 37) (rs := [.tmp 4]) Try.func19 rfl Try.ntmps19 rfl (by simp) (by decide) rfl fun K => ?_
  refine kr [2, 3] (by simp; rfl) ?_
  refine tr_seq ?_
  replace h0 := bnd h0; obtain ⟨v1, hvv1, h0⟩ := h0
  refine sjv (fun v1_ : Bool => ({ nt := 37, env := [(3, .ptr 3 0), (15, .d (.bool v1_))], box := [(3, [.d (.int .i64 a1.Known), .d (.int .i64 a1.Valid), .d (.slice (rowsF api_Unit_row a1.Units))])], vec := [] } : St)) (fun v1_ => v1 = v1_) (fun v1_ e => ?_) ?_
  · subst e
    refine tr_cond (b := v1) (by simp) (fun c3 => ?_) (fun c3 => ?_)
    · rw [if_pos c3] at h0
      refine kr [4] (by simp; rfl) ?_
      cases h0
      exact tr_ret ⟨[], by simp, rfl, by simp⟩
    · rw [if_neg (by rw [c3]; decide)] at h0
      refine tr_skip ?_
      refine tr_seq ?_
      refine kr [17, 18, 19] (by simp; rfl) ?_
      replace h0 := bnd h0; obtain ⟨e1, hI1, h0⟩ := h0
      refine tjv (fun v2 : Unit => ({ nt := 37, env := [], box := [], vec := [] } : St)) (fun v2 => .inl v2 = e1) (fun v2 hI1e _ W1 => ?_) ?_
      · subst hI1e
        dsimp only at h0
        refine tr_wk W1 ?_
        refine kr [4] (by simp; rfl) ?_
        cases h0
        exact tr_ret ⟨[], by simp, rfl, by simp⟩
      · refine tr_block (tr_iter (fun s3 : Int => ({ nt := 37, env := [(17, .d (.slice (rowsF api_Unit_row a1.Units))), (18, .d (.int .i64 ((a1.Units).length : Int))), (19, .d (.int .i64 s3))], box := [], vec := [] } : St)) hI1 (wk (by simp [weak_iff])) fun G1 s3 o1 h1 hg1 he1 => ?_)
        unfold ref32_Ended_l0 at h1
        refine kr [17, 18, 19, 20] (by simp; rfl) ?_
        refine tr_seq ?_
        refine tr_cond (b := (decide (s3 < ((a1.Units).length : Int)))) (by simp) (fun c12 => ?_) (fun c12 => ?_)
        · rw [if_pos c12] at h1
          refine tr_skip ?_
          refine tr_seq ?_
          refine tr_block ?_
          replace h1 := bnd h1; obtain ⟨x4, p3, h1⟩ := h1
          replace p3 := idx_some p3
          have p3' := p3; try simp at p3'
          refine kr [6, 17, 18, 19] (by simp [p3, p3']; rfl) ?_
          replace h1 := bnd h1; obtain ⟨v5, hvv5, h1⟩ := h1
          refine sjv (fun v5_ : Bool => ({ nt := 37, env := [(17, .d (.slice (rowsF api_Unit_row a1.Units))), (18, .d (.int .i64 ((a1.Units).length : Int))), (19, .d (.int .i64 s3)), (35, .d (.bool v5_))], box := [], vec := [] } : St)) (fun v5_ => v5 = v5_) (fun v5_ e => ?_) ?_
          · subst e
            refine tr_cond (b := v5) (by simp) (fun c17 => ?_) (fun c17 => ?_)
            · rw [if_pos c17] at h1
              refine kr [4] (by simp; rfl) ?_
              have k1 := he1 _ (Option.some.inj h1)
              subst k1
              dsimp only at h0
              cases h0
              exact tr_ret ⟨[], by simp, rfl, by simp⟩
            · rw [if_neg (by rw [c17]; decide)] at h1
              refine tr_skip ?_
              refine lr (by simp; rfl) ?_
              exact ⟨_, hg1 _ (Option.some.inj h1), wk (by simp [weak_iff])⟩
          · refine kc1 ?_
            refine ko [6, 17, 18, 19, 26] 4 (by simp; rfl) ?_
            refine tops_split 26 (!x4.Up) (by simp) (fun c18 => ?_) (fun c18 => ?_)
            · rw [c18] at hvv5
              refine kskip 3 [] (by kernel_rfl) ?_
              refine ko [6, 17, 18, 19, 31] 2 (by simp; rfl) ?_
              refine kskip 3 [] (by kernel_rfl) ?_
              refine ko [17, 18, 19, 35] 1 (by simp; rfl) ?_
              refine tops_nil ?_
              cases hvv5
              exact ⟨_, rfl, wk (by simp [weak_iff])⟩
            · rw [c18] at hvv5
              refine ko [6, 17, 18, 19, 27, 28, 29, 31] 5 (by simp; rfl) ?_
              refine tops_split 31 (x4.Stored != 2) (by simp) (fun c19 => ?_) (fun c19 => ?_)
              · rw [c19] at hvv5
                refine kskip 3 [] (by kernel_rfl) ?_
                refine ko [17, 18, 19, 27, 28, 29, 35] 1 (by simp; rfl) ?_
                refine tops_nil ?_
                cases hvv5
                exact ⟨_, rfl, wk (by simp [weak_iff])⟩
              · rw [c19] at hvv5
                refine ko [17, 18, 19, 27, 28, 29, 32, 33, 34, 35] 4 (by simp; rfl) ?_
                refine tops_nil ?_
                cases hvv5
                exact ⟨_, rfl, wk (by simp [weak_iff])⟩
        · rw [if_neg (by rw [c12]; decide)] at h1
          refine tr_exit ?_
          exact ⟨_, he1 _ (Option.some.inj h1), wk (by simp [weak_iff])⟩
  · refine kc1 ?_
    refine ko [3, 7, 8] 2 (by simp; rfl) ?_
    replace hvv1 := bnd hvv1; obtain ⟨y8, hy8, hvv1⟩ := hvv1
    refine kcall [3, 9] [] (ref32_Right_ok hy8) rfl rfl rfl Try.call33 (by simp) (by simp; rfl) ?_
    refine ko [3, 11] 2 (by simp; rfl) ?_
    refine tops_split 11 (!y8) (by simp) (fun c20 => ?_) (fun c20 => ?_)
    · rw [if_pos c20] at hvv1
      refine kskip 3 [] (by kernel_rfl) ?_
      refine ko [3, 15] 1 (by simp; rfl) ?_
      refine tops_nil ?_
      cases hvv1
      exact ⟨_, rfl, wk (by simp [weak_iff])⟩
    · rw [if_neg (by rw [c20]; decide)] at hvv1
      refine ko [3, 15] 4 (by simp; rfl) ?_
      refine tops_nil ?_
      cases hvv1
      exact ⟨_, rfl, wk (by simp [weak_iff])⟩
set_option maxHeartbeats 1000000 in
theorem make_Step_ok {a0 : make_Tape} {a1 : api_Fleet} {r : api_Step × make_Tape} (h0 : make_Step a0 a1 = some r) : FnOK Try.prog 30 [make_Tape_av a0] [.ptr (InO 0) 0, .agg (api_Fleet_av a1)] (.agg (api_Step_av r.1)) [make_Tape_av r.2] := by
  unfold make_Step at h0
  refine fn_ok (nt := 24) (rs := [.cell 4 43]) Try.func30 rfl Try.ntmps30 rfl (by simp) (by decide) rfl fun K => ?_
  refine kr [0, 3, 4] (by simp; rfl) ?_
  refine kc ?_
  refine ko [0, 3, 4, 6] 1 (by simp; rfl) ?_
  replace h0 := bnd h0; obtain ⟨y1, hy1, h0⟩ := h0
  refine kcall [0, 3, 4, 7] [1000000] (make_Tape_Between_ok hy1) rfl rfl rfl Try.call29 (by simp) (by simp; rfl) ?_
  refine ko [0, 3, 4, 5] 3 (by simp; rfl) ?_
  refine tops_nil ?_
  refine tr_seq ?_
  replace h0 := bnd h0; obtain ⟨v2, hvv2, h0⟩ := h0
  refine sjv (fun v2_ : Bool => ({ nt := 24, env := [(0, .ptr 1000000 0), (3, .ptr 3 0), (4, .ptr 4 0), (5, .ptr 5 0), (16, .d (.bool v2_))], box := [(3, [.d (.int .i64 a1.Slots), .d (.slice (rowsF api_Consumer_row a1.Consumers))]), (4, [.d (.int .i64 0), .d (.int .i64 0)]), (5, [.d (.int .i64 y1.1), .d (.int .i64 0)]), (1000000, [.d (.slice (rowsF (iRow .i64) y1.2.L)), .d (.int .i64 y1.2.at_)])], vec := [] } : St)) (fun v2_ => v2 = v2_) (fun v2_ e => ?_) ?_
  · subst e
    refine tr_cond (b := v2) (by simp) (fun c3 => ?_) (fun c3 => ?_)
    · rw [if_pos c3] at h0
      refine kc1 ?_
      refine ko [4, 5, 17, 20] 4 (by simp; rfl) ?_
      replace h0 := bnd h0; obtain ⟨y3, hy3, h0⟩ := h0
      refine kcall [4, 5, 21] [1000000] (make_Tape_Next_ok hy3) rfl rfl rfl Try.call14 (by simp) (by simp; rfl) ?_
      refine ko [4, 5] 2 (by simp; rfl) ?_
      refine tops_nil ?_
      refine kr [4] (by simp; rfl) ?_
      cases h0
      exact tr_ret ⟨[], by simp, rfl, by simp⟩
    · rw [if_neg (by rw [c3]; decide)] at h0
      refine tr_skip ?_
      refine kr [4] (by simp; rfl) ?_
      cases h0
      exact tr_ret ⟨[], by simp, rfl, by simp⟩
  · refine kc1 ?_
    refine ko [0, 3, 4, 5, 12] 4 (by simp; rfl) ?_
    refine tops_split 12 (decide (4 ≤ y1.1)) (by simp) (fun c4 => ?_) (fun c4 => ?_)
    · rw [c4] at hvv2
      refine ko [0, 3, 4, 5, 16] 4 (by simp; rfl) ?_
      refine tops_nil ?_
      cases hvv2
      exact ⟨_, rfl, wk (by simp [weak_iff])⟩
    · rw [c4] at hvv2
      refine kskip 3 [] (by kernel_rfl) ?_
      refine ko [0, 3, 4, 5, 16] 1 (by simp; rfl) ?_
      refine tops_nil ?_
      cases hvv2
      exact ⟨_, rfl, wk (by simp [weak_iff])⟩
set_option maxHeartbeats 1000000 in
theorem make_State_ok {a0 : make_Tape} {a1 : api_Fleet} {r : api_Rotation × make_Tape} (h0 : make_State a0 a1 = some r) : FnOK Try.prog 10 [make_Tape_av a0] [.ptr (InO 0) 0, .agg (api_Fleet_av a1)] (.agg (api_Rotation_av r.1)) [make_Tape_av r.2] := by
  unfold make_State at h0
  refine fn_ok (nt := 37) (rs := [.cell 4 33]) Try.func10 rfl Try.ntmps10 rfl (by simp) (by decide) rfl fun K => ?_
  refine kr [0, 3, 4] (by simp; rfl) ?_
  refine kc ?_
  refine ko [0, 3, 4, 11] 1 (by simp; rfl) ?_
  replace h0 := bnd h0; obtain ⟨y1, hy1, h0⟩ := h0
  refine kcall [0, 3, 4, 12] [] (ref32_Start_ok hy1) rfl rfl rfl Try.call22 (by simp) (by simp; rfl) ?_
  refine ko [0, 3, 4, 5, 6] 6 (by simp; rfl) ?_
  refine tops_nil ?_
  refine tr_seq ?_
  refine kr [0, 3, 4, 5, 16] (by simp; rfl) ?_
  refine tr_cond (b := (y1.2 != 0)) (by simp) (fun c1 => ?_) (fun c1 => ?_)
  · rw [if_pos c1] at h0
    refine kr [4] (by simp; rfl) ?_
    cases h0
    exact tr_ret ⟨[], by simp, rfl, by simp⟩
  · rw [if_neg (by rw [c1]; decide)] at h0
    refine tr_skip ?_
    refine tr_seq ?_
    refine kc ?_
    refine ko [0, 3, 4, 5, 18] 1 (by simp; rfl) ?_
    replace h0 := bnd h0; obtain ⟨y2, hy2, h0⟩ := h0
    refine kcall [0, 3, 4, 5, 19] [1000000] (make_Tape_Next_ok hy2) rfl rfl rfl Try.call14 (by simp) (by simp; rfl) ?_
    refine ko [0, 3, 4, 5, 7] 1 (by simp; rfl) ?_
    refine tops_nil ?_
    replace h0 := bnd h0; obtain ⟨e1, hI1, h0⟩ := h0
    refine tjv (fun v3 : (List Int) × Int × Int × Int × (List api_Unit) => ({ nt := 37, env := [(4, .ptr 4 0), (5, .ptr 5 0)], box := [(4, [.d (.int .i64 0), .d (.int .i64 0), .nilS]), (5, [.d (.int .i64 v3.2.2.1), .d (.int .i64 v3.2.2.2.1), .d (.slice (rowsF api_Unit_row v3.2.2.2.2))]), (1000000, [.d (.slice (rowsF (iRow .i64) v3.1)), .d (.int .i64 v3.2.1)])], vec := [] } : St)) (fun v3 => v3 = e1) (fun v3 hI1e _ W1 => ?_) ?_
    · subst hI1e
      refine tr_wk W1 ?_
      refine kr [4] (by simp; rfl) ?_
      cases h0
      exact tr_ret ⟨[], by simp, rfl, by simp⟩
    · refine tr_block (tr_iter (fun s4 : Int × (List Int) × Int × Int × Int × (List api_Unit) => ({ nt := 37, env := [(0, .ptr 1000000 0), (3, .ptr 3 0), (4, .ptr 4 0), (5, .ptr 5 0), (7, .d (.int .i64 s4.1))], box := [(3, [.d (.int .i64 a1.Slots), .d (.slice (rowsF api_Consumer_row a1.Consumers))]), (4, [.d (.int .i64 0), .d (.int .i64 0), .nilS]), (5, [.d (.int .i64 s4.2.2.2.1), .d (.int .i64 s4.2.2.2.2.1), .d (.slice (rowsF api_Unit_row s4.2.2.2.2.2))]), (1000000, [.d (.slice (rowsF (iRow .i64) s4.2.1)), .d (.int .i64 s4.2.2.1)])], vec := [] } : St)) hI1 (wk (by simp [weak_iff])) fun G1 s4 o1 h1 hg1 he1 => ?_)
      unfold make_State_l0 at h1
      refine tr_seq ?_
      refine kr [0, 3, 4, 5, 7, 21] (by simp; rfl) ?_
      refine tr_cond (b := (decide (0 < s4.1))) (by simp) (fun c6 => ?_) (fun c6 => ?_)
      · rw [if_pos c6] at h1
        refine tr_skip ?_
        refine tr_seq ?_
        refine tr_block ?_
        refine kd [[], [], [], [], [2, 3], [0, 1, 4], [5], [6], [6], [], [7, 9], [8, 9]] [4, 9, 10] [(8, [9, 10]), (1000000, [4])] none [] 12 fol (by decide +kernel) (by simp) ?_
        refine dr_go 0 2 rfl (by simp (maxSteps := 1000000); rfl) ?_
        refine dr_go 2 2 rfl (by simp (maxSteps := 1000000); rfl) ?_
        replace h1 := bnd h1; obtain ⟨y5, hy5, h1⟩ := h1
        refine dr_call 4 [1000000] (make_Step_ok hy5) rfl rfl rfl rfl rfl Try.call30 (by simp) ?_
        replace h1 := bnd h1; obtain ⟨y6, hy6, h1⟩ := h1
        refine dr_call 5 [] (ref33_Apply_ok hy6) rfl rfl rfl rfl rfl Try.call13 (by simp) ?_
        refine dr_go 6 2 rfl (by simp (maxSteps := 1000000); rfl) ?_
        refine dr_go 8 2 rfl (by simp (maxSteps := 1000000); rfl) ?_
        refine dr_go 10 2 rfl (by simp (maxSteps := 1000000); rfl) ?_
        refine dr_end rfl (tops_nil ?_)
        refine kr [0, 3, 4, 5, 7, 8, 34] (by simp; rfl) ?_
        refine tr_cond (b := (y6.2 == 0)) (by simp) (fun c7 => ?_) (fun c7 => ?_)
        · rw [if_pos c7] at h1
          refine lr (by simp; rfl) ?_
          refine lr (by simp; rfl) ?_
          exact ⟨_, hg1 _ (Option.some.inj h1), wk (by simp [weak_iff])⟩
        · rw [if_neg (by rw [c7]; decide)] at h1
          refine tr_skip ?_
          refine lr (by simp; rfl) ?_
          exact ⟨_, hg1 _ (Option.some.inj h1), wk (by simp [weak_iff])⟩
      · rw [if_neg (by rw [c6]; decide)] at h1
        refine tr_exit ?_
        exact ⟨_, he1 _ (Option.some.inj h1), wk (by simp [weak_iff])⟩
set_option maxHeartbeats 1000000 in
theorem search_Count_ok {a0 : api_Fleet} {a1 : api_Rotation} {r : Int × Int} (h0 : search_Count a0 a1 = some r) : FnOK Try.prog 11 [] [.agg (api_Fleet_av a0), .agg (api_Rotation_av a1)] (.tup [.d (.int .i64 r.1), .d (.int .i64 r.2)]) [] := by
  unfold search_Count at h0
  refine fn_ok (nt := 17) (rs := [.tmp 4, .tmp 5]) Try.func11 rfl Try.ntmps11 rfl (by simp) (by decide) rfl fun K => ?_
  refine kr [2, 3] (by simp; rfl) ?_
  refine tr_seq ?_
  refine kc ?_
  refine ko [2, 3, 7, 8] 2 (by simp; rfl) ?_
  replace h0 := bnd h0; obtain ⟨y1, hy1, h0⟩ := h0
  refine kcall [2, 3, 9] [] (search_check_ok hy1) rfl rfl rfl Try.call31 (by simp) (by simp; rfl) ?_
  refine ko [2, 3, 6] 1 (by simp; rfl) ?_
  refine tops_nil ?_
  refine kr [2, 3, 6, 11] (by simp; rfl) ?_
  refine tr_cond (b := (y1 != 0)) (by simp) (fun c1 => ?_) (fun c1 => ?_)
  · rw [if_pos c1] at h0
    refine kr [4, 5] (by simp; rfl) ?_
    cases h0
    exact tr_ret ⟨[], by simp, rfl, by simp⟩
  · rw [if_neg (by rw [c1]; decide)] at h0
    refine tr_skip ?_
    refine kc ?_
    refine ko [13, 14] 2 (by simp; rfl) ?_
    replace h0 := bnd h0; obtain ⟨y2, hy2, h0⟩ := h0
    refine kcall [15] [] (search_all_ok hy2) rfl rfl rfl Try.call32 (by simp) (by simp; rfl) ?_
    refine ko [4, 5] 3 (by simp; rfl) ?_
    refine tops_nil ?_
    cases h0
    exact tr_ret ⟨[], by simp, rfl, by simp⟩
set_option maxHeartbeats 1000000 in
theorem make_Fleet_own1_ok {a0 : make_Tape} {a1 : Int} {r : api_Fleet × make_Tape} (h0 : make_Fleet_own1 a0 a1 = some r) : FnOKv Try.prog 9 [make_Tape_av a0] [] [.ptr (InO 0) 0, .d (.int .i64 a1)] (.agg [.d (.int .i64 r.1.Slots), .vec (InV 0)]) [make_Tape_av r.2] [⟨65, 3, rowsF api_Consumer_row r.1.Consumers⟩] := by
  unfold make_Fleet_own1 at h0
  refine fn_okv (nt := 32) (rs := [.cell 4 29]) Try.func9 rfl Try.ntmps9 rfl (by simp) (by decide) rfl fun K => ?_
  refine kr [0, 1, 4] (by simp; rfl) ?_
  refine kc ?_
  refine ko [0, 1, 4, 7] 1 (by simp; rfl) ?_
  replace h0 := bnd h0; obtain ⟨y1, hy1, h0⟩ := h0
  refine kcall [0, 1, 4, 8] [1000000] (make_Tape_Between_ok hy1) rfl rfl rfl Try.call29 (by simp) (by simp; rfl) ?_
  refine ko [0, 1, 4, 5] 3 (by simp; rfl) ?_
  refine tops_nil ?_
  refine tr_seq ?_
  refine kc ?_
  refine ko [0, 4, 5, 10, 11] 2 (by simp; rfl) ?_
  replace h0 := bnd h0; obtain ⟨y2, hy2, h0⟩ := h0
  refine kcall [0, 4, 5, 12] [1000000] (make_Tape_Between_ok hy2) rfl rfl rfl Try.call29 (by simp) (by simp; rfl) ?_
  refine ko [0, 4, 5, 6] 1 (by simp; rfl) ?_
  refine tops_nil ?_
  refine tr_wk (wk_ownbox 5 1 29 65 3 (by simp; rfl) (by simp) (by simp)) ?_
  replace h0 := bnd h0; obtain ⟨e1, hI1, h0⟩ := h0
  refine tjv (fun v3 : (List Int) × Int × (List api_Consumer) => ({ nt := 32, env := [(4, .ptr 4 0), (5, .ptr 5 0)], box := [(4, [.d (.int .i64 0), .nilS]), (5, [.d (.int .i64 y1.1), .vec 29]), (1000000, [.d (.slice (rowsF (iRow .i64) v3.1)), .d (.int .i64 v3.2.1)])], vec := [(29, ⟨65, 3, rowsF api_Consumer_row v3.2.2⟩)] } : St)) (fun v3 => v3 = e1) (fun v3 hI1e _ W1 => ?_) ?_
  · subst hI1e
    refine tr_wk W1 ?_
    refine kr [4] (by simp; rfl) ?_
    cases h0
    exact tr_ret ⟨[], [29], by simp, by simp, by simp, by simp, by simp⟩
  · refine tr_block (tr_iter (fun s4 : Int × (List Int) × Int × (List api_Consumer) => ({ nt := 32, env := [(0, .ptr 1000000 0), (4, .ptr 4 0), (5, .ptr 5 0), (6, .d (.int .i64 s4.1))], box := [(4, [.d (.int .i64 0), .nilS]), (5, [.d (.int .i64 y1.1), .vec 29]), (1000000, [.d (.slice (rowsF (iRow .i64) s4.2.1)), .d (.int .i64 s4.2.2.1)])], vec := [(29, ⟨65, 3, rowsF api_Consumer_row s4.2.2.2⟩)] } : St)) hI1 (wk (by simp [weak_iff])) fun G1 s4 o1 h1 hg1 he1 => ?_)
    unfold make_Fleet_own1_l0 at h1
    refine tr_seq ?_
    refine kr [0, 4, 5, 6, 14] (by simp; rfl) ?_
    refine tr_cond (b := (decide (0 < s4.1))) (by simp) (fun c4 => ?_) (fun c4 => ?_)
    · rw [if_pos c4] at h1
      refine tr_skip ?_
      refine tr_seq ?_
      refine tr_block ?_
      refine tr_wk (wk_ren 29 700029) ?_
      refine kd1 [[], [0], [], [2], [], [3, 4], [5], [], [3, 5, 7], [8], [3, 5, 6, 9], [3, 5, 10], [1, 3, 5, 8, 11], [12], [1, 12, 13]] [3, 5, 8, 12, 14] [(5, [12, 14]), (1000000, [3, 5, 8, 12])] (some (12, 700029)) [18] 15 fol (by decide +kernel) (by simp) ?_
      refine dr_go 0 2 rfl (by simp (maxSteps := 1000000); rfl) ?_
      refine dr_go 2 1 rfl (by simp (maxSteps := 1000000); rfl) ?_
      replace h1 := bnd h1; obtain ⟨y5, hy5, h1⟩ := h1
      refine dr_call 3 [1000000] (make_Tape_Next_ok hy5) rfl rfl rfl rfl rfl Try.call14 (by simp) ?_
      refine dr_go 4 1 rfl (by simp (maxSteps := 1000000); rfl) ?_
      replace h1 := bnd h1; obtain ⟨y6, hy6, h1⟩ := h1
      refine dr_call 5 [1000000] (make_Tape_Next_ok hy6) rfl rfl rfl rfl rfl Try.call14 (by simp) ?_
      refine dr_go 6 2 rfl (by simp (maxSteps := 1000000); rfl) ?_
      replace h1 := bnd h1; obtain ⟨y7, hy7, h1⟩ := h1
      refine dr_call 8 [1000000] (make_Tape_Next_ok hy7) rfl rfl rfl rfl rfl Try.call14 (by simp) ?_
      replace h1 := bnd h1; obtain ⟨_, p12, h1⟩ := h1
      replace p12 := ck_some p12
      have p12' := p12; try simp at p12'
      refine dr_go 9 2 rfl (by simp (maxSteps := 1000000) [p12, p12']; rfl) ?_
      refine dr_go 11 2 rfl (by simp (maxSteps := 1000000) [p12, p12']; rfl) ?_
      refine dr_go 13 2 rfl (by simp (maxSteps := 1000000) [p12, p12']; rfl) ?_
      refine dr_end rfl (tops_nil ?_)
      refine lr (by simp; rfl) ?_
      exact ⟨_, hg1 _ (Option.some.inj h1), wk (by simp [weak_iff])⟩
    · rw [if_neg (by rw [c4]; decide)] at h1
      refine tr_exit ?_
      exact ⟨_, he1 _ (Option.some.inj h1), wk (by simp [weak_iff])⟩
set_option maxHeartbeats 1000000 in
theorem ref33_Fault_ok {a0 : api_Fleet} {a1 : api_Rotation} {a2 : List api_Step} {r : Int × Int} (h0 : ref33_Fault a0 a1 a2 = some r) : FnOK Try.prog 43 [] [.agg (api_Fleet_av a0), .agg (api_Rotation_av a1), .d (.slice (rowsF api_Step_row a2))] (.tup [.d (.int .i64 r.1), .d (.int .i64 r.2)]) [] := by
  unfold ref33_Fault at h0
  refine fn_ok (nt := 47) (rs := [.tmp 6, .tmp 7]) Try.func43 rfl Try.ntmps43 rfl (by simp) (by decide) rfl fun K => ?_
  refine kr [2, 3, 4] (by simp; rfl) ?_
  refine tr_seq ?_
  refine kc ?_
  refine ko [2, 3, 4, 12, 13] 2 (by simp; rfl) ?_
  replace h0 := bnd h0; obtain ⟨y1, hy1, h0⟩ := h0
  refine kcall [2, 3, 4, 14] [] (ref32_Right_ok hy1) rfl rfl rfl Try.call33 (by simp) (by simp; rfl) ?_
  refine ko [2, 3, 4, 15] 1 (by simp; rfl) ?_
  refine tops_nil ?_
  refine tr_cond (b := (!y1)) (by simp) (fun c1 => ?_) (fun c1 => ?_)
  · rw [if_pos c1] at h0
    refine kr [6, 7] (by simp; rfl) ?_
    cases h0
    exact tr_ret ⟨[], by simp, rfl, by simp⟩
  · rw [if_neg (by rw [c1]; decide)] at h0
    refine tr_skip ?_
    refine tr_seq ?_
    refine kr [2, 3, 4, 18] (by simp; rfl) ?_
    refine tr_cond (b := (decide (120 < ((a2).length : Int)))) (by simp) (fun c2 => ?_) (fun c2 => ?_)
    · rw [if_pos c2] at h0
      refine kr [6, 7] (by simp; rfl) ?_
      cases h0
      exact tr_ret ⟨[], by simp, rfl, by simp⟩
    · rw [if_neg (by rw [c2]; decide)] at h0
      refine tr_skip ?_
      refine tr_seq ?_
      refine kr [2, 3, 4, 19, 20, 21] (by simp; rfl) ?_
      replace h0 := bnd h0; obtain ⟨e1, hI1, h0⟩ := h0
      refine tjv (fun v2 : Unit => ({ nt := 47, env := [(2, .d (.slice (rowsF api_Step_row a2)))], box := [], vec := [] } : St)) (fun v2 => .inl v2 = e1) (fun v2 hI1e _ W1 => ?_) ?_
      · subst hI1e
        dsimp only at h0
        refine tr_wk W1 ?_
        refine kr [6, 7] (by simp; rfl) ?_
        cases h0
        exact tr_ret ⟨[], by simp, rfl, by simp⟩
      · refine tr_block (tr_iter (fun s3 : Int × Int × Int × (List api_Unit) => ({ nt := 47, env := [(2, .d (.slice (rowsF api_Step_row a2))), (3, .ptr 3 0), (4, .ptr 4 0), (19, .d (.slice (rowsF api_Step_row a2))), (20, .d (.int .i64 ((a2).length : Int))), (21, .d (.int .i64 s3.1))], box := [(3, [.d (.int .i64 a0.Slots), .d (.slice (rowsF api_Consumer_row a0.Consumers))]), (4, [.d (.int .i64 s3.2.1), .d (.int .i64 s3.2.2.1), .d (.slice (rowsF api_Unit_row s3.2.2.2))])], vec := [] } : St)) hI1 (wk (by simp [weak_iff])) fun G1 s3 o1 h1 hg1 he1 => ?_)
        unfold ref33_Fault_l0 at h1
        refine kr [2, 3, 4, 19, 20, 21, 22] (by simp; rfl) ?_
        refine tr_seq ?_
        refine tr_cond (b := (decide (s3.1 < ((a2).length : Int)))) (by simp) (fun c9 => ?_) (fun c9 => ?_)
        · rw [if_pos c9] at h1
          refine tr_skip ?_
          refine tr_seq ?_
          refine tr_block ?_
          replace h1 := bnd h1; obtain ⟨x4, p3, h1⟩ := h1
          replace p3 := idx_some p3
          have p3' := p3; try simp at p3'
          refine kr [2, 3, 4, 8, 9, 19, 20, 21] (by simp [p3, p3']; rfl) ?_
          refine kc ?_
          refine ko [2, 3, 4, 8, 19, 20, 21, 27, 28, 29] 3 (by simp; rfl) ?_
          replace h1 := bnd h1; obtain ⟨y5, hy5, h1⟩ := h1
          refine kcall [2, 3, 4, 8, 19, 20, 21, 30] [] (ref33_Apply_ok hy5) rfl rfl rfl Try.call13 (by simp) (by simp; rfl) ?_
          refine ko [2, 3, 4, 8, 10, 11, 19, 20, 21] 6 (by simp; rfl) ?_
          refine tops_nil ?_
          refine tr_seq ?_
          refine kr [2, 3, 4, 8, 10, 11, 19, 20, 21, 34] (by simp; rfl) ?_
          refine tr_cond (b := (y5.2 != 0)) (by simp) (fun c10 => ?_) (fun c10 => ?_)
          · rw [if_pos c10] at h1
            refine kr [6, 7] (by simp; rfl) ?_
            have k1 := he1 _ (Option.some.inj h1)
            subst k1
            dsimp only at h0
            cases h0
            exact tr_ret ⟨[], by simp, rfl, by simp⟩
          · rw [if_neg (by rw [c10]; decide)] at h1
            refine tr_skip ?_
            refine tr_seq ?_
            refine kc ?_
            refine ko [2, 3, 4, 8, 10, 19, 20, 21, 37, 38, 39] 3 (by simp; rfl) ?_
            replace h1 := bnd h1; obtain ⟨y6, hy6, h1⟩ := h1
            refine kcall [2, 3, 4, 8, 10, 19, 20, 21, 40] [] (ref33_safe_ok hy6) rfl rfl rfl Try.call39 (by simp) (by simp; rfl) ?_
            refine ko [2, 3, 4, 8, 10, 19, 20, 21, 41] 1 (by simp; rfl) ?_
            refine tops_nil ?_
            refine tr_cond (b := (!y6)) (by simp) (fun c11 => ?_) (fun c11 => ?_)
            · rw [if_pos c11] at h1
              refine kr [6, 7] (by simp; rfl) ?_
              have k1 := he1 _ (Option.some.inj h1)
              subst k1
              dsimp only at h0
              cases h0
              exact tr_ret ⟨[], by simp, rfl, by simp⟩
            · rw [if_neg (by rw [c11]; decide)] at h1
              refine tr_skip ?_
              refine lr (by simp; rfl) ?_
              refine lr (by simp; rfl) ?_
              exact ⟨_, hg1 _ (Option.some.inj h1), wk (by simp [weak_iff])⟩
        · rw [if_neg (by rw [c9]; decide)] at h1
          refine tr_exit ?_
          exact ⟨_, he1 _ (Option.some.inj h1), wk (by simp [weak_iff])⟩
set_option maxHeartbeats 1000000 in
theorem ref33_Run_ok {a0 : api_Fleet} {a1 : api_Rotation} {a2 : List api_Step} {r : (List api_Rotation) × Int} (h0 : ref33_Run a0 a1 a2 = some r) : FnOK Try.prog 44 [] [.agg (api_Fleet_av a0), .agg (api_Rotation_av a1), .d (.slice (rowsF api_Step_row a2))] (.tup [.d (.slice (rowsF api_Rotation_row r.1)), .d (.int .i64 r.2)]) [] := by
  unfold ref33_Run at h0
  refine fn_ok (nt := 43) (rs := [.tmp 6, .tmp 7]) Try.func44 rfl Try.ntmps44 rfl (by simp) (by decide) rfl fun K => ?_
  refine kr [2, 3, 4] (by simp; rfl) ?_
  refine tr_seq ?_
  refine kc ?_
  refine ko [2, 3, 4, 13, 14] 2 (by simp; rfl) ?_
  replace h0 := bnd h0; obtain ⟨y1, hy1, h0⟩ := h0
  refine kcall [2, 3, 4, 15] [] (ref32_Right_ok hy1) rfl rfl rfl Try.call33 (by simp) (by simp; rfl) ?_
  refine ko [2, 3, 4, 16] 1 (by simp; rfl) ?_
  refine tops_nil ?_
  refine tr_cond (b := (!y1)) (by simp) (fun c1 => ?_) (fun c1 => ?_)
  · rw [if_pos c1] at h0
    refine kr [6, 7] (by simp; rfl) ?_
    cases h0
    exact tr_ret ⟨[], by simp, rfl, by simp⟩
  · rw [if_neg (by rw [c1]; decide)] at h0
    refine tr_skip ?_
    refine tr_seq ?_
    refine kr [2, 3, 4, 19] (by simp; rfl) ?_
    refine tr_cond (b := (decide (120 < ((a2).length : Int)))) (by simp) (fun c2 => ?_) (fun c2 => ?_)
    · rw [if_pos c2] at h0
      refine kr [6, 7] (by simp; rfl) ?_
      cases h0
      exact tr_ret ⟨[], by simp, rfl, by simp⟩
    · rw [if_neg (by rw [c2]; decide)] at h0
      refine tr_skip ?_
      refine kr [2, 3, 4, 8] (by simp; rfl) ?_
      refine tr_seq ?_
      refine kr [3, 4, 8, 20, 21, 22] (by simp; rfl) ?_
      refine tr_wk (wk_own 8 39 33 3 (by simp) (by simp)) ?_
      replace h0 := bnd h0; obtain ⟨e1, hI1, h0⟩ := h0
      refine tjv (fun v2 : (List api_Rotation) => ({ nt := 43, env := [(8, .vec 39)], box := [], vec := [(39, ⟨33, 3, rowsF api_Rotation_row v2⟩)] } : St)) (fun v2 => .inl v2 = e1) (fun v2 hI1e _ W1 => ?_) ?_
      · subst hI1e
        dsimp only at h0
        refine tr_wk W1 ?_
        refine kr [6, 7] (by simp; rfl) ?_
        cases h0
        exact tr_ret ⟨[39], by simp, rfl, by simp⟩
      · refine tr_block (tr_iter (fun s3 : Int × Int × Int × (List api_Unit) × (List api_Rotation) => ({ nt := 43, env := [(3, .ptr 3 0), (4, .ptr 4 0), (8, .vec 39), (20, .d (.slice (rowsF api_Step_row a2))), (21, .d (.int .i64 ((a2).length : Int))), (22, .d (.int .i64 s3.1))], box := [(3, [.d (.int .i64 a0.Slots), .d (.slice (rowsF api_Consumer_row a0.Consumers))]), (4, [.d (.int .i64 s3.2.1), .d (.int .i64 s3.2.2.1), .d (.slice (rowsF api_Unit_row s3.2.2.2.1))])], vec := [(39, ⟨33, 3, rowsF api_Rotation_row s3.2.2.2.2⟩)] } : St)) hI1 (wk (by simp [weak_iff])) fun G1 s3 o1 h1 hg1 he1 => ?_)
        unfold ref33_Run_l0 at h1
        refine kr [3, 4, 8, 20, 21, 22, 23] (by simp; rfl) ?_
        refine tr_seq ?_
        refine tr_cond (b := (decide (s3.1 < ((a2).length : Int)))) (by simp) (fun c9 => ?_) (fun c9 => ?_)
        · rw [if_pos c9] at h1
          refine tr_skip ?_
          refine tr_seq ?_
          refine tr_block ?_
          replace h1 := bnd h1; obtain ⟨x4, p12, h1⟩ := h1
          replace p12 := idx_some p12
          have p12' := p12; try simp at p12'
          refine kr [3, 4, 8, 10, 20, 21, 22] (by simp [p12, p12']; rfl) ?_
          refine kc ?_
          refine ko [3, 4, 8, 20, 21, 22, 27, 28, 29] 3 (by simp; rfl) ?_
          replace h1 := bnd h1; obtain ⟨y5, hy5, h1⟩ := h1
          refine kcall [3, 4, 8, 20, 21, 22, 30] [] (ref33_Apply_ok hy5) rfl rfl rfl Try.call13 (by simp) (by simp; rfl) ?_
          refine ko [3, 4, 8, 11, 12, 20, 21, 22] 6 (by simp; rfl) ?_
          refine tops_nil ?_
          refine tr_seq ?_
          refine kr [3, 4, 8, 11, 12, 20, 21, 22, 34] (by simp; rfl) ?_
          refine tr_cond (b := (y5.2 != 0)) (by simp) (fun c10 => ?_) (fun c10 => ?_)
          · rw [if_pos c10] at h1
            refine kr [6, 7] (by simp; rfl) ?_
            have k1 := he1 _ (Option.some.inj h1)
            subst k1
            dsimp only at h0
            cases h0
            exact tr_ret ⟨[], by simp, rfl, by simp⟩
          · rw [if_neg (by rw [c10]; decide)] at h1
            refine tr_skip ?_
            refine tr_wk (wk_ren 39 700039) ?_
            refine kd1 [[], [], [1], [0, 2], [], [0, 3], [3, 4]] [3, 6] [(4, [3, 6])] (some (3, 700039)) [8, 36] 7 fol (by decide +kernel) (by simp) ?_
            replace h1 := bnd h1; obtain ⟨_, p16, h1⟩ := h1
            replace p16 := ck_some p16
            have p16' := p16; try simp at p16'
            refine dr_go 0 2 rfl (by simp (maxSteps := 1000000) [p16, p16']; rfl) ?_
            refine dr_go 2 2 rfl (by simp (maxSteps := 1000000) [p16, p16']; rfl) ?_
            refine dr_go 4 2 rfl (by simp (maxSteps := 1000000) [p16, p16']; rfl) ?_
            refine dr_go 6 1 rfl (by simp (maxSteps := 1000000) [p16, p16']; rfl) ?_
            refine dr_end rfl (tops_nil ?_)
            refine lr (by simp; rfl) ?_
            exact ⟨_, hg1 _ (Option.some.inj h1), wk (by simp [weak_iff])⟩
        · rw [if_neg (by rw [c9]; decide)] at h1
          refine tr_exit ?_
          exact ⟨_, he1 _ (Option.some.inj h1), wk (by simp [weak_iff])⟩
end Go.Vl
