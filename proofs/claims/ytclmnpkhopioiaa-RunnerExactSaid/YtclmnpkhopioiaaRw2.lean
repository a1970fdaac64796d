/- Walks: each function of the given program computes what its mirror says. Conditions: none. -/
import Derived.Test.YtclmnpkhopioiaaRw1
set_option linter.unusedSimpArgs false
set_option linter.unusedVariables false
namespace Go.Vl
open Go Go.Proofs
set_option maxHeartbeats 1000000 in
theorem ref32_Serves_ok {a0 : api_Fleet} {a1 : api_Rotation} {a2 : Int} {r : Bool} (h0 : ref32_Serves a0 a1 a2 = some r) : FnOK Try.prog 41 [] [.agg (api_Fleet_av a0), .agg (api_Rotation_av a1), .d (.int .i64 a2)] (.d (.bool r)) [] := by
  unfold ref32_Serves at h0
  refine fn_ok (nt := 38) (rs := [.tmp 6]) Try.func41 rfl Try.ntmps41 rfl (by simp) (by decide) rfl fun K => ?_
  refine kr [2, 3, 4] (by simp; rfl) ?_
  replace h0 := bnd h0; obtain ⟨v1, hvv1, h0⟩ := h0
  refine sjv (fun v1_ : Bool => ({ nt := 38, env := [(6, .d (.bool v1_))], box := [], vec := [] } : St)) (fun v1_ => v1 = v1_) (fun v1_ e => ?_) ?_
  · subst e
    cases h0
    exact tr_ret ⟨[], by simp, rfl, by simp⟩
  · refine kd1 [[], [], [0, 1], [2], [3], [3], [3, 5], [3, 6], [3, 7], [3, 4, 7, 8], [3, 7, 9], [7, 10], [7, 11], [7, 11, 12], [7, 11], [7, 11, 13, 14], [7, 11, 15], [7, 11, 16], [7, 11, 17], [7, 18], [7, 19], [7, 19, 20], [7, 19], [7, 19, 21, 22], [7, 19, 23], [7, 19, 24], [7, 19], [7, 19, 26], [7, 19, 25, 27], [7, 19, 28], [7, 19, 29], [7, 30]] [] [] none [] 32 fol (by decide +kernel) (by simp) ?_
    refine dr_go 0 2 rfl (by simp (maxSteps := 1000000); rfl) ?_
    replace hvv1 := bnd hvv1; obtain ⟨y2, hy2, hvv1⟩ := hvv1
    refine dr_call 2 [] (ref32_Right_ok hy2) rfl rfl rfl rfl rfl Try.call22 (by simp) ?_
    refine dr_go 3 1 rfl (by simp (maxSteps := 1000000); rfl) ?_
    refine dr_split 3 10 y2 (by simp) (fun c16 => ?_) (fun c16 => ?_)
    · rw [if_pos c16] at hvv1
      refine dr_go 4 2 rfl (by simp (maxSteps := 1000000); rfl) ?_
      refine dr_go 6 2 rfl (by simp (maxSteps := 1000000); rfl) ?_
      refine dr_go 8 1 rfl (by simp (maxSteps := 1000000); rfl) ?_
      replace hvv1 := bnd hvv1; obtain ⟨y3, hy3, hvv1⟩ := hvv1
      refine dr_call 9 [] (ref32_in_ok hy3) rfl rfl rfl rfl rfl Try.call74 (by simp) ?_
      refine dr_go 10 2 rfl (by simp (maxSteps := 1000000); rfl) ?_
      refine dr_split 11 18 y3 (by simp) (fun c17 => ?_) (fun c17 => ?_)
      · rw [if_pos c17] at hvv1
        replace hvv1 := bnd hvv1; obtain ⟨x4, p6, hvv1⟩ := hvv1
        replace p6 := idx_some p6
        have p6' := p6; try simp at p6'
        refine dr_go 12 2 rfl (by simp (maxSteps := 1000000) [p6, p6']; rfl) ?_
        refine dr_go 14 2 rfl (by simp (maxSteps := 1000000) [p6, p6']; rfl) ?_
        refine dr_go 16 2 rfl (by simp (maxSteps := 1000000) [p6, p6']; rfl) ?_
        refine dr_go 18 2 rfl (by simp (maxSteps := 1000000) [p6, p6']; rfl) ?_
        refine dr_split 19 26 x4.Up (by simp) (fun c18 => ?_) (fun c18 => ?_)
        · rw [if_pos c18] at hvv1
          refine dr_go 20 2 rfl (by simp (maxSteps := 1000000) [p6, p6']; rfl) ?_
          refine dr_go 22 2 rfl (by simp (maxSteps := 1000000) [p6, p6']; rfl) ?_
          refine dr_go 24 2 rfl (by simp (maxSteps := 1000000) [p6, p6']; rfl) ?_
          refine dr_go 26 2 rfl (by simp (maxSteps := 1000000) [p6, p6']; rfl) ?_
          refine dr_go 28 2 rfl (by simp (maxSteps := 1000000) [p6, p6']; rfl) ?_
          refine dr_go 30 2 rfl (by simp (maxSteps := 1000000) [p6, p6']; rfl) ?_
          refine dr_end rfl (tops_nil ?_)
          cases hvv1
          exact ⟨_, rfl, wk (by simp [weak_iff])⟩
        · rw [if_neg (by rw [c18]; decide)] at hvv1
          refine dr_skip 20 38 [some 27, some 28, some 29, some 30, some 31, some 32, some 33, some 34, some 35, some 36] rfl rfl (by decide) (by kernel_rfl) (by simp only [skEf, List.map_cons, List.map_nil, List.cons_append, List.nil_append]; rfl) ?_
          refine dr_go 30 2 rfl (by simp (maxSteps := 1000000); rfl) ?_
          refine dr_end rfl (tops_nil ?_)
          cases hvv1
          exact ⟨_, rfl, wk (by simp [weak_iff])⟩
      · rw [if_neg (by rw [c17]; decide)] at hvv1
        refine dr_skip 12 38 [some 19, some 20, some 21, some 22, some 23, some 24] rfl rfl (by decide) (by kernel_rfl) (by simp only [skEf, List.map_cons, List.map_nil, List.cons_append, List.nil_append]; rfl) ?_
        refine dr_go 18 2 rfl (by simp (maxSteps := 1000000); rfl) ?_
        refine dr_skip 20 38 [some 27, some 28, some 29, some 30, some 31, some 32, some 33, some 34, some 35, some 36] rfl rfl (by decide) (by kernel_rfl) (by simp only [skEf, List.map_cons, List.map_nil, List.cons_append, List.nil_append]; rfl) ?_
        refine dr_go 30 2 rfl (by simp (maxSteps := 1000000); rfl) ?_
        refine dr_end rfl (tops_nil ?_)
        cases hvv1
        exact ⟨_, rfl, wk (by simp [weak_iff])⟩
    · rw [if_neg (by rw [c16]; decide)] at hvv1
      refine dr_skip 4 38 [some 11, some 12, some 13, some 14, some 15, some 16] rfl rfl (by decide) (by kernel_rfl) (by simp only [skEf, List.map_cons, List.map_nil, List.cons_append, List.nil_append]; rfl) ?_
      refine dr_go 10 2 rfl (by simp (maxSteps := 1000000); rfl) ?_
      refine dr_skip 12 38 [some 19, some 20, some 21, some 22, some 23, some 24] rfl rfl (by decide) (by kernel_rfl) (by simp only [skEf, List.map_cons, List.map_nil, List.cons_append, List.nil_append]; rfl) ?_
      refine dr_go 18 2 rfl (by simp (maxSteps := 1000000); rfl) ?_
      refine dr_skip 20 38 [some 27, some 28, some 29, some 30, some 31, some 32, some 33, some 34, some 35, some 36] rfl rfl (by decide) (by kernel_rfl) (by simp only [skEf, List.map_cons, List.map_nil, List.cons_append, List.nil_append]; rfl) ?_
      refine dr_go 30 2 rfl (by simp (maxSteps := 1000000); rfl) ?_
      refine dr_end rfl (tops_nil ?_)
      cases hvv1
      exact ⟨_, rfl, wk (by simp [weak_iff])⟩
set_option maxHeartbeats 1000000 in
theorem ref32_Served_ok {a0 : api_Fleet} {a1 : api_Rotation} {r : (List Int)} (h0 : ref32_Served a0 a1 = some r) : FnOK Try.prog 37 [] [.agg (api_Fleet_av a0), .agg (api_Rotation_av a1)] (.d (.slice (rowsF (iRow .i64) r))) [] := by
  unfold ref32_Served at h0
  refine fn_ok (nt := 36) (rs := [.tmp 4]) Try.func37 rfl Try.ntmps37 rfl (by simp) (by decide) rfl fun K => ?_
  refine kr [2, 3] (by simp; rfl) ?_
  refine kr [2, 3, 5] (by simp; rfl) ?_
  refine tr_seq ?_
  refine kc ?_
  refine ko [2, 3, 5, 10] 1 (by simp; rfl) ?_
  replace h0 := bnd h0; obtain ⟨y1, hy1, h0⟩ := h0
  refine kcall [2, 3, 5, 11] [] (ref32_Pools_ok hy1) rfl rfl rfl Try.call33 (by simp) (by simp; rfl) ?_
  refine ko [2, 3, 5, 11, 12, 13] 2 (by simp; rfl) ?_
  refine tops_nil ?_
  refine tr_wk (wk_own 5 32 3 1 (by simp) (by simp)) ?_
  replace h0 := bnd h0; obtain ⟨e1, hI1, h0⟩ := h0
  refine tjv (fun v2 : (List Int) => ({ nt := 36, env := [(5, .vec 32)], box := [], vec := [(32, ⟨3, 1, rowsF (iRow .i64) v2⟩)] } : St)) (fun v2 => v2 = e1) (fun v2 hI1e _ W1 => ?_) ?_
  · subst hI1e
    refine tr_wk W1 ?_
    refine kr [4] (by simp; rfl) ?_
    cases h0
    exact tr_ret ⟨[32], by simp, rfl, by simp⟩
  · refine tr_block (tr_iter (fun s3 : Int × (List Int) => ({ nt := 36, env := [(2, .ptr 2 0), (3, .ptr 3 0), (5, .vec 32), (11, .d (.slice (rowsF (iRow .i64) y1))), (12, .d (.int .i64 ((y1).length : Int))), (13, .d (.int .i64 s3.1))], box := [(2, [.d (.int .i64 a0.Slots), .d (.slice (rowsF api_Consumer_row a0.Consumers))]), (3, [.d (.int .i64 a1.Known), .d (.int .i64 a1.Valid), .d (.slice (rowsF api_Unit_row a1.Units))])], vec := [(32, ⟨3, 1, rowsF (iRow .i64) s3.2⟩)] } : St)) hI1 (wk (by simp [weak_iff])) fun G1 s3 o1 h1 hg1 he1 => ?_)
    unfold ref32_Served_l0 at h1
    refine kr [2, 3, 5, 11, 12, 13, 14] (by simp; rfl) ?_
    refine tr_seq ?_
    refine tr_cond (b := (decide (s3.1 < ((y1).length : Int)))) (by simp) (fun c20 => ?_) (fun c20 => ?_)
    · rw [if_pos c20] at h1
      refine tr_skip ?_
      refine tr_seq ?_
      refine tr_block ?_
      replace h1 := bnd h1; obtain ⟨x4, p18, h1⟩ := h1
      replace p18 := idx_some p18
      have p18' := p18; try simp at p18'
      refine kr [2, 3, 5, 7, 11, 12, 13] (by simp [p18, p18']; rfl) ?_
      refine kc ?_
      refine ko [2, 3, 5, 7, 11, 12, 13, 17, 18] 2 (by simp; rfl) ?_
      replace h1 := bnd h1; obtain ⟨y5, hy5, h1⟩ := h1
      refine kcall [2, 3, 5, 7, 11, 12, 13, 19] [] (ref32_Units_ok hy5) rfl rfl rfl Try.call40 (by simp) (by simp; rfl) ?_
      refine ko [2, 3, 5, 7, 11, 12, 13, 19, 20, 21] 2 (by simp; rfl) ?_
      refine tops_nil ?_
      replace h1 := bnd h1; obtain ⟨e2, hI2, h1⟩ := h1
      refine tjv (fun v6 : (List Int) => ({ nt := 36, env := [(2, .ptr 2 0), (3, .ptr 3 0), (5, .vec 32), (11, .d (.slice (rowsF (iRow .i64) y1))), (12, .d (.int .i64 ((y1).length : Int))), (13, .d (.int .i64 s3.1))], box := [(2, [.d (.int .i64 a0.Slots), .d (.slice (rowsF api_Consumer_row a0.Consumers))]), (3, [.d (.int .i64 a1.Known), .d (.int .i64 a1.Valid), .d (.slice (rowsF api_Unit_row a1.Units))])], vec := [(32, ⟨3, 1, rowsF (iRow .i64) v6⟩)] } : St)) (fun v6 => v6 = e2) (fun v6 hI2e _ W2 => ?_) ?_
      · subst hI2e
        refine tr_wk W2 ?_
        refine lr (by simp; rfl) ?_
        exact ⟨_, hg1 _ (Option.some.inj h1), wk (by simp [weak_iff])⟩
      · refine tr_block (tr_iter (fun s7 : Int => ({ nt := 36, env := [(2, .ptr 2 0), (3, .ptr 3 0), (5, .vec 32), (7, .d (.int .i64 x4)), (11, .d (.slice (rowsF (iRow .i64) y1))), (12, .d (.int .i64 ((y1).length : Int))), (13, .d (.int .i64 s3.1)), (19, .d (.slice (rowsF (iRow .i64) y5))), (20, .d (.int .i64 ((y5).length : Int))), (21, .d (.int .i64 s7))], box := [(2, [.d (.int .i64 a0.Slots), .d (.slice (rowsF api_Consumer_row a0.Consumers))]), (3, [.d (.int .i64 a1.Known), .d (.int .i64 a1.Valid), .d (.slice (rowsF api_Unit_row a1.Units))])], vec := [(32, ⟨3, 1, rowsF (iRow .i64) s3.2⟩)] } : St)) hI2 (wk (by simp [weak_iff])) fun G2 s7 o2 h2 hg2 he2 => ?_)
        unfold ref32_Served_l1 at h2
        refine kr [2, 3, 5, 7, 11, 12, 13, 19, 20, 21, 22] (by simp; rfl) ?_
        refine tr_seq ?_
        refine tr_cond (b := (decide (s7 < ((y5).length : Int)))) (by simp) (fun c25 => ?_) (fun c25 => ?_)
        · rw [if_pos c25] at h2
          refine tr_skip ?_
          refine tr_seq ?_
          refine tr_block ?_
          replace h2 := bnd h2; obtain ⟨x8, p23, h2⟩ := h2
          replace p23 := idx_some p23
          have p23' := p23; try simp at p23'
          refine kr [2, 3, 5, 7, 9, 11, 12, 13, 19, 20, 21] (by simp [p23, p23']; rfl) ?_
          refine kc ?_
          refine ko [2, 3, 5, 7, 11, 12, 13, 19, 20, 21, 25, 26, 27] 3 (by simp; rfl) ?_
          replace h2 := bnd h2; obtain ⟨y9, hy9, h2⟩ := h2
          refine kcall [2, 3, 5, 7, 11, 12, 13, 19, 20, 21, 28] [] (ref32_Serves_ok hy9) rfl rfl rfl Try.call41 (by simp) (by simp; rfl) ?_
          refine tops_nil ?_
          refine tr_cond (b := y9) (by simp) (fun c26 => ?_) (fun c26 => ?_)
          · rw [if_pos c26] at h2
            replace h2 := bnd h2; obtain ⟨_, p24, h2⟩ := h2
            replace p24 := ck_some p24
            have p24' := p24; try simp at p24'
            refine kr [2, 3, 5, 11, 12, 13] (by simp [p24, p24']; rfl) ?_
            refine tr_exit ?_
            exact ⟨_, he2 _ (Option.some.inj h2), wk (by simp [weak_iff])⟩
          · rw [if_neg (by rw [c26]; decide)] at h2
            refine tr_skip ?_
            refine lr (by simp; rfl) ?_
            exact ⟨_, hg2 _ (Option.some.inj h2), wk (by simp [weak_iff])⟩
        · rw [if_neg (by rw [c25]; decide)] at h2
          refine tr_exit ?_
          exact ⟨_, he2 _ (Option.some.inj h2), wk (by simp [weak_iff])⟩
    · rw [if_neg (by rw [c20]; decide)] at h1
      refine tr_exit ?_
      exact ⟨_, he1 _ (Option.some.inj h1), wk (by simp [weak_iff])⟩
set_option maxHeartbeats 1000000 in
theorem ref33_safe_ok {a0 : api_Fleet} {a1 : api_Rotation} {a2 : api_Rotation} {r : Bool} (h0 : ref33_safe a0 a1 a2 = some r) : FnOK Try.prog 89 [] [.agg (api_Fleet_av a0), .agg (api_Rotation_av a1), .agg (api_Rotation_av a2)] (.d (.bool r)) [] := by
  unfold ref33_safe at h0
  refine fn_ok (nt := 40) (rs := [.tmp 6]) Try.func89 rfl Try.ntmps89 rfl (by simp) (by decide) rfl fun K => ?_
  refine kr [3, 4, 5] (by simp; rfl) ?_
  refine kc ?_
  refine ko [3, 4, 13, 14] 2 (by simp; rfl) ?_
  replace h0 := bnd h0; obtain ⟨y1, hy1, h0⟩ := h0
  refine kcall [3, 4, 15] [] (ref32_Served_ok hy1) rfl rfl rfl Try.call37 (by simp) (by simp; rfl) ?_
  refine ko [3, 4, 7] 1 (by simp; rfl) ?_
  refine tops_nil ?_
  refine tr_seq ?_
  refine kc ?_
  refine ko [7, 16, 17] 2 (by simp; rfl) ?_
  replace h0 := bnd h0; obtain ⟨y2, hy2, h0⟩ := h0
  refine kcall [7, 18] [] (ref32_Served_ok hy2) rfl rfl rfl Try.call37 (by simp) (by simp; rfl) ?_
  refine ko [7, 18, 19, 20] 2 (by simp; rfl) ?_
  refine tops_nil ?_
  replace h0 := bnd h0; obtain ⟨e1, hI1, h0⟩ := h0
  refine tjv (fun v3 : Unit => ({ nt := 40, env := [], box := [], vec := [] } : St)) (fun v3 => .inl v3 = e1) (fun v3 hI1e _ W1 => ?_) ?_
  · subst hI1e
    dsimp only at h0
    refine tr_wk W1 ?_
    refine kr [6] (by simp; rfl) ?_
    cases h0
    exact tr_ret ⟨[], by simp, rfl, by simp⟩
  · refine tr_block (tr_iter (fun s4 : Int => ({ nt := 40, env := [(7, .d (.slice (rowsF (iRow .i64) y1))), (18, .d (.slice (rowsF (iRow .i64) y2))), (19, .d (.int .i64 ((y2).length : Int))), (20, .d (.int .i64 s4))], box := [], vec := [] } : St)) hI1 (wk (by simp [weak_iff])) fun G1 s4 o1 h1 hg1 he1 => ?_)
    unfold ref33_safe_l0 at h1
    refine kr [7, 18, 19, 20, 21] (by simp; rfl) ?_
    refine tr_seq ?_
    refine tr_cond (b := (decide (s4 < ((y2).length : Int)))) (by simp) (fun c11 => ?_) (fun c11 => ?_)
    · rw [if_pos c11] at h1
      refine tr_skip ?_
      refine tr_seq ?_
      refine tr_block ?_
      replace h1 := bnd h1; obtain ⟨x5, p7, h1⟩ := h1
      replace p7 := idx_some p7
      have p7' := p7; try simp at p7'
      refine kr [7, 9, 18, 19, 20] (by simp [p7, p7']; rfl) ?_
      refine kr [7, 9, 10, 18, 19, 20] (by simp; rfl) ?_
      refine tr_seq ?_
      refine kr [7, 9, 10, 18, 19, 20, 24, 25, 26] (by simp; rfl) ?_
      replace h1 := bnd h1; obtain ⟨e2, hI2, h1⟩ := h1
      refine tjv (fun v6 : Bool => ({ nt := 40, env := [(7, .d (.slice (rowsF (iRow .i64) y1))), (10, .d (.bool v6)), (18, .d (.slice (rowsF (iRow .i64) y2))), (19, .d (.int .i64 ((y2).length : Int))), (20, .d (.int .i64 s4))], box := [], vec := [] } : St)) (fun v6 => v6 = e2) (fun v6 hI2e _ W2 => ?_) ?_
      · subst hI2e
        refine tr_wk W2 ?_
        refine kr [7, 18, 19, 20, 38] (by simp; rfl) ?_
        refine tr_cond (b := (!v6)) (by simp) (fun c15 => ?_) (fun c15 => ?_)
        · rw [if_pos c15] at h1
          refine kr [6] (by simp; rfl) ?_
          have k1 := he1 _ (Option.some.inj h1)
          subst k1
          dsimp only at h0
          cases h0
          exact tr_ret ⟨[], by simp, rfl, by simp⟩
        · rw [if_neg (by rw [c15]; decide)] at h1
          refine tr_skip ?_
          refine lr (by simp; rfl) ?_
          exact ⟨_, hg1 _ (Option.some.inj h1), wk (by simp [weak_iff])⟩
      · refine tr_block (tr_iter (fun s7 : Bool × Int => ({ nt := 40, env := [(7, .d (.slice (rowsF (iRow .i64) y1))), (9, .d (.int .i64 x5)), (10, .d (.bool s7.1)), (18, .d (.slice (rowsF (iRow .i64) y2))), (19, .d (.int .i64 ((y2).length : Int))), (20, .d (.int .i64 s4)), (24, .d (.slice (rowsF (iRow .i64) y1))), (25, .d (.int .i64 ((y1).length : Int))), (26, .d (.int .i64 s7.2))], box := [], vec := [] } : St)) hI2 (wk (by simp [weak_iff])) fun G2 s7 o2 h2 hg2 he2 => ?_)
        unfold ref33_safe_l1 at h2
        refine kr [7, 9, 10, 18, 19, 20, 24, 25, 26, 27] (by simp; rfl) ?_
        refine tr_seq ?_
        refine tr_cond (b := (decide (s7.2 < ((y1).length : Int)))) (by simp) (fun c16 => ?_) (fun c16 => ?_)
        · rw [if_pos c16] at h2
          refine tr_skip ?_
          refine tr_seq ?_
          refine tr_block ?_
          replace h2 := bnd h2; obtain ⟨x8, p10, h2⟩ := h2
          replace p10 := idx_some p10
          have p10' := p10; try simp at p10'
          refine kr [7, 9, 10, 12, 18, 19, 20, 24, 25, 26] (by simp [p10, p10']; rfl) ?_
          replace h2 := bnd h2; obtain ⟨v9, hvv9, h2⟩ := h2
          refine tjv (fun v9_ : Bool => ({ nt := 40, env := [(7, .d (.slice (rowsF (iRow .i64) y1))), (9, .d (.int .i64 x5)), (10, .d (.bool v9_)), (18, .d (.slice (rowsF (iRow .i64) y2))), (19, .d (.int .i64 ((y2).length : Int))), (20, .d (.int .i64 s4)), (24, .d (.slice (rowsF (iRow .i64) y1))), (25, .d (.int .i64 ((y1).length : Int))), (26, .d (.int .i64 s7.2))], box := [], vec := [] } : St)) (fun v9_ => v9 = v9_) (fun v9_ e _ Wv9 => ?_) ?_
          · subst e
            refine tr_wk Wv9 ?_
            refine lr (by simp; rfl) ?_
            exact ⟨_, hg2 _ (Option.some.inj h2), wk (by simp [weak_iff])⟩
          · refine kc1 ?_
            refine ko [7, 9, 12, 18, 19, 20, 24, 25, 26, 31] 2 (by simp; rfl) ?_
            refine tops_split 31 s7.1 (by simp) (fun c19 => ?_) (fun c19 => ?_)
            · rw [c19] at hvv9
              refine kskip 3 [] (by kernel_rfl) ?_
              refine ko [7, 9, 10, 18, 19, 20, 24, 25, 26] 2 (by simp; rfl) ?_
              refine tops_nil ?_
              cases hvv9
              exact ⟨_, rfl, wk (by simp [weak_iff])⟩
            · rw [c19] at hvv9
              refine ko [7, 9, 10, 18, 19, 20, 24, 25, 26, 32, 33, 34] 5 (by simp; rfl) ?_
              refine tops_nil ?_
              cases hvv9
              exact ⟨_, rfl, wk (by simp [weak_iff])⟩
        · rw [if_neg (by rw [c16]; decide)] at h2
          refine tr_exit ?_
          exact ⟨_, he2 _ (Option.some.inj h2), wk (by simp [weak_iff])⟩
    · rw [if_neg (by rw [c11]; decide)] at h1
      refine tr_exit ?_
      exact ⟨_, he1 _ (Option.some.inj h1), wk (by simp [weak_iff])⟩
set_option maxHeartbeats 1000000 in
theorem ref33_Safe_ok {a0 : api_Fleet} {a1 : api_Rotation} {a2 : api_Step} {r : Bool} (h0 : ref33_Safe a0 a1 a2 = some r) : FnOK Try.prog 56 [] [.agg (api_Fleet_av a0), .agg (api_Rotation_av a1), .agg (api_Step_av a2)] (.d (.bool r)) [] := by
  unfold ref33_Safe at h0
  refine fn_ok (nt := 24) (rs := [.tmp 6]) Try.func56 rfl Try.ntmps56 rfl (by simp) (by decide) rfl fun K => ?_
  refine kr [3, 4, 5] (by simp; rfl) ?_
  refine kc ?_
  refine ko [3, 4, 10, 11, 12] 3 (by simp; rfl) ?_
  replace h0 := bnd h0; obtain ⟨y1, hy1, h0⟩ := h0
  refine kcall [3, 4, 13] [] (ref33_Apply_ok hy1) rfl rfl rfl Try.call54 (by simp) (by simp; rfl) ?_
  refine ko [3, 4, 7, 8] 6 (by simp; rfl) ?_
  refine tops_nil ?_
  replace h0 := bnd h0; obtain ⟨v2, hvv2, h0⟩ := h0
  refine sjv (fun v2_ : Bool => ({ nt := 24, env := [(6, .d (.bool v2_))], box := [], vec := [] } : St)) (fun v2_ => v2 = v2_) (fun v2_ e => ?_) ?_
  · subst e
    cases h0
    exact tr_ret ⟨[], by simp, rfl, by simp⟩
  · refine kc1 ?_
    refine ko [3, 4, 7, 18] 3 (by simp; rfl) ?_
    refine tops_split 18 (y1.2 == 0) (by simp) (fun c3 => ?_) (fun c3 => ?_)
    · rw [if_pos c3] at hvv2
      refine ko [18, 19, 20, 21] 3 (by simp; rfl) ?_
      replace hvv2 := bnd hvv2; obtain ⟨y3, hy3, hvv2⟩ := hvv2
      refine kcall [18, 22] [] (ref33_safe_ok hy3) rfl rfl rfl Try.call89 (by simp) (by simp; rfl) ?_
      refine ko [6] 2 (by simp; rfl) ?_
      refine tops_nil ?_
      cases hvv2
      exact ⟨_, rfl, wk (by simp [weak_iff])⟩
    · rw [if_neg (by rw [c3]; decide)] at hvv2
      refine kskip 4 [] (by kernel_rfl) ?_
      refine ko [6] 2 (by simp; rfl) ?_
      refine tops_nil ?_
      cases hvv2
      exact ⟨_, rfl, wk (by simp [weak_iff])⟩
set_option maxHeartbeats 1000000 in
theorem ref33_Choices_ok {a0 : api_Fleet} {a1 : api_Rotation} {r : (List api_Step)} (h0 : ref33_Choices a0 a1 = some r) : FnOK Try.prog 58 [] [.agg (api_Fleet_av a0), .agg (api_Rotation_av a1)] (.d (.slice (rowsF api_Step_row r))) [] := by
  unfold ref33_Choices at h0
  refine fn_ok (nt := 32) (rs := [.tmp 4]) Try.func58 rfl Try.ntmps58 rfl (by simp) (by decide) rfl fun K => ?_
  refine kr [2, 3] (by simp; rfl) ?_
  refine kr [2, 3, 5] (by simp; rfl) ?_
  refine tr_seq ?_
  refine kr [2, 3, 5, 6] (by simp; rfl) ?_
  refine tr_wk (wk_own 5 29 63 2 (by simp) (by simp)) ?_
  replace h0 := bnd h0; obtain ⟨e1, hI1, h0⟩ := h0
  refine tjv (fun v1 : (List api_Step) => ({ nt := 32, env := [(5, .vec 29)], box := [], vec := [(29, ⟨63, 2, rowsF api_Step_row v1⟩)] } : St)) (fun v1 => v1 = e1) (fun v1 hI1e _ W1 => ?_) ?_
  · subst hI1e
    refine tr_wk W1 ?_
    refine kr [4] (by simp; rfl) ?_
    cases h0
    exact tr_ret ⟨[29], by simp, rfl, by simp⟩
  · refine tr_block (tr_iter (fun s2 : Int × (List api_Step) => ({ nt := 32, env := [(2, .ptr 2 0), (3, .ptr 3 0), (5, .vec 29), (6, .d (.int .i64 s2.1))], box := [(2, [.d (.int .i64 a0.Slots), .d (.slice (rowsF api_Consumer_row a0.Consumers))]), (3, [.d (.int .i64 a1.Known), .d (.int .i64 a1.Valid), .d (.slice (rowsF api_Unit_row a1.Units))])], vec := [(29, ⟨63, 2, rowsF api_Step_row s2.2⟩)] } : St)) hI1 (wk (by simp [weak_iff])) fun G1 s2 o1 h1 hg1 he1 => ?_)
    unfold ref33_Choices_l0 at h1
    refine tr_seq ?_
    refine kr [2, 3, 5, 6, 10] (by simp; rfl) ?_
    refine tr_cond (b := (decide (s2.1 ≤ 8))) (by simp) (fun c18 => ?_) (fun c18 => ?_)
    · rw [if_pos c18] at h1
      refine tr_skip ?_
      refine tr_seq ?_
      refine tr_block ?_
      refine kr [2, 3, 5, 6, 15, 16] (by simp; rfl) ?_
      replace h1 := bnd h1; obtain ⟨e2, hI2, h1⟩ := h1
      refine tjv (fun v3 : (List api_Step) => ({ nt := 32, env := [(2, .ptr 2 0), (3, .ptr 3 0), (5, .vec 29), (6, .d (.int .i64 s2.1))], box := [(2, [.d (.int .i64 a0.Slots), .d (.slice (rowsF api_Consumer_row a0.Consumers))]), (3, [.d (.int .i64 a1.Known), .d (.int .i64 a1.Valid), .d (.slice (rowsF api_Unit_row a1.Units))])], vec := [(29, ⟨63, 2, rowsF api_Step_row v3⟩)] } : St)) (fun v3 => v3 = e2) (fun v3 hI2e _ W2 => ?_) ?_
      · subst hI2e
        refine tr_wk W2 ?_
        refine lr (by simp; rfl) ?_
        exact ⟨_, hg1 _ (Option.some.inj h1), wk (by simp [weak_iff])⟩
      · refine tr_block (tr_iter (fun s4 : Int × (List api_Step) => ({ nt := 32, env := [(2, .ptr 2 0), (3, .ptr 3 0), (5, .vec 29), (6, .d (.int .i64 s2.1)), (15, .d (.int .i64 ((a0.Consumers).length : Int))), (16, .d (.int .i64 s4.1))], box := [(2, [.d (.int .i64 a0.Slots), .d (.slice (rowsF api_Consumer_row a0.Consumers))]), (3, [.d (.int .i64 a1.Known), .d (.int .i64 a1.Valid), .d (.slice (rowsF api_Unit_row a1.Units))])], vec := [(29, ⟨63, 2, rowsF api_Step_row s4.2⟩)] } : St)) hI2 (wk (by simp [weak_iff])) fun G2 s4 o2 h2 hg2 he2 => ?_)
        unfold ref33_Choices_l1 at h2
        refine kr [2, 3, 5, 6, 15, 16, 17] (by simp; rfl) ?_
        refine tr_seq ?_
        refine tr_cond (b := (decide (s4.1 < ((a0.Consumers).length : Int)))) (by simp) (fun c23 => ?_) (fun c23 => ?_)
        · rw [if_pos c23] at h2
          refine tr_skip ?_
          refine tr_seq ?_
          refine tr_block ?_
          refine kr [2, 3, 5, 6, 7, 15, 16] (by simp; rfl) ?_
          refine kr [2, 3, 5, 6, 8, 15, 16] (by simp; rfl) ?_
          refine kc ?_
          refine ko [2, 3, 5, 6, 8, 15, 16, 22, 23, 24] 3 (by simp; rfl) ?_
          replace h2 := bnd h2; obtain ⟨y5, hy5, h2⟩ := h2
          refine kcall [2, 3, 5, 6, 8, 15, 16, 25] [] (ref33_Safe_ok hy5) rfl rfl rfl Try.call56 (by simp) (by simp; rfl) ?_
          refine tops_nil ?_
          refine tr_cond (b := y5) (by simp) (fun c24 => ?_) (fun c24 => ?_)
          · rw [if_pos c24] at h2
            replace h2 := bnd h2; obtain ⟨_, p9, h2⟩ := h2
            replace p9 := ck_some p9
            have p9' := p9; try simp at p9'
            refine lr (by simp [p9, p9']; rfl) ?_
            refine lr (by simp; rfl) ?_
            exact ⟨_, hg2 _ (Option.some.inj h2), wk (by simp [weak_iff])⟩
          · rw [if_neg (by rw [c24]; decide)] at h2
            refine tr_skip ?_
            refine lr (by simp; rfl) ?_
            exact ⟨_, hg2 _ (Option.some.inj h2), wk (by simp [weak_iff])⟩
        · rw [if_neg (by rw [c23]; decide)] at h2
          refine tr_exit ?_
          exact ⟨_, he2 _ (Option.some.inj h2), wk (by simp [weak_iff])⟩
    · rw [if_neg (by rw [c18]; decide)] at h1
      refine tr_exit ?_
      exact ⟨_, he1 _ (Option.some.inj h1), wk (by simp [weak_iff])⟩
set_option maxHeartbeats 1000000 in
theorem make_SafeSteps_ok {a0 : make_Tape} {a1 : api_Fleet} {a2 : api_Rotation} {a3 : Int} {r : (List api_Step) × make_Tape} (h0 : make_SafeSteps a0 a1 a2 a3 = some r) : FnOK Try.prog 52 [make_Tape_av a0] [.ptr (InO 0) 0, .agg (api_Fleet_av a1), .agg (api_Rotation_av a2), .d (.int .i64 a3)] (.d (.slice (rowsF api_Step_row r.1))) [make_Tape_av r.2] := by
  unfold make_SafeSteps at h0
  refine fn_ok (nt := 44) (rs := [.tmp 8]) Try.func52 rfl Try.ntmps52 rfl (by simp) (by decide) rfl fun K => ?_
  refine kr [0, 3, 5, 6] (by simp; rfl) ?_
  refine kr [0, 3, 5, 6, 9] (by simp; rfl) ?_
  refine tr_seq ?_
  refine kr [0, 3, 5, 6, 9, 10] (by simp; rfl) ?_
  refine tr_wk (wk_own 9 42 63 2 (by simp) (by simp)) ?_
  replace h0 := bnd h0; obtain ⟨e1, hI1, h0⟩ := h0
  refine tjv (fun v1 : (List Int) × Int × (List api_Step) => ({ nt := 44, env := [(9, .vec 42)], box := [(1000000, [.d (.slice (rowsF (iRow .i64) v1.1)), .d (.int .i64 v1.2.1)])], vec := [(42, ⟨63, 2, rowsF api_Step_row v1.2.2⟩)] } : St)) (fun v1 => .inl v1 = e1) (fun v1 hI1e _ W1 => ?_) ?_
  · subst hI1e
    dsimp only at h0
    refine tr_wk W1 ?_
    refine kr [8] (by simp; rfl) ?_
    cases h0
    exact tr_ret ⟨[42], by simp, rfl, by simp⟩
  · refine tr_block (tr_iter (fun s2 : Int × (List Int) × Int × Int × Int × (List api_Unit) × (List api_Step) => ({ nt := 44, env := [(0, .ptr 1000000 0), (3, .d (.int .i64 a3)), (5, .ptr 5 0), (6, .ptr 6 0), (9, .vec 42), (10, .d (.int .i64 s2.1))], box := [(5, [.d (.int .i64 a1.Slots), .d (.slice (rowsF api_Consumer_row a1.Consumers))]), (6, [.d (.int .i64 s2.2.2.2.1), .d (.int .i64 s2.2.2.2.2.1), .d (.slice (rowsF api_Unit_row s2.2.2.2.2.2.1))]), (1000000, [.d (.slice (rowsF (iRow .i64) s2.2.1)), .d (.int .i64 s2.2.2.1)])], vec := [(42, ⟨63, 2, rowsF api_Step_row s2.2.2.2.2.2.2⟩)] } : St)) hI1 (wk (by simp [weak_iff])) fun G1 s2 o1 h1 hg1 he1 => ?_)
    unfold make_SafeSteps_l0 at h1
    refine tr_seq ?_
    refine kr [0, 3, 5, 6, 9, 10, 15] (by simp; rfl) ?_
    refine tr_cond (b := (decide (s2.1 < a3))) (by simp) (fun c7 => ?_) (fun c7 => ?_)
    · rw [if_pos c7] at h1
      refine tr_skip ?_
      refine tr_seq ?_
      refine tr_block ?_
      refine kc ?_
      refine ko [0, 3, 5, 6, 9, 10, 18, 19] 2 (by simp; rfl) ?_
      replace h1 := bnd h1; obtain ⟨y3, hy3, h1⟩ := h1
      refine kcall [0, 3, 5, 6, 9, 10, 20] [] (ref33_Choices_ok hy3) rfl rfl rfl Try.call58 (by simp) (by simp; rfl) ?_
      refine ko [0, 3, 5, 6, 9, 10, 11] 1 (by simp; rfl) ?_
      refine tops_nil ?_
      refine tr_seq ?_
      refine kr [0, 3, 5, 6, 9, 10, 11, 23] (by simp; rfl) ?_
      refine tr_cond (b := (((y3).length : Int) == 0)) (by simp) (fun c8 => ?_) (fun c8 => ?_)
      · rw [if_pos c8] at h1
        refine kr [8] (by simp; rfl) ?_
        have k1 := he1 _ (Option.some.inj h1)
        subst k1
        dsimp only at h0
        cases h0
        exact tr_ret ⟨[42], by simp, rfl, by simp⟩
      · rw [if_neg (by rw [c8]; decide)] at h1
        refine tr_skip ?_
        refine kc ?_
        refine ko [0, 3, 5, 6, 9, 10, 25, 26, 28] 4 (by simp; rfl) ?_
        replace h1 := bnd h1; obtain ⟨y4, hy4, h1⟩ := h1
        refine kcall [0, 3, 5, 6, 9, 10, 25, 29] [1000000] (make_Tape_Next_ok hy4) rfl rfl rfl Try.call38 (by simp) (by simp; rfl) ?_
        replace h1 := bnd h1; obtain ⟨x5, p6, h1⟩ := h1
        replace p6 := idx_some p6
        have p6' := p6; try simp at p6'
        refine ko [0, 3, 5, 6, 9, 10, 12] 4 (by simp [p6, p6']; rfl) ?_
        refine tops_nil ?_
        refine kc ?_
        refine ko [0, 3, 5, 6, 9, 10, 12, 33, 34, 35] 3 (by simp; rfl) ?_
        replace h1 := bnd h1; obtain ⟨y6, hy6, h1⟩ := h1
        refine kcall [0, 3, 5, 6, 9, 10, 12, 36] [] (ref33_Apply_ok hy6) rfl rfl rfl Try.call54 (by simp) (by simp; rfl) ?_
        refine ko [0, 3, 5, 6, 9, 10, 12] 4 (by simp; rfl) ?_
        refine tops_nil ?_
        replace h1 := bnd h1; obtain ⟨_, p7, h1⟩ := h1
        replace p7 := ck_some p7
        have p7' := p7; try simp at p7'
        refine lr (by simp [p7, p7']; rfl) ?_
        refine lr (by simp; rfl) ?_
        exact ⟨_, hg1 _ (Option.some.inj h1), wk (by simp [weak_iff])⟩
    · rw [if_neg (by rw [c7]; decide)] at h1
      refine tr_exit ?_
      exact ⟨_, he1 _ (Option.some.inj h1), wk (by simp [weak_iff])⟩
set_option maxHeartbeats 1000000 in
theorem fleet_Served_ok {a0 : api_Fleet} {a1 : api_Rotation} {r : (List Int)} (h0 : fleet_Served a0 a1 = some r) : FnOK Try.prog 23 [] [.agg (api_Fleet_av a0), .agg (api_Rotation_av a1)] (.d (.slice (rowsF (iRow .i64) r))) [] := by
  unfold fleet_Served at h0
  refine fn_ok (nt := 40) (rs := [.tmp 4]) Try.func23 rfl Try.ntmps23 rfl (by simp) (by decide) rfl fun K => ?_
  refine kr [2, 3] (by simp; rfl) ?_
  refine tr_seq ?_
  refine kc ?_
  refine ko [2, 3, 8, 9] 2 (by simp; rfl) ?_
  replace h0 := bnd h0; obtain ⟨y1, hy1, h0⟩ := h0
  refine kcall [2, 3, 10] [] (fleet_Right_ok hy1) rfl rfl rfl Try.call21 (by simp) (by simp; rfl) ?_
  refine ko [2, 3, 11] 1 (by simp; rfl) ?_
  refine tops_nil ?_
  refine tr_cond (b := (!y1)) (by simp) (fun c1 => ?_) (fun c1 => ?_)
  · rw [if_pos c1] at h0
    refine kr [4] (by simp; rfl) ?_
    cases h0
    exact tr_ret ⟨[], by simp, rfl, by simp⟩
  · rw [if_neg (by rw [c1]; decide)] at h0
    refine tr_skip ?_
    refine kr [2, 3, 5] (by simp; rfl) ?_
    refine tr_seq ?_
    refine kr [3, 5, 13, 14, 15] (by simp; rfl) ?_
    refine tr_wk (wk_own 5 34 3 1 (by simp) (by simp)) ?_
    replace h0 := bnd h0; obtain ⟨e1, hI1, h0⟩ := h0
    refine tjv (fun v2 : (List Int) => ({ nt := 40, env := [(5, .vec 34)], box := [], vec := [(34, ⟨3, 1, rowsF (iRow .i64) v2⟩)] } : St)) (fun v2 => v2 = e1) (fun v2 hI1e _ W1 => ?_) ?_
    · subst hI1e
      refine tr_wk W1 ?_
      refine kc ?_
      refine ko [5, 36] 1 (by simp; rfl) ?_
      replace h0 := bnd h0; obtain ⟨y3, hy3, h0⟩ := h0
      refine kcallH [5] [] [34] [(5, 34), (36, 34)] (slices_Sort_int_vec0_ok hy3) rfl rfl rfl Try.call76 (by simp) (by simp; rfl) ?_
      refine tops_nil ?_
      refine kc ?_
      refine ko [38] 1 (by simp; rfl) ?_
      replace h0 := bnd h0; obtain ⟨y4, hy4, h0⟩ := h0
      refine kcallV [39] [] [34] [600156] (slices_Compact_int_eat0_own0_ok hy4) rfl rfl rfl Try.call77 (by simp) (by simp; rfl) ?_
      refine ko [4] 1 (by simp; rfl) ?_
      refine tops_nil ?_
      cases h0
      exact tr_ret ⟨[600156], by simp, rfl, by simp⟩
    · refine tr_block (tr_iter (fun s5 : Int × (List Int) => ({ nt := 40, env := [(3, .ptr 3 0), (5, .vec 34), (13, .d (.slice (rowsF api_Consumer_row a0.Consumers))), (14, .d (.int .i64 ((a0.Consumers).length : Int))), (15, .d (.int .i64 s5.1))], box := [(3, [.d (.int .i64 a1.Known), .d (.int .i64 a1.Valid), .d (.slice (rowsF api_Unit_row a1.Units))])], vec := [(34, ⟨3, 1, rowsF (iRow .i64) s5.2⟩)] } : St)) hI1 (wk (by simp [weak_iff])) fun G1 s5 o1 h1 hg1 he1 => ?_)
      unfold fleet_Served_l0 at h1
      refine kr [3, 5, 13, 14, 15, 16] (by simp; rfl) ?_
      refine tr_seq ?_
      refine tr_cond (b := (decide (s5.1 < ((a0.Consumers).length : Int)))) (by simp) (fun c8 => ?_) (fun c8 => ?_)
      · rw [if_pos c8] at h1
        refine tr_skip ?_
        refine tr_seq ?_
        refine tr_block ?_
        replace h1 := bnd h1; obtain ⟨x6, p12, h1⟩ := h1
        replace p12 := idx_some p12
        have p12' := p12; try simp at p12'
        refine kr [3, 5, 6, 7, 13, 14, 15] (by simp [p12, p12']; rfl) ?_
        refine kd [[], [0], [], [1, 2], [3], [4], [], [6], [5, 7], [8]] [] [] none [] 10 fol (by decide +kernel) (by simp) ?_
        replace h1 := bnd h1; obtain ⟨x7, p14, h1⟩ := h1
        replace p14 := idx_some p14
        have p14' := p14; try simp at p14'
        refine dr_go 0 2 rfl (by simp (maxSteps := 1000000) [p14, p14']; rfl) ?_
        refine dr_go 2 2 rfl (by simp (maxSteps := 1000000) [p14, p14']; rfl) ?_
        refine dr_go 4 2 rfl (by simp (maxSteps := 1000000) [p14, p14']; rfl) ?_
        refine dr_go 6 2 rfl (by simp (maxSteps := 1000000) [p14, p14']; rfl) ?_
        refine dr_go 8 2 rfl (by simp (maxSteps := 1000000) [p14, p14']; rfl) ?_
        refine dr_end rfl (tops_nil ?_)
        refine tr_cond (b := ((bAnd .i64 x7.Used a1.Valid) != 0)) (by simp) (fun c9 => ?_) (fun c9 => ?_)
        · rw [if_pos c9] at h1
          replace h1 := bnd h1; obtain ⟨_, p15, h1⟩ := h1
          replace p15 := ck_some p15
          have p15' := p15; try simp at p15'
          refine lr (by simp [p15, p15']; rfl) ?_
          refine lr (by simp; rfl) ?_
          exact ⟨_, hg1 _ (Option.some.inj h1), wk (by simp [weak_iff])⟩
        · rw [if_neg (by rw [c9]; decide)] at h1
          refine tr_skip ?_
          refine lr (by simp; rfl) ?_
          exact ⟨_, hg1 _ (Option.some.inj h1), wk (by simp [weak_iff])⟩
      · rw [if_neg (by rw [c8]; decide)] at h1
        refine tr_exit ?_
        exact ⟨_, he1 _ (Option.some.inj h1), wk (by simp [weak_iff])⟩
set_option maxHeartbeats 1000000 in
theorem slices_Clone_api_Unit_ok {a0 : List api_Unit} {r : List api_Unit} (h0 : slices_Clone_api_Unit a0 = some r) : FnOK Try.prog 102 [] [.d (.slice (rowsF api_Unit_row a0))] (.d (.slice (rowsF api_Unit_row r))) [] := by
  unfold slices_Clone_api_Unit at h0
  replace h0 := bnd h0; obtain ⟨_, p1, h0⟩ := h0; replace p1 := ck_some p1; cases h0
  refine fn_ok (nt := 8) (rs := [.tmp 2]) Try.func102 rfl Try.ntmps102 rfl (by simp) (by decide) rfl fun K => ?_
  refine kr [0, 2] (by simp; rfl) ?_
  cases a0 with
  | nil =>
    refine tr_seq ?_
    refine kc ?_
    refine ko [0, 3] 1 (by simp; rfl) ?_
    refine tops_isnil (by simp) rfl rfl (by simp) Try.underlying31 (by simp) (by simp) fun b => ?_
    refine tops_nil ?_
    refine tr_cond (b := b) (by simp) (fun cb => ?_) (fun cb => ?_)
    · refine kr [2] (by simp; rfl) ?_
      exact tr_ret ⟨[], by simp, rfl, by simp⟩
    · refine tr_skip ?_
      refine kr [2] (by simp; rfl) ?_
      exact tr_ret ⟨[7], by simp, rfl, by simp⟩
  | cons x l =>
    refine tr_seq ?_
    refine kr [0, 4] (by simp; rfl) ?_
    refine tr_cond (b := false) (by simp) (fun h => by cases h) (fun _ => ?_)
    refine tr_skip ?_
    have p2 := p1; simp at p2
    refine kr [2] (by simp [p1, p2]; rfl) ?_
    exact tr_ret ⟨[7], by simp, rfl, by simp⟩
set_option maxHeartbeats 1000000 in
theorem fleet_Copy_ok {a0 : api_Rotation} {r : api_Rotation} (h0 : fleet_Copy a0 = some r) : FnOK Try.prog 83 [] [.agg (api_Rotation_av a0)] (.agg (api_Rotation_av r)) [] := by
  unfold fleet_Copy at h0
  refine fn_ok (nt := 8) (rs := [.cell 2 33]) Try.func83 rfl Try.ntmps83 rfl (by simp) (by decide) rfl fun K => ?_
  refine kr [1, 2] (by simp; rfl) ?_
  refine kc ?_
  refine ko [1, 2, 4] 2 (by simp; rfl) ?_
  replace h0 := bnd h0; obtain ⟨y1, hy1, h0⟩ := h0
  refine kcall [1, 2, 5] [] (slices_Clone_api_Unit_ok hy1) rfl rfl rfl Try.call102 (by simp) (by simp; rfl) ?_
  refine ko [1, 2] 2 (by simp; rfl) ?_
  refine tops_nil ?_
  refine kr [2] (by simp; rfl) ?_
  cases h0
  exact tr_ret ⟨[], by simp, rfl, by simp⟩
set_option maxHeartbeats 1000000 in
theorem slices_Index_int_ok {a0 : List Int} {a1 : Int} {r : Int} (h0 : slices_Index_int a0 a1 = some r) : FnOK Try.prog 124 [] [.d (.slice (rowsF (iRow .i64) a0)), .d (.int .i64 a1)] (.d (.int .i64 r)) [] := by
  unfold slices_Index_int at h0
  refine fn_ok (nt := 19) (rs := [.tmp 4]) Try.func124 rfl Try.ntmps124 rfl (by simp) (by decide) rfl fun K => ?_
  refine kr [0, 1] (by simp; rfl) ?_
  refine tr_seq ?_
  refine kr [0, 1, 7, 8] (by simp; rfl) ?_
  replace h0 := bnd h0; obtain ⟨e1, hI1, h0⟩ := h0
  refine tjv (fun v1 : Unit => ({ nt := 19, env := [], box := [], vec := [] } : St)) (fun v1 => .inl v1 = e1) (fun v1 hI1e _ W1 => ?_) ?_
  · subst hI1e
    dsimp only at h0
    refine tr_wk W1 ?_
    refine kr [4] (by simp; rfl) ?_
    cases h0
    exact tr_ret ⟨[], by simp, rfl, by simp⟩
  · refine tr_block (tr_iter (fun s2 : Int => ({ nt := 19, env := [(0, .d (.slice (rowsF (iRow .i64) a0))), (1, .d (.int .i64 a1)), (7, .d (.int .i64 ((a0).length : Int))), (8, .d (.int .i64 s2))], box := [], vec := [] } : St)) hI1 (wk (by simp [weak_iff])) fun G1 s2 o1 h1 hg1 he1 => ?_)
    unfold slices_Index_int_l0 at h1
    refine kr [0, 1, 7, 8, 9] (by simp; rfl) ?_
    refine tr_seq ?_
    refine tr_cond (b := (decide (s2 < ((a0).length : Int)))) (by simp) (fun c5 => ?_) (fun c5 => ?_)
    · rw [if_pos c5] at h1
      refine tr_skip ?_
      refine tr_seq ?_
      refine tr_block ?_
      refine kr [0, 1, 5, 7, 8] (by simp; rfl) ?_
      replace h1 := bnd h1; obtain ⟨x3, p3, h1⟩ := h1
      replace p3 := idx_some p3
      have p3' := p3; try simp at p3'
      refine kr [0, 1, 5, 7, 8, 16] (by simp [p3, p3']; rfl) ?_
      refine tr_cond (b := (a1 == x3)) (by simp) (fun c6 => ?_) (fun c6 => ?_)
      · rw [if_pos c6] at h1
        refine kr [4] (by simp; rfl) ?_
        have k1 := he1 _ (Option.some.inj h1)
        subst k1
        dsimp only at h0
        cases h0
        exact tr_ret ⟨[], by simp, rfl, by simp⟩
      · rw [if_neg (by rw [c6]; decide)] at h1
        refine tr_skip ?_
        refine lr (by simp; rfl) ?_
        exact ⟨_, hg1 _ (Option.some.inj h1), wk (by simp [weak_iff])⟩
    · rw [if_neg (by rw [c5]; decide)] at h1
      refine tr_exit ?_
      exact ⟨_, he1 _ (Option.some.inj h1), wk (by simp [weak_iff])⟩
set_option maxHeartbeats 1000000 in
theorem slices_Contains_int_ok {a0 : List Int} {a1 : Int} {r : Bool} (h0 : slices_Contains_int a0 a1 = some r) : FnOK Try.prog 106 [] [.d (.slice (rowsF (iRow .i64) a0)), .d (.int .i64 a1)] (.d (.bool r)) [] := by
  unfold slices_Contains_int at h0
  refine fn_ok (nt := 9) (rs := [.tmp 4]) Try.func106 rfl Try.ntmps106 rfl (by simp) (by decide) rfl fun K => ?_
  refine kr [0, 1] (by simp; rfl) ?_
  refine kc ?_
  refine ko [5, 6] 2 (by simp; rfl) ?_
  replace h0 := bnd h0; obtain ⟨y1, hy1, h0⟩ := h0
  refine kcall [7] [] (slices_Index_int_ok hy1) rfl rfl rfl Try.call124 (by simp) (by simp; rfl) ?_
  refine ko [4] 2 (by simp; rfl) ?_
  refine tops_nil ?_
  cases h0
  exact tr_ret ⟨[], by simp, rfl, by simp⟩
set_option maxHeartbeats 1000000 in
theorem steps_holds_1_cb_ok {a0 : Int} {a1 : List Int} {r : Bool × (List Int)} (h0 : steps_holds_1_cb a0 a1 = some r) : FnOK Try.prog 105 [[.d (.slice (rowsF (iRow .i64) a1))]] [.d (.int .i64 a0), .ptr (InO 0) 0] (.d (.bool r.1)) [[.d (.slice (rowsF (iRow .i64) r.2))]] := by
  unfold steps_holds_1_cb at h0
  refine fn_ok (nt := 8) (rs := [.tmp 3]) Try.func105 rfl Try.ntmps105 rfl (by simp) (by decide) rfl fun K => ?_
  refine kr [0, 1] (by simp; rfl) ?_
  refine kc ?_
  refine ko [4, 5] 2 (by simp; rfl) ?_
  replace h0 := bnd h0; obtain ⟨y1, hy1, h0⟩ := h0
  refine kcall [6] [] (slices_Contains_int_ok hy1) rfl rfl rfl Try.call106 (by simp) (by simp; rfl) ?_
  refine ko [3] 2 (by simp; rfl) ?_
  refine tops_nil ?_
  cases h0
  exact tr_ret ⟨[], by simp, rfl, by simp⟩
set_option maxHeartbeats 1000000 in
theorem slices_IndexFunc_int_at_steps_holds_1_b_ok {a0 : List Int} {b10 : List Int} {r : Int × (List Int)} (h0 : slices_IndexFunc_int_at_steps_holds_1_b a0 b10 = some r) : FnOK Try.prog 123 [[.d (.slice (rowsF (iRow .i64) b10))]] [.d (.slice (rowsF (iRow .i64) a0)), .fn 105 [.ptr (InO 0) 0]] (.d (.int .i64 r.1)) [[.d (.slice (rowsF (iRow .i64) r.2))]] := by
  unfold slices_IndexFunc_int_at_steps_holds_1_b at h0
  refine fn_ok (nt := 19) (rs := [.tmp 4]) Try.func123 rfl Try.ntmps123 rfl (by simp) (by decide) rfl fun K => ?_
  refine kr [0, 1] (by simp; rfl) ?_
  refine tr_seq ?_
  refine kr [0, 1, 7, 8] (by simp; rfl) ?_
  replace h0 := bnd h0; obtain ⟨e1, hI1, h0⟩ := h0
  refine tjv (fun v1 : (List Int) => ({ nt := 19, env := [], box := [(1000000, [.d (.slice (rowsF (iRow .i64) v1))])], vec := [] } : St)) (fun v1 => .inl v1 = e1) (fun v1 hI1e _ W1 => ?_) ?_
  · subst hI1e
    dsimp only at h0
    refine tr_wk W1 ?_
    refine kr [4] (by simp; rfl) ?_
    cases h0
    exact tr_ret ⟨[], by simp, rfl, by simp⟩
  · refine tr_block (tr_iter (fun s2 : Int × (List Int) => ({ nt := 19, env := [(0, .d (.slice (rowsF (iRow .i64) a0))), (1, .fn 105 [.ptr 1000000 0]), (7, .d (.int .i64 ((a0).length : Int))), (8, .d (.int .i64 s2.1))], box := [(1000000, [.d (.slice (rowsF (iRow .i64) s2.2))])], vec := [] } : St)) hI1 (wk (by simp [weak_iff])) fun G1 s2 o1 h1 hg1 he1 => ?_)
    unfold slices_IndexFunc_int_at_steps_holds_1_b_l0 at h1
    refine kr [0, 1, 7, 8, 9] (by simp; rfl) ?_
    refine tr_seq ?_
    refine tr_cond (b := (decide (s2.1 < ((a0).length : Int)))) (by simp) (fun c5 => ?_) (fun c5 => ?_)
    · rw [if_pos c5] at h1
      refine tr_skip ?_
      refine tr_seq ?_
      refine tr_block ?_
      refine kr [0, 1, 5, 7, 8] (by simp; rfl) ?_
      refine kc ?_
      replace h1 := bnd h1; obtain ⟨x3, p3, h1⟩ := h1
      replace p3 := idx_some p3
      have p3' := p3; try simp at p3'
      refine ko [0, 1, 5, 7, 8, 11, 15] 5 (by simp [p3, p3']; rfl) ?_
      replace h1 := bnd h1; obtain ⟨y4, hy4, h1⟩ := h1
      refine kcallV [0, 1, 5, 7, 8, 16] [1000000] [] [] (steps_holds_1_cb_ok hy4) rfl rfl rfl Try.call105 (by simp) (by simp; rfl) ?_
      refine tops_nil ?_
      refine tr_cond (b := y4.1) (by simp) (fun c6 => ?_) (fun c6 => ?_)
      · rw [if_pos c6] at h1
        refine kr [4] (by simp; rfl) ?_
        have k1 := he1 _ (Option.some.inj h1)
        subst k1
        dsimp only at h0
        cases h0
        exact tr_ret ⟨[], by simp, rfl, by simp⟩
      · rw [if_neg (by rw [c6]; decide)] at h1
        refine tr_skip ?_
        refine lr (by simp; rfl) ?_
        exact ⟨_, hg1 _ (Option.some.inj h1), wk (by simp [weak_iff])⟩
    · rw [if_neg (by rw [c5]; decide)] at h1
      refine tr_exit ?_
      exact ⟨_, he1 _ (Option.some.inj h1), wk (by simp [weak_iff])⟩
set_option maxHeartbeats 1000000 in
theorem slices_ContainsFunc_int_at_steps_holds_1_b_ok {a0 : List Int} {b10 : List Int} {r : Bool × (List Int)} (h0 : slices_ContainsFunc_int_at_steps_holds_1_b a0 b10 = some r) : FnOK Try.prog 104 [[.d (.slice (rowsF (iRow .i64) b10))]] [.d (.slice (rowsF (iRow .i64) a0)), .fn 105 [.ptr (InO 0) 0]] (.d (.bool r.1)) [[.d (.slice (rowsF (iRow .i64) r.2))]] := by
  unfold slices_ContainsFunc_int_at_steps_holds_1_b at h0
  refine fn_ok (nt := 9) (rs := [.tmp 4]) Try.func104 rfl Try.ntmps104 rfl (by simp) (by decide) rfl fun K => ?_
  refine kr [0, 1] (by simp; rfl) ?_
  refine kc ?_
  refine ko [5, 6] 2 (by simp; rfl) ?_
  replace h0 := bnd h0; obtain ⟨y1, hy1, h0⟩ := h0
  refine kcall [7] [1000000] (slices_IndexFunc_int_at_steps_holds_1_b_ok hy1) rfl rfl rfl Try.call123 (by simp) (by simp; rfl) ?_
  refine ko [4] 2 (by simp; rfl) ?_
  refine tops_nil ?_
  cases h0
  exact tr_ret ⟨[], by simp, rfl, by simp⟩
set_option maxHeartbeats 1000000 in
theorem steps_holds_ok {a0 : api_Fleet} {a1 : api_Rotation} {a2 : api_Rotation} {r : Bool} (h0 : steps_holds a0 a1 a2 = some r) : FnOK Try.prog 85 [] [.agg (api_Fleet_av a0), .agg (api_Rotation_av a1), .agg (api_Rotation_av a2)] (.d (.bool r)) [] := by
  unfold steps_holds at h0
  refine fn_ok (nt := 17) (rs := [.tmp 6]) Try.func85 rfl Try.ntmps85 rfl (by simp) (by decide) rfl fun K => ?_
  refine kr [3, 4, 5] (by simp; rfl) ?_
  refine kc ?_
  refine ko [3, 4, 8, 9] 2 (by simp; rfl) ?_
  replace h0 := bnd h0; obtain ⟨y1, hy1, h0⟩ := h0
  refine kcall [3, 4, 10] [] (fleet_Served_ok hy1) rfl rfl rfl Try.call23 (by simp) (by simp; rfl) ?_
  refine ko [3, 4, 7] 2 (by simp; rfl) ?_
  refine tops_nil ?_
  refine kc ?_
  refine ko [7, 11, 12] 2 (by simp; rfl) ?_
  replace h0 := bnd h0; obtain ⟨y2, hy2, h0⟩ := h0
  refine kcall [7, 13] [] (fleet_Served_ok hy2) rfl rfl rfl Try.call23 (by simp) (by simp; rfl) ?_
  refine ko [13, 14] 1 (by simp; rfl) ?_
  replace h0 := bnd h0; obtain ⟨y3, hy3, h0⟩ := h0
  refine kcall [15] [7] (slices_ContainsFunc_int_at_steps_holds_1_b_ok hy3) rfl rfl rfl Try.call104 (by simp) (by simp; rfl) ?_
  refine ko [6] 2 (by simp; rfl) ?_
  refine tops_nil ?_
  cases h0
  exact tr_ret ⟨[], by simp, rfl, by simp⟩
set_option maxHeartbeats 1000000 in
theorem steps_Safe_ok {a0 : api_Fleet} {a1 : api_Rotation} {a2 : api_Step} {r : Bool} (h0 : steps_Safe a0 a1 a2 = some r) : FnOK Try.prog 48 [] [.agg (api_Fleet_av a0), .agg (api_Rotation_av a1), .agg (api_Step_av a2)] (.d (.bool r)) [] := by
  unfold steps_Safe at h0
  refine fn_ok (nt := 24) (rs := [.tmp 6]) Try.func48 rfl Try.ntmps48 rfl (by simp) (by decide) rfl fun K => ?_
  refine kr [3, 4, 5] (by simp; rfl) ?_
  refine kc ?_
  refine ko [3, 4, 10, 11, 12] 3 (by simp; rfl) ?_
  replace h0 := bnd h0; obtain ⟨y1, hy1, h0⟩ := h0
  refine kcall [3, 4, 13] [] (steps_Apply_ok hy1) rfl rfl rfl Try.call45 (by simp) (by simp; rfl) ?_
  refine ko [3, 4, 7, 8] 6 (by simp; rfl) ?_
  refine tops_nil ?_
  replace h0 := bnd h0; obtain ⟨v2, hvv2, h0⟩ := h0
  refine sjv (fun v2_ : Bool => ({ nt := 24, env := [(6, .d (.bool v2_))], box := [], vec := [] } : St)) (fun v2_ => v2 = v2_) (fun v2_ e => ?_) ?_
  · subst e
    cases h0
    exact tr_ret ⟨[], by simp, rfl, by simp⟩
  · refine kc1 ?_
    refine ko [3, 4, 7, 18] 3 (by simp; rfl) ?_
    refine tops_split 18 (y1.2 == 0) (by simp) (fun c3 => ?_) (fun c3 => ?_)
    · rw [if_pos c3] at hvv2
      refine ko [18, 19, 20, 21] 3 (by simp; rfl) ?_
      replace hvv2 := bnd hvv2; obtain ⟨y3, hy3, hvv2⟩ := hvv2
      refine kcall [18, 22] [] (steps_holds_ok hy3) rfl rfl rfl Try.call85 (by simp) (by simp; rfl) ?_
      refine ko [6] 2 (by simp; rfl) ?_
      refine tops_nil ?_
      cases hvv2
      exact ⟨_, rfl, wk (by simp [weak_iff])⟩
    · rw [if_neg (by rw [c3]; decide)] at hvv2
      refine kskip 4 [] (by kernel_rfl) ?_
      refine ko [6] 2 (by simp; rfl) ?_
      refine tops_nil ?_
      cases hvv2
      exact ⟨_, rfl, wk (by simp [weak_iff])⟩
set_option maxHeartbeats 1000000 in
theorem steps_Possible_ok {a0 : api_Fleet} {a1 : api_Rotation} {a2 : api_Step} {r : Bool} (h0 : steps_Possible a0 a1 a2 = some r) : FnOK Try.prog 46 [] [.agg (api_Fleet_av a0), .agg (api_Rotation_av a1), .agg (api_Step_av a2)] (.d (.bool r)) [] := by
  unfold steps_Possible at h0
  refine fn_ok (nt := 18) (rs := [.tmp 6]) Try.func46 rfl Try.ntmps46 rfl (by simp) (by decide) rfl fun K => ?_
  refine kr [3, 4, 5] (by simp; rfl) ?_
  refine kc ?_
  refine ko [10, 11, 12] 3 (by simp; rfl) ?_
  replace h0 := bnd h0; obtain ⟨y1, hy1, h0⟩ := h0
  refine kcall [13] [] (steps_Apply_ok hy1) rfl rfl rfl Try.call45 (by simp) (by simp; rfl) ?_
  refine ko [8] 6 (by simp; rfl) ?_
  refine tops_nil ?_
  refine kr [6] (by simp; rfl) ?_
  cases h0
  exact tr_ret ⟨[], by simp, rfl, by simp⟩
set_option maxHeartbeats 1000000 in
theorem law33_awake_ok  {r : Bool} (h0 : law33_awake = some r) : FnOK Try.prog 43 [] [] (.d (.bool r)) [] := by
  unfold law33_awake at h0
  refine fn_ok (nt := 47) (rs := [.tmp 0]) Try.func43 rfl Try.ntmps43 rfl (by simp) (by decide) rfl fun K => ?_
  refine kr [] (by simp; rfl) ?_
  refine kr [1] (by simp; rfl) ?_
  refine kc ?_
  refine ko [1, 10] 1 (by simp; rfl) ?_
  refine tops_wk (wk_frz 7) ?_
  replace h0 := bnd h0; obtain ⟨y1, hy1, h0⟩ := h0
  refine kcall [1, 11] [] (ref32_Start_ok hy1) rfl rfl rfl Try.call27 (by simp) (by simp; rfl) ?_
  refine ko [1, 2] 6 (by simp; rfl) ?_
  refine tops_nil ?_
  refine kc ?_
  refine ko [1, 2, 15, 16, 17] 3 (by simp; rfl) ?_
  replace h0 := bnd h0; obtain ⟨y2, hy2, h0⟩ := h0
  refine kcall [1, 2, 18] [] (steps_Apply_ok hy2) rfl rfl rfl Try.call45 (by simp) (by simp; rfl) ?_
  refine ko [1, 2, 4, 5] 6 (by simp; rfl) ?_
  refine tops_nil ?_
  replace h0 := bnd h0; obtain ⟨v3, hvv3, h0⟩ := h0
  refine sjv (fun v3_ : Bool => ({ nt := 47, env := [(0, .d (.bool v3_))], box := [], vec := [] } : St)) (fun v3_ => v3 = v3_) (fun v3_ e => ?_) ?_
  · subst e
    cases h0
    exact tr_ret ⟨[], by simp, rfl, by simp⟩
  · refine kc1 ?_
    refine ko [1, 2, 4, 23] 3 (by simp; rfl) ?_
    refine tops_split 23 (y2.2 == 0) (by simp) (fun c9 => ?_) (fun c9 => ?_)
    · rw [if_pos c9] at hvv3
      refine ko [1, 2, 28] 5 (by simp; rfl) ?_
      refine tops_split 28 (y2.1.Known == 3) (by simp) (fun c10 => ?_) (fun c10 => ?_)
      · rw [if_pos c10] at hvv3
        refine ko [1, 2, 28, 29, 30, 31] 3 (by simp; rfl) ?_
        replace hvv3 := bnd hvv3; obtain ⟨y4, hy4, hvv3⟩ := hvv3
        refine kcall [1, 2, 28, 32] [] (steps_Safe_ok hy4) rfl rfl rfl Try.call48 (by simp) (by simp; rfl) ?_
        refine ko [1, 2, 34] 2 (by simp; rfl) ?_
        refine tops_split 34 y4 (by simp) (fun c11 => ?_) (fun c11 => ?_)
        · rw [if_pos c11] at hvv3
          refine ko [1, 2, 34, 35, 36, 37] 3 (by simp; rfl) ?_
          replace hvv3 := bnd hvv3; obtain ⟨y5, hy5, hvv3⟩ := hvv3
          refine kcall [1, 2, 34, 38] [] (steps_Safe_ok hy5) rfl rfl rfl Try.call48 (by simp) (by simp; rfl) ?_
          refine ko [1, 2, 41] 3 (by simp; rfl) ?_
          refine tops_split 41 (!y5) (by simp) (fun c12 => ?_) (fun c12 => ?_)
          · rw [if_pos c12] at hvv3
            refine ko [41, 42, 43, 44] 3 (by simp; rfl) ?_
            replace hvv3 := bnd hvv3; obtain ⟨y6, hy6, hvv3⟩ := hvv3
            refine kcall [41, 45] [] (steps_Possible_ok hy6) rfl rfl rfl Try.call46 (by simp) (by simp; rfl) ?_
            refine ko [0] 2 (by simp; rfl) ?_
            refine tops_nil ?_
            cases hvv3
            exact ⟨_, rfl, wk (by simp [weak_iff])⟩
          · rw [if_neg (by rw [c12]; decide)] at hvv3
            refine kskip 4 [] (by kernel_rfl) ?_
            refine ko [0] 2 (by simp; rfl) ?_
            refine tops_nil ?_
            cases hvv3
            exact ⟨_, rfl, wk (by simp [weak_iff])⟩
        · rw [if_neg (by rw [c11]; decide)] at hvv3
          refine kskip 5 [] (by kernel_rfl) ?_
          refine ko [1, 2, 41] 2 (by simp; rfl) ?_
          refine kskip 4 [] (by kernel_rfl) ?_
          refine ko [0] 2 (by simp; rfl) ?_
          refine tops_nil ?_
          cases hvv3
          exact ⟨_, rfl, wk (by simp [weak_iff])⟩
      · rw [if_neg (by rw [c10]; decide)] at hvv3
        refine kskip 4 [] (by kernel_rfl) ?_
        refine ko [1, 2, 34] 2 (by simp; rfl) ?_
        refine kskip 5 [] (by kernel_rfl) ?_
        refine ko [1, 2, 41] 2 (by simp; rfl) ?_
        refine kskip 4 [] (by kernel_rfl) ?_
        refine ko [0] 2 (by simp; rfl) ?_
        refine tops_nil ?_
        cases hvv3
        exact ⟨_, rfl, wk (by simp [weak_iff])⟩
    · rw [if_neg (by rw [c9]; decide)] at hvv3
      refine kskip 3 [] (by kernel_rfl) ?_
      refine ko [1, 2, 28] 2 (by simp; rfl) ?_
      refine kskip 4 [] (by kernel_rfl) ?_
      refine ko [1, 2, 34] 2 (by simp; rfl) ?_
      refine kskip 5 [] (by kernel_rfl) ?_
      refine ko [1, 2, 41] 2 (by simp; rfl) ?_
      refine kskip 4 [] (by kernel_rfl) ?_
      refine ko [0] 2 (by simp; rfl) ?_
      refine tops_nil ?_
      cases hvv3
      exact ⟨_, rfl, wk (by simp [weak_iff])⟩
set_option maxHeartbeats 1000000 in
theorem runner_outcome_ok {a0 : Int} {r : Bool} (h0 : runner_outcome a0 = some r) : FnOK Try.prog 91 [] [.d (.int .i64 a0)] (.d (.bool r)) [] := by
  unfold runner_outcome at h0
  refine fn_ok (nt := 9) (rs := [.tmp 2]) Try.func91 rfl Try.ntmps91 rfl (by simp) (by decide) rfl fun K => ?_
  refine kr [0] (by simp; rfl) ?_
  replace h0 := bnd h0; obtain ⟨v1, hvv1, h0⟩ := h0
  refine sjv (fun v1_ : Bool => ({ nt := 9, env := [(2, .d (.bool v1_))], box := [], vec := [] } : St)) (fun v1_ => v1 = v1_) (fun v1_ e => ?_) ?_
  · subst e
    cases h0
    exact tr_ret ⟨[], by simp, rfl, by simp⟩
  · refine kc1 ?_
    refine ko [0, 5] 3 (by simp; rfl) ?_
    refine tops_split 5 (decide (0 ≤ a0)) (by simp) (fun c3 => ?_) (fun c3 => ?_)
    · rw [c3] at hvv1
      refine ko [2] 4 (by simp; rfl) ?_
      refine tops_nil ?_
      cases hvv1
      exact ⟨_, rfl, wk (by simp [weak_iff])⟩
    · rw [c3] at hvv1
      refine ko [2] 4 (by simp; rfl) ?_
      refine tops_nil ?_
      cases hvv1
      exact ⟨_, rfl, wk (by simp [weak_iff])⟩
set_option maxHeartbeats 1000000 in
theorem runner_check_1_ok {a0 : Int} {r : Bool} (h0 : runner_check_1 a0 = some r) : FnOK Try.prog 125 [] [.d (.int .i64 a0)] (.d (.bool r)) [] := by
  unfold runner_check_1 at h0
  refine fn_ok (nt := 6) (rs := [.tmp 2]) Try.func125 rfl Try.ntmps125 rfl (by simp) (by decide) rfl fun K => ?_
  refine kr [0] (by simp; rfl) ?_
  refine kc ?_
  refine ko [3] 1 (by simp; rfl) ?_
  replace h0 := bnd h0; obtain ⟨y1, hy1, h0⟩ := h0
  refine kcall [4] [] (runner_outcome_ok hy1) rfl rfl rfl Try.call91 (by simp) (by simp; rfl) ?_
  refine ko [2] 2 (by simp; rfl) ?_
  refine tops_nil ?_
  cases h0
  exact tr_ret ⟨[], by simp, rfl, by simp⟩
set_option maxHeartbeats 1000000 in
theorem slices_IndexFunc_int_at_runner_check_1_ok {a0 : List Int} {r : Int} (h0 : slices_IndexFunc_int_at_runner_check_1 a0 = some r) : FnOK Try.prog 123 [] [.d (.slice (rowsF (iRow .i64) a0)), .fn 125 []] (.d (.int .i64 r)) [] := by
  unfold slices_IndexFunc_int_at_runner_check_1 at h0
  refine fn_ok (nt := 19) (rs := [.tmp 4]) Try.func123 rfl Try.ntmps123 rfl (by simp) (by decide) rfl fun K => ?_
  refine kr [0, 1] (by simp; rfl) ?_
  refine tr_seq ?_
  refine kr [0, 1, 7, 8] (by simp; rfl) ?_
  replace h0 := bnd h0; obtain ⟨e1, hI1, h0⟩ := h0
  refine tjv (fun v1 : Unit => ({ nt := 19, env := [], box := [], vec := [] } : St)) (fun v1 => .inl v1 = e1) (fun v1 hI1e _ W1 => ?_) ?_
  · subst hI1e
    dsimp only at h0
    refine tr_wk W1 ?_
    refine kr [4] (by simp; rfl) ?_
    cases h0
    exact tr_ret ⟨[], by simp, rfl, by simp⟩
  · refine tr_block (tr_iter (fun s2 : Int => ({ nt := 19, env := [(0, .d (.slice (rowsF (iRow .i64) a0))), (1, .fn 125 []), (7, .d (.int .i64 ((a0).length : Int))), (8, .d (.int .i64 s2))], box := [], vec := [] } : St)) hI1 (wk (by simp [weak_iff])) fun G1 s2 o1 h1 hg1 he1 => ?_)
    unfold slices_IndexFunc_int_at_runner_check_1_l0 at h1
    refine kr [0, 1, 7, 8, 9] (by simp; rfl) ?_
    refine tr_seq ?_
    refine tr_cond (b := (decide (s2 < ((a0).length : Int)))) (by simp) (fun c5 => ?_) (fun c5 => ?_)
    · rw [if_pos c5] at h1
      refine tr_skip ?_
      refine tr_seq ?_
      refine tr_block ?_
      refine kr [0, 1, 5, 7, 8] (by simp; rfl) ?_
      refine kc ?_
      replace h1 := bnd h1; obtain ⟨x3, p3, h1⟩ := h1
      replace p3 := idx_some p3
      have p3' := p3; try simp at p3'
      refine ko [0, 1, 5, 7, 8, 11, 15] 5 (by simp [p3, p3']; rfl) ?_
      replace h1 := bnd h1; obtain ⟨y4, hy4, h1⟩ := h1
      refine kcallV [0, 1, 5, 7, 8, 16] [] [] [] (runner_check_1_ok hy4) rfl rfl rfl Try.call125 (by simp) (by simp; rfl) ?_
      refine tops_nil ?_
      refine tr_cond (b := y4) (by simp) (fun c6 => ?_) (fun c6 => ?_)
      · rw [if_pos c6] at h1
        refine kr [4] (by simp; rfl) ?_
        have k1 := he1 _ (Option.some.inj h1)
        subst k1
        dsimp only at h0
        cases h0
        exact tr_ret ⟨[], by simp, rfl, by simp⟩
      · rw [if_neg (by rw [c6]; decide)] at h1
        refine tr_skip ?_
        refine lr (by simp; rfl) ?_
        exact ⟨_, hg1 _ (Option.some.inj h1), wk (by simp [weak_iff])⟩
    · rw [if_neg (by rw [c5]; decide)] at h1
      refine tr_exit ?_
      exact ⟨_, he1 _ (Option.some.inj h1), wk (by simp [weak_iff])⟩
set_option maxHeartbeats 1000000 in
theorem slices_ContainsFunc_int_at_runner_check_1_ok {a0 : List Int} {r : Bool} (h0 : slices_ContainsFunc_int_at_runner_check_1 a0 = some r) : FnOK Try.prog 104 [] [.d (.slice (rowsF (iRow .i64) a0)), .fn 125 []] (.d (.bool r)) [] := by
  unfold slices_ContainsFunc_int_at_runner_check_1 at h0
  refine fn_ok (nt := 9) (rs := [.tmp 4]) Try.func104 rfl Try.ntmps104 rfl (by simp) (by decide) rfl fun K => ?_
  refine kr [0, 1] (by simp; rfl) ?_
  refine kc ?_
  refine ko [5, 6] 2 (by simp; rfl) ?_
  replace h0 := bnd h0; obtain ⟨y1, hy1, h0⟩ := h0
  refine kcall [7] [] (slices_IndexFunc_int_at_runner_check_1_ok hy1) rfl rfl rfl Try.call123 (by simp) (by simp; rfl) ?_
  refine ko [4] 2 (by simp; rfl) ?_
  refine tops_nil ?_
  cases h0
  exact tr_ret ⟨[], by simp, rfl, by simp⟩
set_option maxHeartbeats 1000000 in
theorem runner_check_ok {a0 : api_Fleet} {a1 : api_Rotation} {a2 : List api_Step} {a3 : List Int} {r : Int} (h0 : runner_check a0 a1 a2 a3 = some r) : FnOK Try.prog 107 [] [.agg (api_Fleet_av a0), .agg (api_Rotation_av a1), .d (.slice (rowsF api_Step_row a2)), .d (.slice (rowsF (iRow .i64) a3))] (.d (.int .i64 r)) [] := by
  unfold runner_check at h0
  refine fn_ok (nt := 21) (rs := [.tmp 8]) Try.func107 rfl Try.ntmps107 rfl (by simp) (by decide) rfl fun K => ?_
  refine kr [2, 3, 4, 5] (by simp; rfl) ?_
  refine tr_seq ?_
  refine tr_block ?_
  refine kc ?_
  refine ko [2, 3, 10, 11] 2 (by simp; rfl) ?_
  replace h0 := bnd h0; obtain ⟨y1, hy1, h0⟩ := h0
  refine kcall [2, 3, 12] [] (fleet_Right_ok hy1) rfl rfl rfl Try.call21 (by simp) (by simp; rfl) ?_
  refine ko [2, 3, 9] 2 (by simp; rfl) ?_
  refine tops_nil ?_
  refine tr_cond (b := (!y1)) (by simp) (fun c1 => ?_) (fun c1 => ?_)
  · rw [if_pos c1] at h0
    refine kr [8] (by simp; rfl) ?_
    cases h0
    exact tr_ret ⟨[], by simp, rfl, by simp⟩
  · rw [if_neg (by rw [c1]; decide)] at h0
    refine kr [3, 14] (by simp; rfl) ?_
    refine tr_cond (b := (decide (120 < ((a2).length : Int)))) (by simp) (fun c2 => ?_) (fun c2 => ?_)
    · rw [if_pos c2] at h0
      refine kr [8] (by simp; rfl) ?_
      cases h0
      exact tr_ret ⟨[], by simp, rfl, by simp⟩
    · rw [if_neg (by rw [c2]; decide)] at h0
      refine kc ?_
      refine ko [19] 1 (by simp; rfl) ?_
      replace h0 := bnd h0; obtain ⟨y2, hy2, h0⟩ := h0
      refine kcall [20] [] (slices_ContainsFunc_int_at_runner_check_1_ok hy2) rfl rfl rfl Try.call104 (by simp) (by simp; rfl) ?_
      refine ko [18] 1 (by simp; rfl) ?_
      refine tops_nil ?_
      refine tr_cond (b := y2) (by simp) (fun c3 => ?_) (fun c3 => ?_)
      · rw [if_pos c3] at h0
        refine kr [8] (by simp; rfl) ?_
        cases h0
        exact tr_ret ⟨[], by simp, rfl, by simp⟩
      · rw [if_neg (by rw [c3]; decide)] at h0
        refine tr_skip ?_
        refine kr [8] (by simp; rfl) ?_
        cases h0
        exact tr_ret ⟨[], by simp, rfl, by simp⟩
set_option maxHeartbeats 1000000 in
theorem runner_there_ok {a0 : Int} {r : Bool} (h0 : runner_there a0 = some r) : FnOK Try.prog 92 [] [.d (.int .i64 a0)] (.d (.bool r)) [] := by
  unfold runner_there at h0
  refine fn_ok (nt := 9) (rs := [.tmp 2]) Try.func92 rfl Try.ntmps92 rfl (by simp) (by decide) rfl fun K => ?_
  refine kr [0] (by simp; rfl) ?_
  replace h0 := bnd h0; obtain ⟨v1, hvv1, h0⟩ := h0
  refine sjv (fun v1_ : Bool => ({ nt := 9, env := [(2, .d (.bool v1_))], box := [], vec := [] } : St)) (fun v1_ => v1 = v1_) (fun v1_ e => ?_) ?_
  · subst e
    cases h0
    exact tr_ret ⟨[], by simp, rfl, by simp⟩
  · refine kc1 ?_
    refine ko [0, 5] 3 (by simp; rfl) ?_
    refine tops_split 5 (a0 != 1) (by simp) (fun c3 => ?_) (fun c3 => ?_)
    · rw [c3] at hvv1
      refine ko [2] 4 (by simp; rfl) ?_
      refine tops_nil ?_
      cases hvv1
      exact ⟨_, rfl, wk (by simp [weak_iff])⟩
    · rw [c3] at hvv1
      refine ko [2] 4 (by simp; rfl) ?_
      refine tops_nil ?_
      cases hvv1
      exact ⟨_, rfl, wk (by simp [weak_iff])⟩
set_option maxHeartbeats 1000000 in
theorem runner_runner_look_o0_6_7_ok {a0 : runner_runner} {a1 : api_Rotation} {r : runner_runner} (h0 : runner_runner_look_o0_6_7 a0 a1 = some r) : FnOKv Try.prog 108 [[.d (.int .i64 a0.fleet.Slots), .d (.slice (rowsF api_Consumer_row a0.fleet.Consumers)), .d (.int .i64 a0.state.Known), .d (.int .i64 a0.state.Valid), .d (.slice (rowsF api_Unit_row a0.state.Units)), .d (.slice (rowsF (iRow .i64) a0.outcomes)), .vec (InV 0), .vec (InV 1)]] [⟨87, 4, rowsF api_Attempt_row a0.tried⟩, ⟨33, 3, rowsF api_Rotation_row a0.states⟩] [.ptr (InO 0) 0, .agg (api_Rotation_av a1)] (.tup []) [[.d (.int .i64 r.fleet.Slots), .d (.slice (rowsF api_Consumer_row r.fleet.Consumers)), .d (.int .i64 r.state.Known), .d (.int .i64 r.state.Valid), .d (.slice (rowsF api_Unit_row r.state.Units)), .d (.slice (rowsF (iRow .i64) r.outcomes)), .vec (InV 0), .vec (InV 1)]] [⟨87, 4, rowsF api_Attempt_row r.tried⟩, ⟨33, 3, rowsF api_Rotation_row r.states⟩] := by
  unfold runner_runner_look_o0_6_7 at h0
  refine fn_okv (nt := 15) (rs := []) Try.func108 rfl Try.ntmps108 rfl (by simp) (by decide) rfl fun K => ?_
  refine kr [0, 3] (by simp; rfl) ?_
  refine kd1 [[], [], [1], [2], [3], [], [5], [6], [4, 7], [0, 8], [8, 9], [4, 8, 10]] [8, 11] [(1000000, [8, 11])] (some (8, 2000001)) [8] 12 fol (by decide +kernel) (by simp) ?_
  refine dr_go 0 2 rfl (by simp (maxSteps := 1000000); rfl) ?_
  refine dr_go 2 2 rfl (by simp (maxSteps := 1000000); rfl) ?_
  refine dr_go 4 2 rfl (by simp (maxSteps := 1000000); rfl) ?_
  replace h0 := bnd h0; obtain ⟨y1, hy1, h0⟩ := h0
  refine dr_call 6 [] (fleet_Copy_ok hy1) rfl rfl rfl rfl rfl Try.call83 (by simp) ?_
  replace h0 := bnd h0; obtain ⟨_, p2, h0⟩ := h0
  replace p2 := ck_some p2
  have p2' := p2; try simp at p2'
  refine dr_go 7 2 rfl (by simp (maxSteps := 1000000) [p2, p2']; rfl) ?_
  refine dr_go 9 2 rfl (by simp (maxSteps := 1000000) [p2, p2']; rfl) ?_
  refine dr_go 11 1 rfl (by simp (maxSteps := 1000000) [p2, p2']; rfl) ?_
  refine dr_end rfl (tops_nil ?_)
  cases h0
  exact ⟨[], [2000000, 12], by simp, by simp, by simp, by simp, by simp⟩
set_option maxHeartbeats 1000000 in
theorem runner_runner_next_o0_6_7_ok {a0 : runner_runner} {r : Int × runner_runner} (h0 : runner_runner_next_o0_6_7 a0 = some r) : FnOKv Try.prog 126 [[.d (.int .i64 a0.fleet.Slots), .d (.slice (rowsF api_Consumer_row a0.fleet.Consumers)), .d (.int .i64 a0.state.Known), .d (.int .i64 a0.state.Valid), .d (.slice (rowsF api_Unit_row a0.state.Units)), .d (.slice (rowsF (iRow .i64) a0.outcomes)), .vec (InV 0), .vec (InV 1)]] [⟨87, 4, rowsF api_Attempt_row a0.tried⟩, ⟨33, 3, rowsF api_Rotation_row a0.states⟩] [.ptr (InO 0) 0] (.d (.int .i64 r.1)) [[.d (.int .i64 r.2.fleet.Slots), .d (.slice (rowsF api_Consumer_row r.2.fleet.Consumers)), .d (.int .i64 r.2.state.Known), .d (.int .i64 r.2.state.Valid), .d (.slice (rowsF api_Unit_row r.2.state.Units)), .d (.slice (rowsF (iRow .i64) r.2.outcomes)), .vec (InV 0), .vec (InV 1)]] [⟨87, 4, rowsF api_Attempt_row r.2.tried⟩, ⟨33, 3, rowsF api_Rotation_row r.2.states⟩] := by
  unfold runner_runner_next_o0_6_7 at h0
  refine fn_okv (nt := 23) (rs := [.tmp 2]) Try.func126 rfl Try.ntmps126 rfl (by simp) (by decide) rfl fun K => ?_
  refine kr [0] (by simp; rfl) ?_
  refine tr_seq ?_
  refine kr [0, 3] (by simp; rfl) ?_
  refine kr [0, 3, 15] (by simp; rfl) ?_
  refine tr_cond (b := (decide (((a0.tried).length : Int) < ((a0.outcomes).length : Int)))) (by simp) (fun c1 => ?_) (fun c1 => ?_)
  · rw [if_pos c1] at h0
    replace h0 := bnd h0; obtain ⟨x1, p1, h0⟩ := h0
    replace p1 := idx_some p1
    have p1' := p1; try simp at p1'
    refine kr [2] (by simp [p1, p1']; rfl) ?_
    cases h0
    exact tr_ret ⟨[], [2000000, 2000001], by simp, by simp, by simp, by simp, by simp⟩
  · rw [if_neg (by rw [c1]; decide)] at h0
    refine tr_skip ?_
    refine kr [2] (by simp; rfl) ?_
    cases h0
    exact tr_ret ⟨[], [2000000, 2000001], by simp, by simp, by simp, by simp, by simp⟩
set_option maxHeartbeats 1000000 in
theorem runner_runner_step_o0_6_7_ok {a0 : runner_runner} {a1 : api_Step} {r : Int × runner_runner} (h0 : runner_runner_step_o0_6_7 a0 a1 = some r) : FnOKv Try.prog 109 [[.d (.int .i64 a0.fleet.Slots), .d (.slice (rowsF api_Consumer_row a0.fleet.Consumers)), .d (.int .i64 a0.state.Known), .d (.int .i64 a0.state.Valid), .d (.slice (rowsF api_Unit_row a0.state.Units)), .d (.slice (rowsF (iRow .i64) a0.outcomes)), .vec (InV 0), .vec (InV 1)]] [⟨87, 4, rowsF api_Attempt_row a0.tried⟩, ⟨33, 3, rowsF api_Rotation_row a0.states⟩] [.ptr (InO 0) 0, .agg (api_Step_av a1)] (.d (.int .i64 r.1)) [[.d (.int .i64 r.2.fleet.Slots), .d (.slice (rowsF api_Consumer_row r.2.fleet.Consumers)), .d (.int .i64 r.2.state.Known), .d (.int .i64 r.2.state.Valid), .d (.slice (rowsF api_Unit_row r.2.state.Units)), .d (.slice (rowsF (iRow .i64) r.2.outcomes)), .vec (InV 0), .vec (InV 1)]] [⟨87, 4, rowsF api_Attempt_row r.2.tried⟩, ⟨33, 3, rowsF api_Rotation_row r.2.states⟩] := by
  unfold runner_runner_step_o0_6_7 at h0
  refine fn_okv (nt := 63) (rs := [.tmp 4]) Try.func109 rfl Try.ntmps109 rfl (by simp) (by decide) rfl fun K => ?_
  refine kr [0, 3] (by simp; rfl) ?_
  refine kd [[], [0], [1], [2], [], [4], [5], [6], [], [3, 7, 8], [9], [10], [10], [], [11, 13], [12, 13]] [13, 14] [(5, [13, 14])] none [] 16 fol (by decide +kernel) (by simp) ?_
  refine dr_go 0 2 rfl (by simp (maxSteps := 1000000); rfl) ?_
  refine dr_go 2 2 rfl (by simp (maxSteps := 1000000); rfl) ?_
  refine dr_go 4 2 rfl (by simp (maxSteps := 1000000); rfl) ?_
  refine dr_go 6 2 rfl (by simp (maxSteps := 1000000); rfl) ?_
  refine dr_go 8 1 rfl (by simp (maxSteps := 1000000); rfl) ?_
  replace h0 := bnd h0; obtain ⟨y1, hy1, h0⟩ := h0
  refine dr_call 9 [] (steps_Apply_ok hy1) rfl rfl rfl rfl rfl Try.call45 (by simp) ?_
  refine dr_go 10 2 rfl (by simp (maxSteps := 1000000); rfl) ?_
  refine dr_go 12 2 rfl (by simp (maxSteps := 1000000); rfl) ?_
  refine dr_go 14 2 rfl (by simp (maxSteps := 1000000); rfl) ?_
  refine dr_end rfl (tops_nil ?_)
  refine tr_seq ?_
  refine kr [0, 3, 5, 6, 22] (by simp; rfl) ?_
  refine tr_cond (b := (y1.2 != 0)) (by simp) (fun c1 => ?_) (fun c1 => ?_)
  · rw [if_pos c1] at h0
    refine kr [4] (by simp; rfl) ?_
    cases h0
    exact tr_ret ⟨[], [2000000, 2000001], by simp, by simp, by simp, by simp, by simp⟩
  · rw [if_neg (by rw [c1]; decide)] at h0
    refine tr_skip ?_
    refine tr_seq ?_
    refine kr [0, 3, 5, 24] (by simp; rfl) ?_
    replace h0 := bnd h0; obtain ⟨e1, hI1, h0⟩ := h0
    refine tjv (fun v2 : Int × (List api_Consumer) × Int × Int × (List api_Unit) × (List Int) × (List api_Attempt) × (List api_Rotation) => ({ nt := 63, env := [], box := [(1000000, [.d (.int .i64 v2.1), .d (.slice (rowsF api_Consumer_row v2.2.1)), .d (.int .i64 v2.2.2.1), .d (.int .i64 v2.2.2.2.1), .d (.slice (rowsF api_Unit_row v2.2.2.2.2.1)), .d (.slice (rowsF (iRow .i64) v2.2.2.2.2.2.1)), .vec 2000000, .vec 2000001])], vec := [(2000000, ⟨87, 4, rowsF api_Attempt_row v2.2.2.2.2.2.2.1⟩), (2000001, ⟨33, 3, rowsF api_Rotation_row v2.2.2.2.2.2.2.2⟩)] } : St)) (fun v2 => .inl v2 = e1) (fun v2 hI1e _ W1 => ?_) ?_
    · subst hI1e
      dsimp only at h0
      refine tr_wk W1 ?_
      refine kr [4] (by simp; rfl) ?_
      cases h0
      exact tr_ret ⟨[], [2000000, 2000001], by simp, by simp, by simp, by simp, by simp⟩
    · refine tr_block (tr_iter (fun s3 : Int × Int × (List api_Consumer) × Int × Int × (List api_Unit) × (List Int) × (List api_Attempt) × (List api_Rotation) => ({ nt := 63, env := [(0, .ptr 1000000 0), (3, .ptr 3 0), (5, .ptr 5 0), (24, .d (.int .i64 s3.1))], box := [(3, [.d (.int .i64 a1.Kind), .d (.int .i64 a1.Unit)]), (5, [.d (.int .i64 y1.1.Known), .d (.int .i64 y1.1.Valid), .d (.slice (rowsF api_Unit_row y1.1.Units))]), (1000000, [.d (.int .i64 s3.2.1), .d (.slice (rowsF api_Consumer_row s3.2.2.1)), .d (.int .i64 s3.2.2.2.1), .d (.int .i64 s3.2.2.2.2.1), .d (.slice (rowsF api_Unit_row s3.2.2.2.2.2.1)), .d (.slice (rowsF (iRow .i64) s3.2.2.2.2.2.2.1)), .vec 2000000, .vec 2000001])], vec := [(2000000, ⟨87, 4, rowsF api_Attempt_row s3.2.2.2.2.2.2.2.1⟩), (2000001, ⟨33, 3, rowsF api_Rotation_row s3.2.2.2.2.2.2.2.2⟩)] } : St)) hI1 (wk (by simp [weak_iff])) fun G1 s3 o1 h1 hg1 he1 => ?_)
      unfold runner_runner_step_o0_6_7_l0 at h1
      refine kr [0, 3, 5, 24, 25] (by simp; rfl) ?_
      refine tr_seq ?_
      refine tr_cond (b := (decide (s3.1 < 6))) (by simp) (fun c8 => ?_) (fun c8 => ?_)
      · rw [if_pos c8] at h1
        refine tr_skip ?_
        refine tr_seq ?_
        refine tr_block ?_
        refine kc ?_
        refine ko [0, 3, 5, 24, 26] 1 (by simp; rfl) ?_
        replace h1 := bnd h1; obtain ⟨y4, hy4, h1⟩ := h1
        refine kcallV [0, 3, 5, 24, 27] [1000000] [2000000, 2000001] [2000000, 2000001] (runner_runner_next_o0_6_7_ok hy4) rfl rfl rfl Try.call126 (by simp) (by simp; rfl) ?_
        refine ko [0, 3, 5, 7, 24] 1 (by simp; rfl) ?_
        refine tops_nil ?_
        refine kd [[], [], [1], [2], [3], [], [], [], [7], [5, 6, 8], [9], [4, 10], [0, 11], [11, 12], [4, 11, 13]] [11, 14] [(1000000, [11, 14])] (some (11, 2000000)) [32] 15 fol (by decide +kernel) (by simp) ?_
        refine dr_go 0 2 rfl (by simp (maxSteps := 1000000); rfl) ?_
        refine dr_go 2 2 rfl (by simp (maxSteps := 1000000); rfl) ?_
        refine dr_go 4 2 rfl (by simp (maxSteps := 1000000); rfl) ?_
        refine dr_go 6 2 rfl (by simp (maxSteps := 1000000); rfl) ?_
        replace h1 := bnd h1; obtain ⟨y5, hy5, h1⟩ := h1
        refine dr_call 8 [] (runner_there_ok hy5) rfl rfl rfl rfl rfl Try.call92 (by simp) ?_
        replace h1 := bnd h1; obtain ⟨_, p6, h1⟩ := h1
        replace p6 := ck_some p6
        have p6' := p6; try simp at p6'
        refine dr_go 9 2 rfl (by simp (maxSteps := 1000000) [p6, p6']; rfl) ?_
        refine dr_go 11 2 rfl (by simp (maxSteps := 1000000) [p6, p6']; rfl) ?_
        refine dr_go 13 2 rfl (by simp (maxSteps := 1000000) [p6, p6']; rfl) ?_
        refine dr_end rfl (tops_nil ?_)
        refine sjv (fun v6 : Int × (List api_Consumer) × Int × Int × (List api_Unit) × (List Int) × (List api_Rotation) × (List api_Attempt) => ({ nt := 63, env := [(0, .ptr 1000000 0), (3, .ptr 3 0), (5, .ptr 5 0), (7, .d (.int .i64 y4.1)), (24, .d (.int .i64 s3.1))], box := [(3, [.d (.int .i64 a1.Kind), .d (.int .i64 a1.Unit)]), (5, [.d (.int .i64 y1.1.Known), .d (.int .i64 y1.1.Valid), .d (.slice (rowsF api_Unit_row y1.1.Units))]), (1000000, [.d (.int .i64 v6.1), .d (.slice (rowsF api_Consumer_row v6.2.1)), .d (.int .i64 v6.2.2.1), .d (.int .i64 v6.2.2.2.1), .d (.slice (rowsF api_Unit_row v6.2.2.2.2.1)), .d (.slice (rowsF (iRow .i64) v6.2.2.2.2.2.1)), .vec 39, .vec 2000001])], vec := [(39, ⟨87, 4, rowsF api_Attempt_row v6.2.2.2.2.2.2.2⟩), (2000001, ⟨33, 3, rowsF api_Rotation_row v6.2.2.2.2.2.2.1⟩)] } : St)) (fun v6 => runner_runner_step_o0_6_7_j1 y4 y1 s3 v6 = some o1) (fun v6 h1 => ?_) ?_
        · unfold runner_runner_step_o0_6_7_j1 at h1
          refine tr_seq ?_
          refine kc ?_
          refine ko [0, 3, 5, 24, 47] 1 (by simp; rfl) ?_
          replace h1 := bnd h1; obtain ⟨y7, hy7, h1⟩ := h1
          refine kcall [0, 3, 5, 24, 48] [] (runner_there_ok hy7) rfl rfl rfl Try.call92 (by simp) (by simp; rfl) ?_
          refine tops_nil ?_
          refine tr_cond (b := y7) (by simp) (fun c10 => ?_) (fun c10 => ?_)
          · rw [if_pos c10] at h1
            refine kr [0, 5] (by simp; rfl) ?_
            refine kc ?_
            refine ko [53, 54] 2 (by simp; rfl) ?_
            replace h1 := bnd h1; obtain ⟨y8, hy8, h1⟩ := h1
            refine kcallV [] [1000000] [39, 2000001] [39, 2000001] (runner_runner_look_o0_6_7_ok hy8) rfl rfl rfl Try.call108 (by simp) (by simp; rfl) ?_
            refine tops_nil ?_
            refine kr [4] (by simp; rfl) ?_
            have k1 := he1 _ (Option.some.inj h1)
            subst k1
            dsimp only at h0
            cases h0
            exact tr_ret ⟨[], [39, 2000001], by simp, by simp, by simp, by simp, by simp⟩
          · rw [if_neg (by rw [c10]; decide)] at h1
            refine tr_skip ?_
            refine kc1 ?_
            refine ko [0, 3, 5, 24, 56, 60] 5 (by simp; rfl) ?_
            replace h1 := bnd h1; obtain ⟨y9, hy9, h1⟩ := h1
            refine kcallV [0, 3, 5, 24] [1000000] [39, 2000001] [39, 2000001] (runner_runner_look_o0_6_7_ok hy9) rfl rfl rfl Try.call108 (by simp) (by simp; rfl) ?_
            refine tops_nil ?_
            refine lr (by simp; rfl) ?_
            exact ⟨_, hg1 _ (Option.some.inj h1), (wk_ren 39 2000000).trans (wk (by simp [weak_iff]))⟩
        · refine kr [0, 3, 5, 7, 24, 43] (by simp; rfl) ?_
          refine tr_cond (b := (y4.1 == 4)) (by simp) (fun c11 => ?_) (fun c11 => ?_)
          · rw [if_pos c11] at h1
            refine kc1 ?_
            refine ko [0, 3, 5, 7, 24, 44, 45] 2 (by simp; rfl) ?_
            replace h1 := bnd h1; obtain ⟨y10, hy10, h1⟩ := h1
            refine kcallV [0, 3, 5, 7, 24] [1000000] [39, 2000001] [39, 2000001] (runner_runner_look_o0_6_7_ok hy10) rfl rfl rfl Try.call108 (by simp) (by simp; rfl) ?_
            refine tops_nil ?_
            exact ⟨_, h1, wk (by simp [weak_iff])⟩
          · rw [if_neg (by rw [c11]; decide)] at h1
            refine tr_skip ?_
            exact ⟨_, h1, wk (by simp [weak_iff])⟩
      · rw [if_neg (by rw [c8]; decide)] at h1
        refine tr_exit ?_
        exact ⟨_, he1 _ (Option.some.inj h1), wk (by simp [weak_iff])⟩
set_option maxHeartbeats 1000000 in
theorem runner_run_ok {a0 : api_Fleet} {a1 : api_Rotation} {a2 : List api_Step} {a3 : List Int} {r : (Option runner_runner) × Int} (h0 : runner_run a0 a1 a2 a3 = some r) : FnOK Try.prog 90 [] [.agg (api_Fleet_av a0), .agg (api_Rotation_av a1), .d (.slice (rowsF api_Step_row a2)), .d (.slice (rowsF (iRow .i64) a3))] (.tup [optP runner_runner_row r.1, .d (.int .i64 r.2)]) [] := by
  unfold runner_run at h0
  refine fn_okK (nt := 47) (rs := [.tmp 8, .tmp 9]) Try.func90 rfl Try.ntmps90 rfl (by simp) (by decide) rfl fun K hK => ?_
  refine kr [2, 3, 4, 5] (by simp; rfl) ?_
  refine tr_seq ?_
  refine kc ?_
  refine ko [2, 3, 4, 5, 15, 16, 17, 18] 4 (by simp; rfl) ?_
  replace h0 := bnd h0; obtain ⟨y1, hy1, h0⟩ := h0
  refine kcall [2, 3, 4, 5, 19] [] (runner_check_ok hy1) rfl rfl rfl Try.call107 (by simp) (by simp; rfl) ?_
  refine ko [2, 3, 4, 5, 10] 1 (by simp; rfl) ?_
  refine tops_nil ?_
  refine kr [2, 3, 4, 5, 10, 21] (by simp; rfl) ?_
  refine tr_cond (b := (y1 != 0)) (by simp) (fun c1 => ?_) (fun c1 => ?_)
  · rw [if_pos c1] at h0
    refine kr [8, 9] (by simp; rfl) ?_
    cases h0
    exact tr_ret ⟨[], by simp, rfl, by simp⟩
  · rw [if_neg (by rw [c1]; decide)] at h0
    refine tr_skip ?_
    refine kd [[], [], [1], [], [0, 2, 3], [4], [5]] [] [] none [] 7 fol (by decide +kernel) (by simp) ?_
    refine dr_go 0 2 rfl (by simp (maxSteps := 1000000); rfl) ?_
    replace h0 := bnd h0; obtain ⟨y2, hy2, h0⟩ := h0
    refine dr_call 2 [] (fleet_Copy_ok hy2) rfl rfl rfl rfl rfl Try.call83 (by simp) ?_
    refine dr_go 3 2 rfl (by simp (maxSteps := 1000000); rfl) ?_
    refine dr_go 5 2 rfl (by simp (maxSteps := 1000000); rfl) ?_
    refine dr_end rfl (tops_nil ?_)
    refine kc ?_
    refine ko [2, 11, 29, 30] 2 (by simp; rfl) ?_
    refine tops_wk (wk_ownbox 28 6 401126 87 4 (by simp; rfl) (by simp) (by simp)) ?_
    refine tops_wk (wk_ownbox 28 7 401127 33 3 (by simp; rfl) (by simp) (by simp)) ?_
    replace h0 := bnd h0; obtain ⟨y3, hy3, h0⟩ := h0
    refine kcallV [2, 11] [28] [401126, 401127] [401126, 401127] (runner_runner_look_o0_6_7_ok hy3) rfl rfl rfl Try.call108 (by simp) (by simp; rfl) ?_
    refine tops_nil ?_
    refine tr_seq ?_
    refine kr [11, 32, 33, 34] (by simp; rfl) ?_
    replace h0 := bnd h0; obtain ⟨e1, hI1, h0⟩ := h0
    refine tjv (fun v4 : Int × (List api_Consumer) × Int × Int × (List api_Unit) × (List Int) × (List api_Attempt) × (List api_Rotation) => ({ nt := 47, env := [(11, .ptr 28 0)], box := [(28, [.d (.int .i64 v4.1), .d (.slice (rowsF api_Consumer_row v4.2.1)), .d (.int .i64 v4.2.2.1), .d (.int .i64 v4.2.2.2.1), .d (.slice (rowsF api_Unit_row v4.2.2.2.2.1)), .d (.slice (rowsF (iRow .i64) v4.2.2.2.2.2.1)), .vec 401126, .vec 401127])], vec := [(401126, ⟨87, 4, rowsF api_Attempt_row v4.2.2.2.2.2.2.1⟩), (401127, ⟨33, 3, rowsF api_Rotation_row v4.2.2.2.2.2.2.2⟩)] } : St)) (fun v4 => .inl v4 = e1) (fun v4 hI1e _ W1 => ?_) ?_
    · subst hI1e
      dsimp only at h0
      refine tr_wk W1 ?_
      refine kr [8, 9] (by simp; rfl) ?_
      refine tr_wk (wk_frz 401126) ?_
      refine tr_wk (wk_frz 401127) ?_
      refine tr_frzB 28 [.d (.int .i64 v4.1), .d (.slice (rowsF api_Consumer_row v4.2.1)), .d (.int .i64 v4.2.2.1), .d (.int .i64 v4.2.2.2.1), .d (.slice (rowsF api_Unit_row v4.2.2.2.2.1)), .d (.slice (rowsF (iRow .i64) v4.2.2.2.2.2.1)), .d (.slice (rowsF api_Attempt_row v4.2.2.2.2.2.2.1)), .d (.slice (rowsF api_Rotation_row v4.2.2.2.2.2.2.2))] [.int .i64 v4.1, .slice (rowsF api_Consumer_row v4.2.1), .int .i64 v4.2.2.1, .int .i64 v4.2.2.2.1, .slice (rowsF api_Unit_row v4.2.2.2.2.1), .slice (rowsF (iRow .i64) v4.2.2.2.2.2.1), .slice (rowsF api_Attempt_row v4.2.2.2.2.2.2.1), .slice (rowsF api_Rotation_row v4.2.2.2.2.2.2.2)] (by simp) (by simp) hK (by decide) (fun i hi => absurd hi (Nat.not_lt_zero i)) ?_
      cases h0
      exact tr_ret ⟨[], by simp, rfl, by simp⟩
    · refine tr_block (tr_iter (fun s5 : Int × Int × (List api_Consumer) × Int × Int × (List api_Unit) × (List Int) × (List api_Attempt) × (List api_Rotation) => ({ nt := 47, env := [(11, .ptr 28 0), (32, .d (.slice (rowsF api_Step_row a2))), (33, .d (.int .i64 ((a2).length : Int))), (34, .d (.int .i64 s5.1))], box := [(28, [.d (.int .i64 s5.2.1), .d (.slice (rowsF api_Consumer_row s5.2.2.1)), .d (.int .i64 s5.2.2.2.1), .d (.int .i64 s5.2.2.2.2.1), .d (.slice (rowsF api_Unit_row s5.2.2.2.2.2.1)), .d (.slice (rowsF (iRow .i64) s5.2.2.2.2.2.2.1)), .vec 401126, .vec 401127])], vec := [(401126, ⟨87, 4, rowsF api_Attempt_row s5.2.2.2.2.2.2.2.1⟩), (401127, ⟨33, 3, rowsF api_Rotation_row s5.2.2.2.2.2.2.2.2⟩)] } : St)) hI1 (wk (by simp [weak_iff])) fun G1 s5 o1 h1 hg1 he1 => ?_)
      unfold runner_run_l0 at h1
      refine kr [11, 32, 33, 34, 35] (by simp; rfl) ?_
      refine tr_seq ?_
      refine tr_cond (b := (decide (s5.1 < ((a2).length : Int)))) (by simp) (fun c6 => ?_) (fun c6 => ?_)
      · rw [if_pos c6] at h1
        refine tr_skip ?_
        refine tr_seq ?_
        refine tr_block ?_
        replace h1 := bnd h1; obtain ⟨x6, p3, h1⟩ := h1
        replace p3 := idx_some p3
        have p3' := p3; try simp at p3'
        refine kr [11, 13, 32, 33, 34] (by simp [p3, p3']; rfl) ?_
        refine kc ?_
        refine ko [11, 32, 33, 34, 38, 39] 2 (by simp; rfl) ?_
        replace h1 := bnd h1; obtain ⟨y7, hy7, h1⟩ := h1
        refine kcallV [11, 32, 33, 34, 40] [28] [401126, 401127] [401126, 401127] (runner_runner_step_o0_6_7_ok hy7) rfl rfl rfl Try.call109 (by simp) (by simp; rfl) ?_
        refine ko [11, 14, 32, 33, 34] 1 (by simp; rfl) ?_
        refine tops_nil ?_
        refine kr [11, 14, 32, 33, 34, 42] (by simp; rfl) ?_
        refine tr_cond (b := (y7.1 != 0)) (by simp) (fun c7 => ?_) (fun c7 => ?_)
        · rw [if_pos c7] at h1
          refine kr [8, 9] (by simp; rfl) ?_
          refine tr_wk (wk_frz 401126) ?_
          refine tr_wk (wk_frz 401127) ?_
          refine tr_frzB 28 [.d (.int .i64 y7.2.fleet.Slots), .d (.slice (rowsF api_Consumer_row y7.2.fleet.Consumers)), .d (.int .i64 y7.2.state.Known), .d (.int .i64 y7.2.state.Valid), .d (.slice (rowsF api_Unit_row y7.2.state.Units)), .d (.slice (rowsF (iRow .i64) y7.2.outcomes)), .d (.slice (rowsF api_Attempt_row y7.2.tried)), .d (.slice (rowsF api_Rotation_row y7.2.states))] [.int .i64 y7.2.fleet.Slots, .slice (rowsF api_Consumer_row y7.2.fleet.Consumers), .int .i64 y7.2.state.Known, .int .i64 y7.2.state.Valid, .slice (rowsF api_Unit_row y7.2.state.Units), .slice (rowsF (iRow .i64) y7.2.outcomes), .slice (rowsF api_Attempt_row y7.2.tried), .slice (rowsF api_Rotation_row y7.2.states)] (by simp) (by simp) hK (by decide) (fun i hi => absurd hi (Nat.not_lt_zero i)) ?_
          have k1 := he1 _ (Option.some.inj h1)
          subst k1
          dsimp only at h0
          cases h0
          exact tr_ret ⟨[], by simp, rfl, by simp⟩
        · rw [if_neg (by rw [c7]; decide)] at h1
          refine tr_skip ?_
          refine lr (by simp; rfl) ?_
          exact ⟨_, hg1 _ (Option.some.inj h1), wk (by simp [weak_iff])⟩
      · rw [if_neg (by rw [c6]; decide)] at h1
        refine tr_exit ?_
        exact ⟨_, he1 _ (Option.some.inj h1), wk (by simp [weak_iff])⟩
set_option maxHeartbeats 1000000 in
theorem runner_Run_ok {a0 : api_Fleet} {a1 : api_Rotation} {a2 : List api_Step} {a3 : List Int} {r : api_Rotation × (List api_Attempt) × Int} (h0 : runner_Run a0 a1 a2 a3 = some r) : FnOK Try.prog 62 [] [.agg (api_Fleet_av a0), .agg (api_Rotation_av a1), .d (.slice (rowsF api_Step_row a2)), .d (.slice (rowsF (iRow .i64) a3))] (.tup [.agg (api_Rotation_av r.1), .d (.slice (rowsF api_Attempt_row r.2.1)), .d (.int .i64 r.2.2)]) [] := by
  unfold runner_Run at h0
  refine fn_ok (nt := 34) (rs := [.cell 8 33, .tmp 9, .tmp 10]) Try.func62 rfl Try.ntmps62 rfl (by simp) (by decide) rfl fun K => ?_
  refine kr [2, 3, 4, 5, 8] (by simp; rfl) ?_
  refine kc ?_
  refine ko [8, 14, 15, 16, 17] 4 (by simp; rfl) ?_
  replace h0 := bnd h0; obtain ⟨y1, hy1, h0⟩ := h0
  refine kcall [8, 18] [] (runner_run_ok hy1) rfl rfl rfl Try.call90 (by simp) (by simp; rfl) ?_
  rcases c1 : y1.1 with _ | x2
  · rw [c1] at h0; dsimp only at h0; try rw [c1]
    refine ko [8, 11, 12] 5 (by simp; rfl) ?_
    refine tops_nil ?_
    refine tr_seq ?_
    refine kr [8, 11, 12, 22] (by simp; rfl) ?_
    refine tr_cond (b := true) (by simp) (fun _ => ?_) (fun h => by cases h)
    refine kr [8, 9, 10] (by simp; rfl) ?_
    cases h0
    exact tr_ret ⟨[], by simp, rfl, by simp⟩
  · rw [c1] at h0; dsimp only at h0; try rw [c1]
    refine ko [8, 11, 12] 5 (by simp; rfl) ?_
    refine tops_nil ?_
    refine tr_seq ?_
    refine kr [8, 11, 12, 22] (by simp; rfl) ?_
    refine tr_cond (b := false) (by simp) (fun h => by cases h) (fun _ => ?_)
    refine tr_skip ?_
    refine kd [[], [0], [1], [2], [], [4], [5], [6], [], [3], [7], [8]] [9] [(8, [9])] none [] 12 fol (by decide +kernel) (by simp) ?_
    refine dr_go 0 2 rfl (by simp (maxSteps := 1000000); rfl) ?_
    refine dr_go 2 2 rfl (by simp (maxSteps := 1000000); rfl) ?_
    refine dr_go 4 2 rfl (by simp (maxSteps := 1000000); rfl) ?_
    refine dr_go 6 2 rfl (by simp (maxSteps := 1000000); rfl) ?_
    refine dr_go 8 2 rfl (by simp (maxSteps := 1000000); rfl) ?_
    refine dr_go 10 2 rfl (by simp (maxSteps := 1000000); rfl) ?_
    refine dr_end rfl (tops_nil ?_)
    cases h0
    exact tr_ret ⟨[], by simp, rfl, by simp⟩
set_option maxHeartbeats 1000000 in
theorem law37_awake_ok  {r : Bool} (h0 : law37_awake = some r) : FnOK Try.prog 61 [] [] (.d (.bool r)) [] := by
  unfold law37_awake at h0
  refine fn_ok (nt := 50) (rs := [.tmp 0]) Try.func61 rfl Try.ntmps61 rfl (by simp) (by decide) rfl fun K => ?_
  refine kr [] (by simp; rfl) ?_
  refine kr [1] (by simp; rfl) ?_
  refine kc ?_
  refine ko [1, 11] 1 (by simp; rfl) ?_
  refine tops_wk (wk_frz 8) ?_
  replace h0 := bnd h0; obtain ⟨y1, hy1, h0⟩ := h0
  refine kcall [1, 12] [] (ref32_Start_ok hy1) rfl rfl rfl Try.call27 (by simp) (by simp; rfl) ?_
  refine ko [1, 2] 6 (by simp; rfl) ?_
  refine tops_nil ?_
  refine kc ?_
  refine ko [16, 17, 19, 20] 5 (by simp; rfl) ?_
  refine tops_wk (wk_frz 19) ?_
  refine tops_wk (wk_frz 20) ?_
  replace h0 := bnd h0; obtain ⟨y2, hy2, h0⟩ := h0
  refine kcall [21] [] (runner_Run_ok hy2) rfl rfl rfl Try.call62 (by simp) (by simp; rfl) ?_
  refine ko [4, 5, 6] 8 (by simp; rfl) ?_
  refine tops_nil ?_
  replace h0 := bnd h0; obtain ⟨v3, hvv3, h0⟩ := h0
  refine sjv (fun v3_ : Bool => ({ nt := 50, env := [(0, .d (.bool v3_))], box := [], vec := [] } : St)) (fun v3_ => v3 = v3_) (fun v3_ e => ?_) ?_
  · subst e
    cases h0
    exact tr_ret ⟨[], by simp, rfl, by simp⟩
  · refine kc1 ?_
    refine ko [4, 5, 27] 3 (by simp; rfl) ?_
    refine tops_split 27 (y2.2.2 == 0) (by simp) (fun c9 => ?_) (fun c9 => ?_)
    · rw [if_pos c9] at hvv3
      refine ko [5, 32] 5 (by simp; rfl) ?_
      refine tops_split 32 (y2.1.Known == 3) (by simp) (fun c10 => ?_) (fun c10 => ?_)
      · rw [if_pos c10] at hvv3
        refine ko [5, 37] 5 (by simp; rfl) ?_
        refine tops_split 37 (((y2.2.1).length : Int) == 2) (by simp) (fun c11 => ?_) (fun c11 => ?_)
        · rw [if_pos c11] at hvv3
          replace hvv3 := bnd hvv3; obtain ⟨x4, p5, hvv3⟩ := hvv3
          replace p5 := idx_some p5
          have p5' := p5; try simp at p5'
          refine ko [5, 44] 7 (by simp [p5, p5']; rfl) ?_
          refine tops_split 44 (!x4.There) (by simp) (fun c12 => ?_) (fun c12 => ?_)
          · rw [if_pos c12] at hvv3
            replace hvv3 := bnd hvv3; obtain ⟨x5, p6, hvv3⟩ := hvv3
            replace p6 := idx_some p6
            have p6' := p6; try simp at p6'
            refine ko [0] 6 (by simp [p6, p6']; rfl) ?_
            refine tops_nil ?_
            cases hvv3
            exact ⟨_, rfl, wk (by simp [weak_iff])⟩
          · rw [if_neg (by rw [c12]; decide)] at hvv3
            refine kskip 4 [] (by kernel_rfl) ?_
            refine ko [0] 2 (by simp; rfl) ?_
            refine tops_nil ?_
            cases hvv3
            exact ⟨_, rfl, wk (by simp [weak_iff])⟩
        · rw [if_neg (by rw [c11]; decide)] at hvv3
          refine kskip 5 [] (by kernel_rfl) ?_
          refine ko [5, 44] 2 (by simp; rfl) ?_
          refine kskip 4 [] (by kernel_rfl) ?_
          refine ko [0] 2 (by simp; rfl) ?_
          refine tops_nil ?_
          cases hvv3
          exact ⟨_, rfl, wk (by simp [weak_iff])⟩
      · rw [if_neg (by rw [c10]; decide)] at hvv3
        refine kskip 3 [] (by kernel_rfl) ?_
        refine ko [5, 37] 2 (by simp; rfl) ?_
        refine kskip 5 [] (by kernel_rfl) ?_
        refine ko [5, 44] 2 (by simp; rfl) ?_
        refine kskip 4 [] (by kernel_rfl) ?_
        refine ko [0] 2 (by simp; rfl) ?_
        refine tops_nil ?_
        cases hvv3
        exact ⟨_, rfl, wk (by simp [weak_iff])⟩
    · rw [if_neg (by rw [c9]; decide)] at hvv3
      refine kskip 3 [] (by kernel_rfl) ?_
      refine ko [5, 32] 2 (by simp; rfl) ?_
      refine kskip 3 [] (by kernel_rfl) ?_
      refine ko [5, 37] 2 (by simp; rfl) ?_
      refine kskip 5 [] (by kernel_rfl) ?_
      refine ko [5, 44] 2 (by simp; rfl) ?_
      refine kskip 4 [] (by kernel_rfl) ?_
      refine ko [0] 2 (by simp; rfl) ?_
      refine tops_nil ?_
      cases hvv3
      exact ⟨_, rfl, wk (by simp [weak_iff])⟩
set_option maxHeartbeats 1000000 in
theorem make_Pick_ok {a0 : make_Tape} {a1 : List Int} {r : Int × make_Tape} (h0 : make_Pick a0 a1 = some r) : FnOK Try.prog 65 [make_Tape_av a0] [.ptr (InO 0) 0, .d (.slice (rowsF (iRow .i64) a1))] (.d (.int .i64 r.1)) [make_Tape_av r.2] := by
  unfold make_Pick at h0
  refine fn_ok (nt := 12) (rs := [.tmp 4]) Try.func65 rfl Try.ntmps65 rfl (by simp) (by decide) rfl fun K => ?_
  refine kr [0, 1] (by simp; rfl) ?_
  refine kc ?_
  refine ko [5, 6, 8] 4 (by simp; rfl) ?_
  replace h0 := bnd h0; obtain ⟨y1, hy1, h0⟩ := h0
  refine kcall [5, 9] [1000000] (make_Tape_Next_ok hy1) rfl rfl rfl Try.call38 (by simp) (by simp; rfl) ?_
  replace h0 := bnd h0; obtain ⟨x2, p1, h0⟩ := h0
  replace p1 := idx_some p1
  have p1' := p1; try simp at p1'
  refine ko [4] 3 (by simp [p1, p1']; rfl) ?_
  refine tops_nil ?_
  cases h0
  exact tr_ret ⟨[], by simp, rfl, by simp⟩
set_option maxHeartbeats 1000000 in
theorem ref32_All_ok {a0 : List api_Rotation} {a1 : List api_Rotation} {r : Bool} (h0 : ref32_All a0 a1 = some r) : FnOK Try.prog 51 [] [.d (.slice (rowsF api_Rotation_row a0)), .d (.slice (rowsF api_Rotation_row a1))] (.d (.bool r)) [] := by
  unfold ref32_All at h0
  refine fn_ok (nt := 27) (rs := [.tmp 4]) Try.func51 rfl Try.ntmps51 rfl (by simp) (by decide) rfl fun K => ?_
  refine kr [0, 1] (by simp; rfl) ?_
  refine tr_seq ?_
  refine kr [0, 1, 10] (by simp; rfl) ?_
  refine tr_cond (b := (((a0).length : Int) != ((a1).length : Int))) (by simp) (fun c1 => ?_) (fun c1 => ?_)
  · rw [if_pos c1] at h0
    refine kr [4] (by simp; rfl) ?_
    cases h0
    exact tr_ret ⟨[], by simp, rfl, by simp⟩
  · rw [if_neg (by rw [c1]; decide)] at h0
    refine tr_skip ?_
    refine tr_seq ?_
    refine kr [0, 1, 12, 13] (by simp; rfl) ?_
    replace h0 := bnd h0; obtain ⟨e1, hI1, h0⟩ := h0
    refine tjv (fun v1 : Unit => ({ nt := 27, env := [], box := [], vec := [] } : St)) (fun v1 => .inl v1 = e1) (fun v1 hI1e _ W1 => ?_) ?_
    · subst hI1e
      dsimp only at h0
      refine tr_wk W1 ?_
      refine kr [4] (by simp; rfl) ?_
      cases h0
      exact tr_ret ⟨[], by simp, rfl, by simp⟩
    · refine tr_block (tr_iter (fun s2 : Int => ({ nt := 27, env := [(0, .d (.slice (rowsF api_Rotation_row a0))), (1, .d (.slice (rowsF api_Rotation_row a1))), (12, .d (.int .i64 ((a0).length : Int))), (13, .d (.int .i64 s2))], box := [], vec := [] } : St)) hI1 (wk (by simp [weak_iff])) fun G1 s2 o1 h1 hg1 he1 => ?_)
      unfold ref32_All_l0 at h1
      refine kr [0, 1, 12, 13, 14] (by simp; rfl) ?_
      refine tr_seq ?_
      refine tr_cond (b := (decide (s2 < ((a0).length : Int)))) (by simp) (fun c6 => ?_) (fun c6 => ?_)
      · rw [if_pos c6] at h1
        refine tr_skip ?_
        refine tr_seq ?_
        refine tr_block ?_
        refine kr [0, 1, 5, 12, 13] (by simp; rfl) ?_
        refine kd [[], [], [0, 1], [2], [], [], [4, 5], [6], [3, 7], [8]] [] [] none [] 10 fol (by decide +kernel) (by simp) ?_
        replace h1 := bnd h1; obtain ⟨x3, p11, h1⟩ := h1
        replace p11 := idx_some p11
        have p11' := p11; try simp at p11'
        replace h1 := bnd h1; obtain ⟨x4, p12, h1⟩ := h1
        replace p12 := idx_some p12
        have p12' := p12; try simp at p12'
        refine dr_go 0 2 rfl (by simp (maxSteps := 1000000) [p11, p12, p11', p12']; rfl) ?_
        refine dr_go 2 2 rfl (by simp (maxSteps := 1000000) [p11, p12, p11', p12']; rfl) ?_
        refine dr_go 4 2 rfl (by simp (maxSteps := 1000000) [p11, p12, p11', p12']; rfl) ?_
        refine dr_go 6 2 rfl (by simp (maxSteps := 1000000) [p11, p12, p11', p12']; rfl) ?_
        replace h1 := bnd h1; obtain ⟨y5, hy5, h1⟩ := h1
        refine dr_call 8 [] (ref32_Same_ok hy5) rfl rfl rfl rfl rfl Try.call30 (by simp) ?_
        refine dr_go 9 1 rfl (by simp (maxSteps := 1000000); rfl) ?_
        refine dr_end rfl (tops_nil ?_)
        refine tr_cond (b := (!y5)) (by simp) (fun c7 => ?_) (fun c7 => ?_)
        · rw [if_pos c7] at h1
          refine kr [4] (by simp; rfl) ?_
          have k1 := he1 _ (Option.some.inj h1)
          subst k1
          dsimp only at h0
          cases h0
          exact tr_ret ⟨[], by simp, rfl, by simp⟩
        · rw [if_neg (by rw [c7]; decide)] at h1
          refine tr_skip ?_
          refine lr (by simp; rfl) ?_
          exact ⟨_, hg1 _ (Option.some.inj h1), wk (by simp [weak_iff])⟩
      · rw [if_neg (by rw [c6]; decide)] at h1
        refine tr_exit ?_
        exact ⟨_, he1 _ (Option.some.inj h1), wk (by simp [weak_iff])⟩
set_option maxHeartbeats 1000000 in
theorem ref33_Run_ok {a0 : api_Fleet} {a1 : api_Rotation} {a2 : List api_Step} {r : (List api_Rotation) × Int} (h0 : ref33_Run a0 a1 a2 = some r) : FnOK Try.prog 59 [] [.agg (api_Fleet_av a0), .agg (api_Rotation_av a1), .d (.slice (rowsF api_Step_row a2))] (.tup [.d (.slice (rowsF api_Rotation_row r.1)), .d (.int .i64 r.2)]) [] := by
  unfold ref33_Run at h0
  refine fn_ok (nt := 43) (rs := [.tmp 6, .tmp 7]) Try.func59 rfl Try.ntmps59 rfl (by simp) (by decide) rfl fun K => ?_
  refine kr [2, 3, 4] (by simp; rfl) ?_
  refine tr_seq ?_
  refine kc ?_
  refine ko [2, 3, 4, 13, 14] 2 (by simp; rfl) ?_
  replace h0 := bnd h0; obtain ⟨y1, hy1, h0⟩ := h0
  refine kcall [2, 3, 4, 15] [] (ref32_Right_ok hy1) rfl rfl rfl Try.call22 (by simp) (by simp; rfl) ?_
  refine ko [2, 3, 4, 16] 1 (by simp; rfl) ?_
  refine tops_nil ?_
  refine tr_cond (b := (!y1)) (by simp) (fun c1 => ?_) (fun c1 => ?_)
  · rw [if_pos c1] at h0
    refine kr [6, 7] (by simp; rfl) ?_
    cases h0
    exact tr_ret ⟨[], by simp, rfl, by simp⟩
  · rw [if_neg (by rw [c1]; decide)] at h0
    refine tr_skip ?_
    refine tr_seq ?_
    refine kr [2, 3, 4, 19] (by simp; rfl) ?_
    refine tr_cond (b := (decide (120 < ((a2).length : Int)))) (by simp) (fun c2 => ?_) (fun c2 => ?_)
    · rw [if_pos c2] at h0
      refine kr [6, 7] (by simp; rfl) ?_
      cases h0
      exact tr_ret ⟨[], by simp, rfl, by simp⟩
    · rw [if_neg (by rw [c2]; decide)] at h0
      refine tr_skip ?_
      refine kr [2, 3, 4, 8] (by simp; rfl) ?_
      refine tr_seq ?_
      refine kr [3, 4, 8, 20, 21, 22] (by simp; rfl) ?_
      refine tr_wk (wk_own 8 39 33 3 (by simp) (by simp)) ?_
      replace h0 := bnd h0; obtain ⟨e1, hI1, h0⟩ := h0
      refine tjv (fun v2 : (List api_Rotation) => ({ nt := 43, env := [(8, .vec 39)], box := [], vec := [(39, ⟨33, 3, rowsF api_Rotation_row v2⟩)] } : St)) (fun v2 => .inl v2 = e1) (fun v2 hI1e _ W1 => ?_) ?_
      · subst hI1e
        dsimp only at h0
        refine tr_wk W1 ?_
        refine kr [6, 7] (by simp; rfl) ?_
        cases h0
        exact tr_ret ⟨[39], by simp, rfl, by simp⟩
      · refine tr_block (tr_iter (fun s3 : Int × Int × Int × (List api_Unit) × (List api_Rotation) => ({ nt := 43, env := [(3, .ptr 3 0), (4, .ptr 4 0), (8, .vec 39), (20, .d (.slice (rowsF api_Step_row a2))), (21, .d (.int .i64 ((a2).length : Int))), (22, .d (.int .i64 s3.1))], box := [(3, [.d (.int .i64 a0.Slots), .d (.slice (rowsF api_Consumer_row a0.Consumers))]), (4, [.d (.int .i64 s3.2.1), .d (.int .i64 s3.2.2.1), .d (.slice (rowsF api_Unit_row s3.2.2.2.1))])], vec := [(39, ⟨33, 3, rowsF api_Rotation_row s3.2.2.2.2⟩)] } : St)) hI1 (wk (by simp [weak_iff])) fun G1 s3 o1 h1 hg1 he1 => ?_)
        unfold ref33_Run_l0 at h1
        refine kr [3, 4, 8, 20, 21, 22, 23] (by simp; rfl) ?_
        refine tr_seq ?_
        refine tr_cond (b := (decide (s3.1 < ((a2).length : Int)))) (by simp) (fun c9 => ?_) (fun c9 => ?_)
        · rw [if_pos c9] at h1
          refine tr_skip ?_
          refine tr_seq ?_
          refine tr_block ?_
          replace h1 := bnd h1; obtain ⟨x4, p10, h1⟩ := h1
          replace p10 := idx_some p10
          have p10' := p10; try simp at p10'
          refine kr [3, 4, 8, 10, 20, 21, 22] (by simp [p10, p10']; rfl) ?_
          refine kc ?_
          refine ko [3, 4, 8, 20, 21, 22, 27, 28, 29] 3 (by simp; rfl) ?_
          replace h1 := bnd h1; obtain ⟨y5, hy5, h1⟩ := h1
          refine kcall [3, 4, 8, 20, 21, 22, 30] [] (ref33_Apply_ok hy5) rfl rfl rfl Try.call54 (by simp) (by simp; rfl) ?_
          refine ko [3, 4, 8, 11, 12, 20, 21, 22] 6 (by simp; rfl) ?_
          refine tops_nil ?_
          refine tr_seq ?_
          refine kr [3, 4, 8, 11, 12, 20, 21, 22, 34] (by simp; rfl) ?_
          refine tr_cond (b := (y5.2 != 0)) (by simp) (fun c10 => ?_) (fun c10 => ?_)
          · rw [if_pos c10] at h1
            refine kr [6, 7] (by simp; rfl) ?_
            have k1 := he1 _ (Option.some.inj h1)
            subst k1
            dsimp only at h0
            cases h0
            exact tr_ret ⟨[], by simp, rfl, by simp⟩
          · rw [if_neg (by rw [c10]; decide)] at h1
            refine tr_skip ?_
            refine tr_wk (wk_ren 39 700039) ?_
            refine kd1 [[], [], [1], [0, 2], [], [0, 3], [3, 4]] [3, 6] [(4, [3, 6])] (some (3, 700039)) [8, 36] 7 fol (by decide +kernel) (by simp) ?_
            replace h1 := bnd h1; obtain ⟨_, p13, h1⟩ := h1
            replace p13 := ck_some p13
            have p13' := p13; try simp at p13'
            refine dr_go 0 2 rfl (by simp (maxSteps := 1000000) [p13, p13']; rfl) ?_
            refine dr_go 2 2 rfl (by simp (maxSteps := 1000000) [p13, p13']; rfl) ?_
            refine dr_go 4 2 rfl (by simp (maxSteps := 1000000) [p13, p13']; rfl) ?_
            refine dr_go 6 1 rfl (by simp (maxSteps := 1000000) [p13, p13']; rfl) ?_
            refine dr_end rfl (tops_nil ?_)
            refine lr (by simp; rfl) ?_
            exact ⟨_, hg1 _ (Option.some.inj h1), wk (by simp [weak_iff])⟩
        · rw [if_neg (by rw [c9]; decide)] at h1
          refine tr_exit ?_
          exact ⟨_, he1 _ (Option.some.inj h1), wk (by simp [weak_iff])⟩
set_option maxHeartbeats 1000000 in
theorem make_Steps_ok {a0 : make_Tape} {a1 : api_Fleet} {a2 : api_Rotation} {a3 : Int} {r : (List api_Step) × make_Tape} (h0 : make_Steps a0 a1 a2 a3 = some r) : FnOK Try.prog 49 [make_Tape_av a0] [.ptr (InO 0) 0, .agg (api_Fleet_av a1), .agg (api_Rotation_av a2), .d (.int .i64 a3)] (.d (.slice (rowsF api_Step_row r.1))) [make_Tape_av r.2] := by
  unfold make_Steps at h0
  refine fn_ok (nt := 44) (rs := [.tmp 8]) Try.func49 rfl Try.ntmps49 rfl (by simp) (by decide) rfl fun K => ?_
  refine kr [0, 3, 5, 6] (by simp; rfl) ?_
  refine kr [0, 3, 5, 6, 9] (by simp; rfl) ?_
  refine tr_seq ?_
  refine kr [0, 3, 5, 6, 9, 10] (by simp; rfl) ?_
  refine tr_wk (wk_own 9 39 63 2 (by simp) (by simp)) ?_
  replace h0 := bnd h0; obtain ⟨e1, hI1, h0⟩ := h0
  refine tjv (fun v1 : (List Int) × Int × (List api_Step) => ({ nt := 44, env := [(9, .vec 39)], box := [(1000000, [.d (.slice (rowsF (iRow .i64) v1.1)), .d (.int .i64 v1.2.1)])], vec := [(39, ⟨63, 2, rowsF api_Step_row v1.2.2⟩)] } : St)) (fun v1 => v1 = e1) (fun v1 hI1e _ W1 => ?_) ?_
  · subst hI1e
    refine tr_wk W1 ?_
    refine kr [8] (by simp; rfl) ?_
    cases h0
    exact tr_ret ⟨[39], by simp, rfl, by simp⟩
  · refine tr_block (tr_iter (fun s2 : Int × (List Int) × Int × Int × Int × (List api_Unit) × (List api_Step) => ({ nt := 44, env := [(0, .ptr 1000000 0), (3, .d (.int .i64 a3)), (5, .ptr 5 0), (6, .ptr 6 0), (9, .vec 39), (10, .d (.int .i64 s2.1))], box := [(5, [.d (.int .i64 a1.Slots), .d (.slice (rowsF api_Consumer_row a1.Consumers))]), (6, [.d (.int .i64 s2.2.2.2.1), .d (.int .i64 s2.2.2.2.2.1), .d (.slice (rowsF api_Unit_row s2.2.2.2.2.2.1))]), (1000000, [.d (.slice (rowsF (iRow .i64) s2.2.1)), .d (.int .i64 s2.2.2.1)])], vec := [(39, ⟨63, 2, rowsF api_Step_row s2.2.2.2.2.2.2⟩)] } : St)) hI1 (wk (by simp [weak_iff])) fun G1 s2 o1 h1 hg1 he1 => ?_)
    unfold make_Steps_l0 at h1
    refine tr_seq ?_
    refine kr [0, 3, 5, 6, 9, 10, 16] (by simp; rfl) ?_
    refine tr_cond (b := (decide (s2.1 < a3))) (by simp) (fun c13 => ?_) (fun c13 => ?_)
    · rw [if_pos c13] at h1
      refine tr_skip ?_
      refine tr_seq ?_
      refine tr_block ?_
      refine kc ?_
      refine ko [0, 3, 5, 6, 9, 10, 19, 20] 2 (by simp; rfl) ?_
      replace h1 := bnd h1; obtain ⟨y3, hy3, h1⟩ := h1
      refine kcall [0, 3, 5, 6, 9, 10, 21] [1000000] (make_Step_ok hy3) rfl rfl rfl Try.call44 (by simp) (by simp; rfl) ?_
      refine ko [0, 3, 5, 6, 9, 10, 11] 2 (by simp; rfl) ?_
      refine tops_nil ?_
      refine kc ?_
      refine ko [0, 3, 5, 6, 9, 10, 11, 23, 24, 25] 3 (by simp; rfl) ?_
      replace h1 := bnd h1; obtain ⟨y4, hy4, h1⟩ := h1
      refine kcall [0, 3, 5, 6, 9, 10, 11, 26] [] (ref33_Apply_ok hy4) rfl rfl rfl Try.call54 (by simp) (by simp; rfl) ?_
      refine ko [0, 3, 5, 6, 9, 10, 11, 12, 13] 6 (by simp; rfl) ?_
      refine tops_nil ?_
      refine tr_seq ?_
      replace h1 := bnd h1; obtain ⟨v5, hvv5, h1⟩ := h1
      refine sjv (fun v5_ : Bool × (List Int) × Int => ({ nt := 44, env := [(0, .ptr 1000000 0), (3, .d (.int .i64 a3)), (5, .ptr 5 0), (6, .ptr 6 0), (9, .vec 39), (10, .d (.int .i64 s2.1)), (11, .ptr 11 0), (12, .ptr 12 0), (13, .d (.int .i64 y4.2)), (35, .d (.bool v5_.1))], box := [(5, [.d (.int .i64 a1.Slots), .d (.slice (rowsF api_Consumer_row a1.Consumers))]), (6, [.d (.int .i64 s2.2.2.2.1), .d (.int .i64 s2.2.2.2.2.1), .d (.slice (rowsF api_Unit_row s2.2.2.2.2.2.1))]), (11, [.d (.int .i64 y3.1.Kind), .d (.int .i64 y3.1.Unit)]), (12, [.d (.int .i64 y4.1.Known), .d (.int .i64 y4.1.Valid), .d (.slice (rowsF api_Unit_row y4.1.Units))]), (1000000, [.d (.slice (rowsF (iRow .i64) v5_.2.1)), .d (.int .i64 v5_.2.2)])], vec := [(39, ⟨63, 2, rowsF api_Step_row s2.2.2.2.2.2.2⟩)] } : St)) (fun v5_ => v5 = v5_) (fun v5_ e => ?_) ?_
      · subst e
        refine tr_cond (b := v5.1) (by simp) (fun c16 => ?_) (fun c16 => ?_)
        · rw [if_pos c16] at h1
          refine tr_exit ?_
          refine lr (by simp; rfl) ?_
          exact ⟨_, hg1 _ (Option.some.inj h1), wk (by simp [weak_iff])⟩
        · rw [if_neg (by rw [c16]; decide)] at h1
          refine tr_skip ?_
          replace h1 := bnd h1; obtain ⟨_, p3, h1⟩ := h1
          replace p3 := ck_some p3
          have p3' := p3; try simp at p3'
          refine kr [0, 3, 5, 6, 9, 10, 12, 13] (by simp [p3, p3']; rfl) ?_
          refine kr [0, 3, 5, 6, 9, 10, 12, 41] (by simp; rfl) ?_
          refine tr_cond (b := (y4.2 == 0)) (by simp) (fun c17 => ?_) (fun c17 => ?_)
          · rw [if_pos c17] at h1
            refine lr (by simp; rfl) ?_
            refine lr (by simp; rfl) ?_
            exact ⟨_, hg1 _ (Option.some.inj h1), wk (by simp [weak_iff])⟩
          · rw [if_neg (by rw [c17]; decide)] at h1
            refine tr_skip ?_
            refine lr (by simp; rfl) ?_
            exact ⟨_, hg1 _ (Option.some.inj h1), wk (by simp [weak_iff])⟩
      · refine kc1 ?_
        refine ko [0, 3, 5, 6, 9, 10, 11, 12, 13, 31] 3 (by simp; rfl) ?_
        refine tops_split 31 (y4.2 != 0) (by simp) (fun c18 => ?_) (fun c18 => ?_)
        · rw [if_pos c18] at hvv5
          refine ko [0, 3, 5, 6, 9, 10, 11, 12, 13, 31, 32] 1 (by simp; rfl) ?_
          replace hvv5 := bnd hvv5; obtain ⟨y6, hy6, hvv5⟩ := hvv5
          refine kcall [0, 3, 5, 6, 9, 10, 11, 12, 13, 31, 32, 33] [1000000] (make_Tape_Next_ok hy6) rfl rfl rfl Try.call38 (by simp) (by simp; rfl) ?_
          refine ko [0, 3, 5, 6, 9, 10, 11, 12, 13, 32, 33, 34, 35] 2 (by simp; rfl) ?_
          refine tops_nil ?_
          cases hvv5
          exact ⟨_, rfl, wk (by simp [weak_iff])⟩
        · rw [if_neg (by rw [c18]; decide)] at hvv5
          refine kskip 3 [] (by kernel_rfl) ?_
          refine ko [0, 3, 5, 6, 9, 10, 11, 12, 13, 35] 1 (by simp; rfl) ?_
          refine tops_nil ?_
          cases hvv5
          exact ⟨_, rfl, wk (by simp [weak_iff])⟩
    · rw [if_neg (by rw [c13]; decide)] at h1
      refine tr_exit ?_
      exact ⟨_, he1 _ (Option.some.inj h1), wk (by simp [weak_iff])⟩
set_option maxHeartbeats 1000000 in
theorem steps_check_ok {a0 : api_Fleet} {a1 : api_Rotation} {a2 : List api_Step} {r : Int} (h0 : steps_check a0 a1 a2 = some r) : FnOK Try.prog 86 [] [.agg (api_Fleet_av a0), .agg (api_Rotation_av a1), .d (.slice (rowsF api_Step_row a2))] (.d (.int .i64 r)) [] := by
  unfold steps_check at h0
  refine fn_ok (nt := 16) (rs := [.tmp 6]) Try.func86 rfl Try.ntmps86 rfl (by simp) (by decide) rfl fun K => ?_
  refine kr [2, 3, 4] (by simp; rfl) ?_
  refine tr_seq ?_
  refine tr_block ?_
  refine kc ?_
  refine ko [2, 8, 9] 2 (by simp; rfl) ?_
  replace h0 := bnd h0; obtain ⟨y1, hy1, h0⟩ := h0
  refine kcall [2, 10] [] (fleet_Right_ok hy1) rfl rfl rfl Try.call21 (by simp) (by simp; rfl) ?_
  refine ko [2, 7] 2 (by simp; rfl) ?_
  refine tops_nil ?_
  refine tr_cond (b := (!y1)) (by simp) (fun c1 => ?_) (fun c1 => ?_)
  · rw [if_pos c1] at h0
    refine kr [6] (by simp; rfl) ?_
    cases h0
    exact tr_ret ⟨[], by simp, rfl, by simp⟩
  · rw [if_neg (by rw [c1]; decide)] at h0
    refine kr [12] (by simp; rfl) ?_
    refine tr_cond (b := (decide (120 < ((a2).length : Int)))) (by simp) (fun c2 => ?_) (fun c2 => ?_)
    · rw [if_pos c2] at h0
      refine kr [6] (by simp; rfl) ?_
      cases h0
      exact tr_ret ⟨[], by simp, rfl, by simp⟩
    · rw [if_neg (by rw [c2]; decide)] at h0
      refine tr_skip ?_
      refine kr [6] (by simp; rfl) ?_
      cases h0
      exact tr_ret ⟨[], by simp, rfl, by simp⟩
set_option maxHeartbeats 1000000 in
theorem steps_Run_ok {a0 : api_Fleet} {a1 : api_Rotation} {a2 : List api_Step} {r : (List api_Rotation) × Int} (h0 : steps_Run a0 a1 a2 = some r) : FnOK Try.prog 50 [] [.agg (api_Fleet_av a0), .agg (api_Rotation_av a1), .d (.slice (rowsF api_Step_row a2))] (.tup [.d (.slice (rowsF api_Rotation_row r.1)), .d (.int .i64 r.2)]) [] := by
  unfold steps_Run at h0
  refine fn_ok (nt := 44) (rs := [.tmp 6, .tmp 7]) Try.func50 rfl Try.ntmps50 rfl (by simp) (by decide) rfl fun K => ?_
  refine kr [2, 3, 4] (by simp; rfl) ?_
  refine tr_seq ?_
  refine kc ?_
  refine ko [2, 3, 4, 14, 15, 16] 3 (by simp; rfl) ?_
  replace h0 := bnd h0; obtain ⟨y1, hy1, h0⟩ := h0
  refine kcall [2, 3, 4, 17] [] (steps_check_ok hy1) rfl rfl rfl Try.call86 (by simp) (by simp; rfl) ?_
  refine ko [2, 3, 4, 8] 1 (by simp; rfl) ?_
  refine tops_nil ?_
  refine kr [2, 3, 4, 8, 19] (by simp; rfl) ?_
  refine tr_cond (b := (y1 != 0)) (by simp) (fun c1 => ?_) (fun c1 => ?_)
  · rw [if_pos c1] at h0
    refine kr [6, 7] (by simp; rfl) ?_
    cases h0
    exact tr_ret ⟨[], by simp, rfl, by simp⟩
  · rw [if_neg (by rw [c1]; decide)] at h0
    refine tr_skip ?_
    refine kr [2, 3, 4, 9] (by simp; rfl) ?_
    refine tr_seq ?_
    refine kr [3, 4, 9, 21, 22, 23] (by simp; rfl) ?_
    refine tr_wk (wk_own 9 40 33 3 (by simp) (by simp)) ?_
    replace h0 := bnd h0; obtain ⟨e1, hI1, h0⟩ := h0
    refine tjv (fun v2 : (List api_Rotation) => ({ nt := 44, env := [(9, .vec 40)], box := [], vec := [(40, ⟨33, 3, rowsF api_Rotation_row v2⟩)] } : St)) (fun v2 => .inl v2 = e1) (fun v2 hI1e _ W1 => ?_) ?_
    · subst hI1e
      dsimp only at h0
      refine tr_wk W1 ?_
      refine kr [6, 7] (by simp; rfl) ?_
      cases h0
      exact tr_ret ⟨[40], by simp, rfl, by simp⟩
    · refine tr_block (tr_iter (fun s3 : Int × Int × Int × (List api_Unit) × (List api_Rotation) => ({ nt := 44, env := [(3, .ptr 3 0), (4, .ptr 4 0), (9, .vec 40), (21, .d (.slice (rowsF api_Step_row a2))), (22, .d (.int .i64 ((a2).length : Int))), (23, .d (.int .i64 s3.1))], box := [(3, [.d (.int .i64 a0.Slots), .d (.slice (rowsF api_Consumer_row a0.Consumers))]), (4, [.d (.int .i64 s3.2.1), .d (.int .i64 s3.2.2.1), .d (.slice (rowsF api_Unit_row s3.2.2.2.1))])], vec := [(40, ⟨33, 3, rowsF api_Rotation_row s3.2.2.2.2⟩)] } : St)) hI1 (wk (by simp [weak_iff])) fun G1 s3 o1 h1 hg1 he1 => ?_)
      unfold steps_Run_l0 at h1
      refine kr [3, 4, 9, 21, 22, 23, 24] (by simp; rfl) ?_
      refine tr_seq ?_
      refine tr_cond (b := (decide (s3.1 < ((a2).length : Int)))) (by simp) (fun c8 => ?_) (fun c8 => ?_)
      · rw [if_pos c8] at h1
        refine tr_skip ?_
        refine tr_seq ?_
        refine tr_block ?_
        replace h1 := bnd h1; obtain ⟨x4, p10, h1⟩ := h1
        replace p10 := idx_some p10
        have p10' := p10; try simp at p10'
        refine kr [3, 4, 9, 11, 21, 22, 23] (by simp [p10, p10']; rfl) ?_
        refine kc ?_
        refine ko [3, 4, 9, 21, 22, 23, 28, 29, 30] 3 (by simp; rfl) ?_
        replace h1 := bnd h1; obtain ⟨y5, hy5, h1⟩ := h1
        refine kcall [3, 4, 9, 21, 22, 23, 31] [] (steps_Apply_ok hy5) rfl rfl rfl Try.call45 (by simp) (by simp; rfl) ?_
        refine ko [3, 4, 9, 12, 13, 21, 22, 23] 6 (by simp; rfl) ?_
        refine tops_nil ?_
        refine tr_seq ?_
        refine kr [3, 4, 9, 12, 13, 21, 22, 23, 35] (by simp; rfl) ?_
        refine tr_cond (b := (y5.2 != 0)) (by simp) (fun c9 => ?_) (fun c9 => ?_)
        · rw [if_pos c9] at h1
          refine kr [6, 7] (by simp; rfl) ?_
          have k1 := he1 _ (Option.some.inj h1)
          subst k1
          dsimp only at h0
          cases h0
          exact tr_ret ⟨[], by simp, rfl, by simp⟩
        · rw [if_neg (by rw [c9]; decide)] at h1
          refine tr_skip ?_
          refine tr_wk (wk_ren 40 700040) ?_
          refine kd1 [[], [], [1], [0, 2], [], [0, 3], [3, 4]] [3, 6] [(4, [3, 6])] (some (3, 700040)) [9, 37] 7 fol (by decide +kernel) (by simp) ?_
          replace h1 := bnd h1; obtain ⟨_, p13, h1⟩ := h1
          replace p13 := ck_some p13
          have p13' := p13; try simp at p13'
          refine dr_go 0 2 rfl (by simp (maxSteps := 1000000) [p13, p13']; rfl) ?_
          refine dr_go 2 2 rfl (by simp (maxSteps := 1000000) [p13, p13']; rfl) ?_
          refine dr_go 4 2 rfl (by simp (maxSteps := 1000000) [p13, p13']; rfl) ?_
          refine dr_go 6 1 rfl (by simp (maxSteps := 1000000) [p13, p13']; rfl) ?_
          refine dr_end rfl (tops_nil ?_)
          refine lr (by simp; rfl) ?_
          exact ⟨_, hg1 _ (Option.some.inj h1), wk (by simp [weak_iff])⟩
      · rw [if_neg (by rw [c8]; decide)] at h1
        refine tr_exit ?_
        exact ⟨_, he1 _ (Option.some.inj h1), wk (by simp [weak_iff])⟩
set_option maxHeartbeats 1000000 in
theorem make_Outcomes_ok {a0 : make_Tape} {a1 : Int} {r : (List Int) × make_Tape} (h0 : make_Outcomes a0 a1 = some r) : FnOK Try.prog 63 [make_Tape_av a0] [.ptr (InO 0) 0, .d (.int .i64 a1)] (.d (.slice (rowsF (iRow .i64) r.1))) [make_Tape_av r.2] := by
  unfold make_Outcomes at h0
  refine fn_ok (nt := 22) (rs := [.tmp 4]) Try.func63 rfl Try.ntmps63 rfl (by simp) (by decide) rfl fun K => ?_
  refine kr [0, 1] (by simp; rfl) ?_
  refine kr [0, 1, 5] (by simp; rfl) ?_
  refine tr_seq ?_
  refine kc ?_
  refine ko [0, 5, 7, 9] 3 (by simp; rfl) ?_
  replace h0 := bnd h0; obtain ⟨y1, hy1, h0⟩ := h0
  refine kcall [0, 5, 10] [1000000] (make_Tape_Next_ok hy1) rfl rfl rfl Try.call38 (by simp) (by simp; rfl) ?_
  refine ko [0, 5, 6] 1 (by simp; rfl) ?_
  refine tops_nil ?_
  refine tr_wk (wk_own 5 20 3 1 (by simp) (by simp)) ?_
  replace h0 := bnd h0; obtain ⟨e1, hI1, h0⟩ := h0
  refine tjv (fun v2 : (List Int) × Int × (List Int) => ({ nt := 22, env := [(5, .vec 20)], box := [(1000000, [.d (.slice (rowsF (iRow .i64) v2.1)), .d (.int .i64 v2.2.1)])], vec := [(20, ⟨3, 1, rowsF (iRow .i64) v2.2.2⟩)] } : St)) (fun v2 => v2 = e1) (fun v2 hI1e _ W1 => ?_) ?_
  · subst hI1e
    refine tr_wk W1 ?_
    refine kr [4] (by simp; rfl) ?_
    cases h0
    exact tr_ret ⟨[20], by simp, rfl, by simp⟩
  · refine tr_block (tr_iter (fun s3 : Int × (List Int) × Int × (List Int) => ({ nt := 22, env := [(0, .ptr 1000000 0), (5, .vec 20), (6, .d (.int .i64 s3.1))], box := [(1000000, [.d (.slice (rowsF (iRow .i64) s3.2.1)), .d (.int .i64 s3.2.2.1)])], vec := [(20, ⟨3, 1, rowsF (iRow .i64) s3.2.2.2⟩)] } : St)) hI1 (wk (by simp [weak_iff])) fun G1 s3 o1 h1 hg1 he1 => ?_)
    unfold make_Outcomes_l0 at h1
    refine tr_seq ?_
    refine kr [0, 5, 6, 12] (by simp; rfl) ?_
    refine tr_cond (b := (decide (0 < s3.1))) (by simp) (fun c4 => ?_) (fun c4 => ?_)
    · rw [if_pos c4] at h1
      refine tr_skip ?_
      refine tr_seq ?_
      refine tr_block ?_
      refine kc1 ?_
      refine ko [0, 6, 15, 16, 17] 3 (by simp; rfl) ?_
      refine tops_wk (wk_frz 17) ?_
      replace h1 := bnd h1; obtain ⟨y4, hy4, h1⟩ := h1
      refine kcall [0, 6, 15, 18] [1000000] (make_Pick_ok hy4) rfl rfl rfl Try.call65 (by simp) (by simp; rfl) ?_
      replace h1 := bnd h1; obtain ⟨_, p3, h1⟩ := h1
      replace p3 := ck_some p3
      have p3' := p3; try simp at p3'
      refine ko [0, 5, 6] 3 (by simp [p3, p3']; rfl) ?_
      refine tops_nil ?_
      refine lr (by simp; rfl) ?_
      exact ⟨_, hg1 _ (Option.some.inj h1), wk (by simp [weak_iff])⟩
    · rw [if_neg (by rw [c4]; decide)] at h1
      refine tr_exit ?_
      exact ⟨_, he1 _ (Option.some.inj h1), wk (by simp [weak_iff])⟩
set_option maxHeartbeats 1000000 in
theorem runner_States_ok {a0 : api_Fleet} {a1 : api_Rotation} {a2 : List api_Step} {a3 : List Int} {r : (List api_Rotation) × Int} (h0 : runner_States a0 a1 a2 a3 = some r) : FnOK Try.prog 64 [] [.agg (api_Fleet_av a0), .agg (api_Rotation_av a1), .d (.slice (rowsF api_Step_row a2)), .d (.slice (rowsF (iRow .i64) a3))] (.tup [.d (.slice (rowsF api_Rotation_row r.1)), .d (.int .i64 r.2)]) [] := by
  unfold runner_States at h0
  refine fn_ok (nt := 28) (rs := [.tmp 8, .tmp 9]) Try.func64 rfl Try.ntmps64 rfl (by simp) (by decide) rfl fun K => ?_
  refine kr [2, 3, 4, 5] (by simp; rfl) ?_
  refine kc ?_
  refine ko [13, 14, 15, 16] 4 (by simp; rfl) ?_
  replace h0 := bnd h0; obtain ⟨y1, hy1, h0⟩ := h0
  refine kcall [17] [] (runner_run_ok hy1) rfl rfl rfl Try.call90 (by simp) (by simp; rfl) ?_
  rcases c1 : y1.1 with _ | x2
  · rw [c1] at h0; dsimp only at h0; try rw [c1]
    refine ko [10, 11] 5 (by simp; rfl) ?_
    refine tops_nil ?_
    refine tr_seq ?_
    refine kr [10, 11, 21] (by simp; rfl) ?_
    refine tr_cond (b := true) (by simp) (fun _ => ?_) (fun h => by cases h)
    refine kr [8, 9] (by simp; rfl) ?_
    cases h0
    exact tr_ret ⟨[], by simp, rfl, by simp⟩
  · rw [c1] at h0; dsimp only at h0; try rw [c1]
    refine ko [10, 11] 5 (by simp; rfl) ?_
    refine tops_nil ?_
    refine tr_seq ?_
    refine kr [10, 11, 21] (by simp; rfl) ?_
    refine tr_cond (b := false) (by simp) (fun h => by cases h) (fun _ => ?_)
    refine tr_skip ?_
    refine kr [8, 9] (by simp; rfl) ?_
    cases h0
    exact tr_ret ⟨[], by simp, rfl, by simp⟩
set_option maxHeartbeats 1000000 in
theorem steps_Choices_ok {a0 : api_Fleet} {a1 : api_Rotation} {r : (List api_Step)} (h0 : steps_Choices a0 a1 = some r) : FnOK Try.prog 47 [] [.agg (api_Fleet_av a0), .agg (api_Rotation_av a1)] (.d (.slice (rowsF api_Step_row r))) [] := by
  unfold steps_Choices at h0
  refine fn_ok (nt := 32) (rs := [.tmp 4]) Try.func47 rfl Try.ntmps47 rfl (by simp) (by decide) rfl fun K => ?_
  refine kr [2, 3] (by simp; rfl) ?_
  refine kr [2, 3, 5] (by simp; rfl) ?_
  refine tr_seq ?_
  refine kr [2, 3, 5, 6] (by simp; rfl) ?_
  refine tr_wk (wk_own 5 29 63 2 (by simp) (by simp)) ?_
  replace h0 := bnd h0; obtain ⟨e1, hI1, h0⟩ := h0
  refine tjv (fun v1 : (List api_Step) => ({ nt := 32, env := [(5, .vec 29)], box := [], vec := [(29, ⟨63, 2, rowsF api_Step_row v1⟩)] } : St)) (fun v1 => v1 = e1) (fun v1 hI1e _ W1 => ?_) ?_
  · subst hI1e
    refine tr_wk W1 ?_
    refine kr [4] (by simp; rfl) ?_
    cases h0
    exact tr_ret ⟨[29], by simp, rfl, by simp⟩
  · refine tr_block (tr_iter (fun s2 : Int × (List api_Step) => ({ nt := 32, env := [(2, .ptr 2 0), (3, .ptr 3 0), (5, .vec 29), (6, .d (.int .i64 s2.1))], box := [(2, [.d (.int .i64 a0.Slots), .d (.slice (rowsF api_Consumer_row a0.Consumers))]), (3, [.d (.int .i64 a1.Known), .d (.int .i64 a1.Valid), .d (.slice (rowsF api_Unit_row a1.Units))])], vec := [(29, ⟨63, 2, rowsF api_Step_row s2.2⟩)] } : St)) hI1 (wk (by simp [weak_iff])) fun G1 s2 o1 h1 hg1 he1 => ?_)
    unfold steps_Choices_l0 at h1
    refine tr_seq ?_
    refine kr [2, 3, 5, 6, 10] (by simp; rfl) ?_
    refine tr_cond (b := (decide (s2.1 ≤ 8))) (by simp) (fun c18 => ?_) (fun c18 => ?_)
    · rw [if_pos c18] at h1
      refine tr_skip ?_
      refine tr_seq ?_
      refine tr_block ?_
      refine kr [2, 3, 5, 6, 15, 16] (by simp; rfl) ?_
      replace h1 := bnd h1; obtain ⟨e2, hI2, h1⟩ := h1
      refine tjv (fun v3 : (List api_Step) => ({ nt := 32, env := [(2, .ptr 2 0), (3, .ptr 3 0), (5, .vec 29), (6, .d (.int .i64 s2.1))], box := [(2, [.d (.int .i64 a0.Slots), .d (.slice (rowsF api_Consumer_row a0.Consumers))]), (3, [.d (.int .i64 a1.Known), .d (.int .i64 a1.Valid), .d (.slice (rowsF api_Unit_row a1.Units))])], vec := [(29, ⟨63, 2, rowsF api_Step_row v3⟩)] } : St)) (fun v3 => v3 = e2) (fun v3 hI2e _ W2 => ?_) ?_
      · subst hI2e
        refine tr_wk W2 ?_
        refine lr (by simp; rfl) ?_
        exact ⟨_, hg1 _ (Option.some.inj h1), wk (by simp [weak_iff])⟩
      · refine tr_block (tr_iter (fun s4 : Int × (List api_Step) => ({ nt := 32, env := [(2, .ptr 2 0), (3, .ptr 3 0), (5, .vec 29), (6, .d (.int .i64 s2.1)), (15, .d (.int .i64 ((a1.Units).length : Int))), (16, .d (.int .i64 s4.1))], box := [(2, [.d (.int .i64 a0.Slots), .d (.slice (rowsF api_Consumer_row a0.Consumers))]), (3, [.d (.int .i64 a1.Known), .d (.int .i64 a1.Valid), .d (.slice (rowsF api_Unit_row a1.Units))])], vec := [(29, ⟨63, 2, rowsF api_Step_row s4.2⟩)] } : St)) hI2 (wk (by simp [weak_iff])) fun G2 s4 o2 h2 hg2 he2 => ?_)
        unfold steps_Choices_l1 at h2
        refine kr [2, 3, 5, 6, 15, 16, 17] (by simp; rfl) ?_
        refine tr_seq ?_
        refine tr_cond (b := (decide (s4.1 < ((a1.Units).length : Int)))) (by simp) (fun c23 => ?_) (fun c23 => ?_)
        · rw [if_pos c23] at h2
          refine tr_skip ?_
          refine tr_seq ?_
          refine tr_block ?_
          refine kr [2, 3, 5, 6, 7, 15, 16] (by simp; rfl) ?_
          refine kr [2, 3, 5, 6, 8, 15, 16] (by simp; rfl) ?_
          refine kc ?_
          refine ko [2, 3, 5, 6, 8, 15, 16, 22, 23, 24] 3 (by simp; rfl) ?_
          replace h2 := bnd h2; obtain ⟨y5, hy5, h2⟩ := h2
          refine kcall [2, 3, 5, 6, 8, 15, 16, 25] [] (steps_Safe_ok hy5) rfl rfl rfl Try.call48 (by simp) (by simp; rfl) ?_
          refine tops_nil ?_
          refine tr_cond (b := y5) (by simp) (fun c24 => ?_) (fun c24 => ?_)
          · rw [if_pos c24] at h2
            replace h2 := bnd h2; obtain ⟨_, p9, h2⟩ := h2
            replace p9 := ck_some p9
            have p9' := p9; try simp at p9'
            refine lr (by simp [p9, p9']; rfl) ?_
            refine lr (by simp; rfl) ?_
            exact ⟨_, hg2 _ (Option.some.inj h2), wk (by simp [weak_iff])⟩
          · rw [if_neg (by rw [c24]; decide)] at h2
            refine tr_skip ?_
            refine lr (by simp; rfl) ?_
            exact ⟨_, hg2 _ (Option.some.inj h2), wk (by simp [weak_iff])⟩
        · rw [if_neg (by rw [c23]; decide)] at h2
          refine tr_exit ?_
          exact ⟨_, he2 _ (Option.some.inj h2), wk (by simp [weak_iff])⟩
    · rw [if_neg (by rw [c18]; decide)] at h1
      refine tr_exit ?_
      exact ⟨_, he1 _ (Option.some.inj h1), wk (by simp [weak_iff])⟩
set_option maxHeartbeats 1000000 in
theorem steps_Fault_ok {a0 : api_Fleet} {a1 : api_Rotation} {a2 : List api_Step} {r : Int × Int} (h0 : steps_Fault a0 a1 a2 = some r) : FnOK Try.prog 53 [] [.agg (api_Fleet_av a0), .agg (api_Rotation_av a1), .d (.slice (rowsF api_Step_row a2))] (.tup [.d (.int .i64 r.1), .d (.int .i64 r.2)]) [] := by
  unfold steps_Fault at h0
  refine fn_ok (nt := 50) (rs := [.tmp 6, .tmp 7]) Try.func53 rfl Try.ntmps53 rfl (by simp) (by decide) rfl fun K => ?_
  refine kr [2, 3, 4] (by simp; rfl) ?_
  refine tr_seq ?_
  refine kc ?_
  refine ko [2, 3, 4, 13, 14, 15] 3 (by simp; rfl) ?_
  replace h0 := bnd h0; obtain ⟨y1, hy1, h0⟩ := h0
  refine kcall [2, 3, 4, 16] [] (steps_check_ok hy1) rfl rfl rfl Try.call86 (by simp) (by simp; rfl) ?_
  refine ko [2, 3, 4, 8] 1 (by simp; rfl) ?_
  refine tops_nil ?_
  refine kr [2, 3, 4, 8, 18] (by simp; rfl) ?_
  refine tr_cond (b := (y1 != 0)) (by simp) (fun c1 => ?_) (fun c1 => ?_)
  · rw [if_pos c1] at h0
    refine kr [6, 7] (by simp; rfl) ?_
    cases h0
    exact tr_ret ⟨[], by simp, rfl, by simp⟩
  · rw [if_neg (by rw [c1]; decide)] at h0
    refine tr_skip ?_
    refine tr_seq ?_
    refine kr [2, 3, 4, 20, 21, 22] (by simp; rfl) ?_
    replace h0 := bnd h0; obtain ⟨e1, hI1, h0⟩ := h0
    refine tjv (fun v2 : Unit => ({ nt := 50, env := [(2, .d (.slice (rowsF api_Step_row a2)))], box := [], vec := [] } : St)) (fun v2 => .inl v2 = e1) (fun v2 hI1e _ W1 => ?_) ?_
    · subst hI1e
      dsimp only at h0
      refine tr_wk W1 ?_
      refine kr [6, 7] (by simp; rfl) ?_
      cases h0
      exact tr_ret ⟨[], by simp, rfl, by simp⟩
    · refine tr_block (tr_iter (fun s3 : Int × Int × Int × (List api_Unit) => ({ nt := 50, env := [(2, .d (.slice (rowsF api_Step_row a2))), (3, .ptr 3 0), (4, .ptr 4 0), (20, .d (.slice (rowsF api_Step_row a2))), (21, .d (.int .i64 ((a2).length : Int))), (22, .d (.int .i64 s3.1))], box := [(3, [.d (.int .i64 a0.Slots), .d (.slice (rowsF api_Consumer_row a0.Consumers))]), (4, [.d (.int .i64 s3.2.1), .d (.int .i64 s3.2.2.1), .d (.slice (rowsF api_Unit_row s3.2.2.2))])], vec := [] } : St)) hI1 (wk (by simp [weak_iff])) fun G1 s3 o1 h1 hg1 he1 => ?_)
      unfold steps_Fault_l0 at h1
      refine kr [2, 3, 4, 20, 21, 22, 23] (by simp; rfl) ?_
      refine tr_seq ?_
      refine tr_cond (b := (decide (s3.1 < ((a2).length : Int)))) (by simp) (fun c8 => ?_) (fun c8 => ?_)
      · rw [if_pos c8] at h1
        refine tr_skip ?_
        refine tr_seq ?_
        refine tr_block ?_
        replace h1 := bnd h1; obtain ⟨x4, p3, h1⟩ := h1
        replace p3 := idx_some p3
        have p3' := p3; try simp at p3'
        refine kr [2, 3, 4, 9, 10, 20, 21, 22] (by simp [p3, p3']; rfl) ?_
        refine kc ?_
        refine ko [2, 3, 4, 9, 20, 21, 22, 28, 29, 30] 3 (by simp; rfl) ?_
        replace h1 := bnd h1; obtain ⟨y5, hy5, h1⟩ := h1
        refine kcall [2, 3, 4, 9, 20, 21, 22, 31] [] (steps_Apply_ok hy5) rfl rfl rfl Try.call45 (by simp) (by simp; rfl) ?_
        refine ko [2, 3, 4, 9, 11, 12, 20, 21, 22] 6 (by simp; rfl) ?_
        refine tops_nil ?_
        refine tr_seq ?_
        refine tr_block ?_
        refine kr [2, 3, 4, 9, 11, 12, 20, 21, 22, 34] (by simp; rfl) ?_
        refine tr_cond (b := (y5.2 != 0)) (by simp) (fun c9 => ?_) (fun c9 => ?_)
        · rw [if_pos c9] at h1
          refine kr [6, 7] (by simp; rfl) ?_
          have k1 := he1 _ (Option.some.inj h1)
          subst k1
          dsimp only at h0
          cases h0
          exact tr_ret ⟨[], by simp, rfl, by simp⟩
        · rw [if_neg (by rw [c9]; decide)] at h1
          refine kc ?_
          refine ko [2, 3, 4, 9, 11, 20, 21, 22, 40, 41, 42] 3 (by simp; rfl) ?_
          replace h1 := bnd h1; obtain ⟨y6, hy6, h1⟩ := h1
          refine kcall [2, 3, 4, 9, 11, 20, 21, 22, 43] [] (steps_holds_ok hy6) rfl rfl rfl Try.call85 (by simp) (by simp; rfl) ?_
          refine ko [2, 3, 4, 9, 11, 20, 21, 22, 39] 2 (by simp; rfl) ?_
          refine tops_nil ?_
          refine tr_cond (b := (!y6)) (by simp) (fun c10 => ?_) (fun c10 => ?_)
          · rw [if_pos c10] at h1
            refine kr [6, 7] (by simp; rfl) ?_
            have k1 := he1 _ (Option.some.inj h1)
            subst k1
            dsimp only at h0
            cases h0
            exact tr_ret ⟨[], by simp, rfl, by simp⟩
          · rw [if_neg (by rw [c10]; decide)] at h1
            refine tr_skip ?_
            refine lr (by simp; rfl) ?_
            refine lr (by simp; rfl) ?_
            exact ⟨_, hg1 _ (Option.some.inj h1), wk (by simp [weak_iff])⟩
      · rw [if_neg (by rw [c8]; decide)] at h1
        refine tr_exit ?_
        exact ⟨_, he1 _ (Option.some.inj h1), wk (by simp [weak_iff])⟩
set_option maxHeartbeats 1000000 in
theorem ref33_Same_ok {a0 : List api_Step} {a1 : List api_Step} {r : Bool} (h0 : ref33_Same a0 a1 = some r) : FnOK Try.prog 57 [] [.d (.slice (rowsF api_Step_row a0)), .d (.slice (rowsF api_Step_row a1))] (.d (.bool r)) [] := by
  unfold ref33_Same at h0
  refine fn_ok (nt := 26) (rs := [.tmp 4]) Try.func57 rfl Try.ntmps57 rfl (by simp) (by decide) rfl fun K => ?_
  refine kr [0, 1] (by simp; rfl) ?_
  refine tr_seq ?_
  refine kr [0, 1, 10] (by simp; rfl) ?_
  refine tr_cond (b := (((a0).length : Int) != ((a1).length : Int))) (by simp) (fun c1 => ?_) (fun c1 => ?_)
  · rw [if_pos c1] at h0
    refine kr [4] (by simp; rfl) ?_
    cases h0
    exact tr_ret ⟨[], by simp, rfl, by simp⟩
  · rw [if_neg (by rw [c1]; decide)] at h0
    refine tr_skip ?_
    refine tr_seq ?_
    refine kr [0, 1, 12, 13] (by simp; rfl) ?_
    replace h0 := bnd h0; obtain ⟨e1, hI1, h0⟩ := h0
    refine tjv (fun v1 : Unit => ({ nt := 26, env := [], box := [], vec := [] } : St)) (fun v1 => .inl v1 = e1) (fun v1 hI1e _ W1 => ?_) ?_
    · subst hI1e
      dsimp only at h0
      refine tr_wk W1 ?_
      refine kr [4] (by simp; rfl) ?_
      cases h0
      exact tr_ret ⟨[], by simp, rfl, by simp⟩
    · refine tr_block (tr_iter (fun s2 : Int => ({ nt := 26, env := [(0, .d (.slice (rowsF api_Step_row a0))), (1, .d (.slice (rowsF api_Step_row a1))), (12, .d (.int .i64 ((a0).length : Int))), (13, .d (.int .i64 s2))], box := [], vec := [] } : St)) hI1 (wk (by simp [weak_iff])) fun G1 s2 o1 h1 hg1 he1 => ?_)
      unfold ref33_Same_l0 at h1
      refine kr [0, 1, 12, 13, 14] (by simp; rfl) ?_
      refine tr_seq ?_
      refine tr_cond (b := (decide (s2 < ((a0).length : Int)))) (by simp) (fun c6 => ?_) (fun c6 => ?_)
      · rw [if_pos c6] at h1
        refine tr_skip ?_
        refine tr_seq ?_
        refine tr_block ?_
        refine kr [0, 1, 5, 12, 13] (by simp; rfl) ?_
        refine kd [[], [], [0, 1], [2], [], [], [4, 5], [6], [3, 7]] [] [] none [] 9 fol (by decide +kernel) (by simp) ?_
        replace h1 := bnd h1; obtain ⟨x3, p11, h1⟩ := h1
        replace p11 := idx_some p11
        have p11' := p11; try simp at p11'
        replace h1 := bnd h1; obtain ⟨x4, p12, h1⟩ := h1
        replace p12 := idx_some p12
        have p12' := p12; try simp at p12'
        refine dr_go 0 2 rfl (by simp (maxSteps := 1000000) [p11, p12, p11', p12']; rfl) ?_
        refine dr_go 2 2 rfl (by simp (maxSteps := 1000000) [p11, p12, p11', p12']; rfl) ?_
        refine dr_go 4 2 rfl (by simp (maxSteps := 1000000) [p11, p12, p11', p12']; rfl) ?_
        refine dr_go 6 2 rfl (by simp (maxSteps := 1000000) [p11, p12, p11', p12']; rfl) ?_
        refine dr_go 8 1 rfl (by simp (maxSteps := 1000000) [p11, p12, p11', p12']; rfl) ?_
        refine dr_end rfl (tops_nil ?_)
        refine tr_cond (b := (!((x3.Kind == x4.Kind) && (x3.Unit == x4.Unit)))) (by simp) (fun c7 => ?_) (fun c7 => ?_)
        · rw [if_pos c7] at h1
          refine kr [4] (by simp; rfl) ?_
          have k1 := he1 _ (Option.some.inj h1)
          subst k1
          dsimp only at h0
          cases h0
          exact tr_ret ⟨[], by simp, rfl, by simp⟩
        · rw [if_neg (by rw [c7]; decide)] at h1
          refine tr_skip ?_
          refine lr (by simp; rfl) ?_
          exact ⟨_, hg1 _ (Option.some.inj h1), wk (by simp [weak_iff])⟩
      · rw [if_neg (by rw [c6]; decide)] at h1
        refine tr_exit ?_
        exact ⟨_, he1 _ (Option.some.inj h1), wk (by simp [weak_iff])⟩
set_option maxHeartbeats 1000000 in
theorem slices_Clone_api_Step_ok {a0 : List api_Step} {r : List api_Step} (h0 : slices_Clone_api_Step a0 = some r) : FnOK Try.prog 93 [] [.d (.slice (rowsF api_Step_row a0))] (.d (.slice (rowsF api_Step_row r))) [] := by
  unfold slices_Clone_api_Step at h0
  replace h0 := bnd h0; obtain ⟨_, p1, h0⟩ := h0; replace p1 := ck_some p1; cases h0
  refine fn_ok (nt := 8) (rs := [.tmp 2]) Try.func93 rfl Try.ntmps93 rfl (by simp) (by decide) rfl fun K => ?_
  refine kr [0, 2] (by simp; rfl) ?_
  cases a0 with
  | nil =>
    refine tr_seq ?_
    refine kc ?_
    refine ko [0, 3] 1 (by simp; rfl) ?_
    refine tops_isnil (by simp) rfl rfl (by simp) Try.underlying67 (by simp) (by simp) fun b => ?_
    refine tops_nil ?_
    refine tr_cond (b := b) (by simp) (fun cb => ?_) (fun cb => ?_)
    · refine kr [2] (by simp; rfl) ?_
      exact tr_ret ⟨[], by simp, rfl, by simp⟩
    · refine tr_skip ?_
      refine kr [2] (by simp; rfl) ?_
      exact tr_ret ⟨[7], by simp, rfl, by simp⟩
  | cons x l =>
    refine tr_seq ?_
    refine kr [0, 4] (by simp; rfl) ?_
    refine tr_cond (b := false) (by simp) (fun h => by cases h) (fun _ => ?_)
    refine tr_skip ?_
    have p2 := p1; simp at p2
    refine kr [2] (by simp [p1, p2]; rfl) ?_
    exact tr_ret ⟨[7], by simp, rfl, by simp⟩
end Go.Vl
