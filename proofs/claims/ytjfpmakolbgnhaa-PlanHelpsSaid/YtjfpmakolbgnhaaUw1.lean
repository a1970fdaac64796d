/- Walks: each function of the given program computes what its mirror says. Conditions: none. -/
import Derived.Test.YtjfpmakolbgnhaaUm
import Derived.Test.YtjfpmakolbgnhaaVmLz
import Derived.Test.YtjfpmakolbgnhaaUq
import Derived.Test.YtjfpmakolbgnhaaTyU
set_option linter.unusedSimpArgs false
set_option linter.unusedVariables false
namespace Go.Vl
open Go Go.Proofs
set_option maxHeartbeats 1000000 in
theorem ref32_in_ok {a0 : Int} {a1 : Int} {a2 : Int} {r : Bool} (h0 : ref32_in a0 a1 a2 = some r) : FnOK Try.prog 53 [] [.d (.int .i64 a0), .d (.int .i64 a1), .d (.int .i64 a2)] (.d (.bool r)) [] := by
  unfold ref32_in at h0
  refine fn_ok (nt := 15) (rs := [.tmp 6]) Try.func53 rfl Try.ntmps53 rfl (by simp) (by decide) rfl fun K => ?_
  refine kr [0, 1, 2] (by simp; rfl) ?_
  replace h0 := bnd h0; obtain ⟨v1, hvv1, h0⟩ := h0
  refine sjv (fun v1_ : Bool => ({ nt := 15, env := [(6, .d (.bool v1_))], box := [], vec := [] } : St)) (fun v1_ => v1 = v1_) (fun v1_ e => ?_) ?_
  · subst e
    cases h0
    exact tr_ret ⟨[], by simp, rfl, by simp⟩
  · refine kc1 ?_
    refine ko [0, 2, 10] 4 (by simp; rfl) ?_
    refine tops_split 10 (decide (a1 ≤ a0)) (by simp) (fun c3 => ?_) (fun c3 => ?_)
    · rw [c3] at hvv1
      refine ko [6] 5 (by simp; rfl) ?_
      refine tops_nil ?_
      cases hvv1
      exact ⟨_, rfl, wk (by simp [weak_iff])⟩
    · rw [c3] at hvv1
      refine kskip 3 [] (by kernel_rfl) ?_
      refine ko [6] 2 (by simp; rfl) ?_
      refine tops_nil ?_
      cases hvv1
      exact ⟨_, rfl, wk (by simp [weak_iff])⟩
set_option maxHeartbeats 1000000 in
theorem ref32_Valid_ok {a0 : api_Fleet} {r : Bool} (h0 : ref32_Valid a0 = some r) : FnOK Try.prog 40 [] [.agg (api_Fleet_av a0)] (.d (.bool r)) [] := by
  unfold ref32_Valid at h0
  refine fn_ok (nt := 28) (rs := [.tmp 2]) Try.func40 rfl Try.ntmps40 rfl (by simp) (by decide) rfl fun K => ?_
  refine kr [1] (by simp; rfl) ?_
  refine tr_seq ?_
  replace h0 := bnd h0; obtain ⟨v1, hvv1, h0⟩ := h0
  refine sjv (fun v1_ : Bool => ({ nt := 28, env := [(1, .ptr 1 0), (15, .d (.bool v1_))], box := [(1, [.d (.int .i64 a0.Slots), .d (.slice (rowsF api_Consumer_row a0.Consumers))])], vec := [] } : St)) (fun v1_ => v1 = v1_) (fun v1_ e => ?_) ?_
  · subst e
    refine tr_cond (b := v1) (by simp) (fun c3 => ?_) (fun c3 => ?_)
    · rw [if_pos c3] at h0
      refine kr [2] (by simp; rfl) ?_
      cases h0
      exact tr_ret ⟨[], by simp, rfl, by simp⟩
    · rw [if_neg (by rw [c3]; decide)] at h0
      refine tr_skip ?_
      refine tr_seq ?_
      refine kr [17, 18, 19] (by simp; rfl) ?_
      replace h0 := bnd h0; obtain ⟨e1, hI1, h0⟩ := h0
      refine tjv (fun v2 : Unit => ({ nt := 28, env := [], box := [], vec := [] } : St)) (fun v2 => .inl v2 = e1) (fun v2 hI1e _ W1 => ?_) ?_
      · subst hI1e
        dsimp only at h0
        refine tr_wk W1 ?_
        refine kr [2] (by simp; rfl) ?_
        cases h0
        exact tr_ret ⟨[], by simp, rfl, by simp⟩
      · refine tr_block (tr_iter (fun s3 : Int => ({ nt := 28, env := [(17, .d (.slice (rowsF api_Consumer_row a0.Consumers))), (18, .d (.int .i64 ((a0.Consumers).length : Int))), (19, .d (.int .i64 s3))], box := [], vec := [] } : St)) hI1 (wk (by simp [weak_iff])) fun G1 s3 o1 h1 hg1 he1 => ?_)
        unfold ref32_Valid_l0 at h1
        refine kr [17, 18, 19, 20] (by simp; rfl) ?_
        refine tr_seq ?_
        refine tr_cond (b := (decide (s3 < ((a0.Consumers).length : Int)))) (by simp) (fun c8 => ?_) (fun c8 => ?_)
        · rw [if_pos c8] at h1
          refine tr_skip ?_
          refine tr_seq ?_
          refine tr_block ?_
          replace h1 := bnd h1; obtain ⟨x4, p3, h1⟩ := h1
          replace p3 := idx_some p3
          have p3' := p3; try simp at p3'
          refine kr [4, 17, 18, 19] (by simp [p3, p3']; rfl) ?_
          refine kc ?_
          refine ko [17, 18, 19, 24] 2 (by simp; rfl) ?_
          replace h1 := bnd h1; obtain ⟨y5, hy5, h1⟩ := h1
          refine kcall [17, 18, 19, 25] [] (ref32_in_ok hy5) rfl rfl rfl Try.call53 (by simp) (by simp; rfl) ?_
          refine ko [17, 18, 19, 26] 1 (by simp; rfl) ?_
          refine tops_nil ?_
          refine tr_cond (b := (!y5)) (by simp) (fun c9 => ?_) (fun c9 => ?_)
          · rw [if_pos c9] at h1
            refine kr [2] (by simp; rfl) ?_
            have k1 := he1 _ (Option.some.inj h1)
            subst k1
            dsimp only at h0
            cases h0
            exact tr_ret ⟨[], by simp, rfl, by simp⟩
          · rw [if_neg (by rw [c9]; decide)] at h1
            refine tr_skip ?_
            refine lr (by simp; rfl) ?_
            exact ⟨_, hg1 _ (Option.some.inj h1), wk (by simp [weak_iff])⟩
        · rw [if_neg (by rw [c8]; decide)] at h1
          refine tr_exit ?_
          exact ⟨_, he1 _ (Option.some.inj h1), wk (by simp [weak_iff])⟩
  · refine kc1 ?_
    refine ko [1, 6] 2 (by simp; rfl) ?_
    replace hvv1 := bnd hvv1; obtain ⟨y8, hy8, hvv1⟩ := hvv1
    refine kcall [1, 7] [] (ref32_in_ok hy8) rfl rfl rfl Try.call53 (by simp) (by simp; rfl) ?_
    refine ko [1, 9] 2 (by simp; rfl) ?_
    refine tops_split 9 (!y8) (by simp) (fun c10 => ?_) (fun c10 => ?_)
    · rw [if_pos c10] at hvv1
      refine kskip 5 [] (by kernel_rfl) ?_
      refine ko [1, 15] 1 (by simp; rfl) ?_
      refine tops_nil ?_
      cases hvv1
      exact ⟨_, rfl, wk (by simp [weak_iff])⟩
    · rw [if_neg (by rw [c10]; decide)] at hvv1
      refine ko [1, 9, 12] 3 (by simp; rfl) ?_
      replace hvv1 := bnd hvv1; obtain ⟨y9, hy9, hvv1⟩ := hvv1
      refine kcall [1, 9, 13] [] (ref32_in_ok hy9) rfl rfl rfl Try.call53 (by simp) (by simp; rfl) ?_
      refine ko [1, 15] 2 (by simp; rfl) ?_
      refine tops_nil ?_
      cases hvv1
      exact ⟨_, rfl, wk (by simp [weak_iff])⟩
set_option maxHeartbeats 1000000 in
theorem ref32_Start_ok {a0 : api_Fleet} {r : api_Rotation × Int} (h0 : ref32_Start a0 = some r) : FnOK Try.prog 22 [] [.agg (api_Fleet_av a0)] (.tup [.agg (api_Rotation_av r.1), .d (.int .i64 r.2)]) [] := by
  unfold ref32_Start at h0
  refine fn_ok (nt := 23) (rs := [.cell 2 33, .tmp 3]) Try.func22 rfl Try.ntmps22 rfl (by simp) (by decide) rfl fun K => ?_
  refine kr [1, 2] (by simp; rfl) ?_
  refine tr_seq ?_
  refine kc ?_
  refine ko [1, 2, 5] 1 (by simp; rfl) ?_
  replace h0 := bnd h0; obtain ⟨y1, hy1, h0⟩ := h0
  refine kcall [1, 2, 6] [] (ref32_Valid_ok hy1) rfl rfl rfl Try.call40 (by simp) (by simp; rfl) ?_
  refine ko [1, 2, 7] 1 (by simp; rfl) ?_
  refine tops_nil ?_
  refine tr_cond (b := (!y1)) (by simp) (fun c1 => ?_) (fun c1 => ?_)
  · rw [if_pos c1] at h0
    refine kr [2, 3] (by simp; rfl) ?_
    cases h0
    exact tr_ret ⟨[], by simp, rfl, by simp⟩
  · rw [if_neg (by rw [c1]; decide)] at h0
    refine tr_skip ?_
    refine kr [1, 2, 4] (by simp; rfl) ?_
    refine tr_seq ?_
    refine kr [2, 4, 12, 13] (by simp; rfl) ?_
    refine tr_wk (wk_ownbox 4 2 19 53 3 (by simp; rfl) (by simp) (by simp)) ?_
    replace h0 := bnd h0; obtain ⟨e1, hI1, h0⟩ := h0
    refine tjv (fun v2 : (List api_Unit) => ({ nt := 23, env := [(2, .ptr 2 0), (4, .ptr 4 0)], box := [(2, [.d (.int .i64 0), .d (.int .i64 0), .nilS]), (4, [.d (.int .i64 1), .d (.int .i64 1), .vec 19])], vec := [(19, ⟨53, 3, rowsF api_Unit_row v2⟩)] } : St)) (fun v2 => v2 = e1) (fun v2 hI1e _ W1 => ?_) ?_
    · subst hI1e
      refine tr_wk W1 ?_
      refine kr [2, 3] (by simp; rfl) ?_
      cases h0
      exact tr_ret ⟨[19], by simp, rfl, by simp⟩
    · refine tr_block (tr_iter (fun s3 : Int × (List api_Unit) => ({ nt := 23, env := [(2, .ptr 2 0), (4, .ptr 4 0), (12, .d (.int .i64 ((a0.Consumers).length : Int))), (13, .d (.int .i64 s3.1))], box := [(2, [.d (.int .i64 0), .d (.int .i64 0), .nilS]), (4, [.d (.int .i64 1), .d (.int .i64 1), .vec 19])], vec := [(19, ⟨53, 3, rowsF api_Unit_row s3.2⟩)] } : St)) hI1 (wk (by simp [weak_iff])) fun G1 s3 o1 h1 hg1 he1 => ?_)
      unfold ref32_Start_l0 at h1
      refine kr [2, 4, 12, 13, 14] (by simp; rfl) ?_
      refine tr_seq ?_
      refine tr_cond (b := (decide (s3.1 < ((a0.Consumers).length : Int)))) (by simp) (fun c5 => ?_) (fun c5 => ?_)
      · rw [if_pos c5] at h1
        refine tr_skip ?_
        refine tr_seq ?_
        refine tr_block ?_
        replace h1 := bnd h1; obtain ⟨_, p3, h1⟩ := h1
        replace p3 := ck_some p3
        have p3' := p3; try simp at p3'
        refine lr (by simp [p3, p3']; rfl) ?_
        refine lr (by simp; rfl) ?_
        exact ⟨_, hg1 _ (Option.some.inj h1), wk (by simp [weak_iff])⟩
      · rw [if_neg (by rw [c5]; decide)] at h1
        refine tr_exit ?_
        exact ⟨_, he1 _ (Option.some.inj h1), wk (by simp [weak_iff])⟩
set_option maxHeartbeats 1000000 in
theorem fleet_Check_1_ok {a0 : api_Consumer} {r : Bool} (h0 : fleet_Check_1 a0 = some r) : FnOK Try.prog 78 [] [.agg (api_Consumer_av a0)] (.d (.bool r)) [] := by
  unfold fleet_Check_1 at h0
  refine fn_ok (nt := 11) (rs := [.tmp 2]) Try.func78 rfl Try.ntmps78 rfl (by simp) (by decide) rfl fun K => ?_
  refine kr [1] (by simp; rfl) ?_
  replace h0 := bnd h0; obtain ⟨v1, hvv1, h0⟩ := h0
  refine sjv (fun v1_ : Bool => ({ nt := 11, env := [(2, .d (.bool v1_))], box := [], vec := [] } : St)) (fun v1_ => v1 = v1_) (fun v1_ e => ?_) ?_
  · subst e
    cases h0
    exact tr_ret ⟨[], by simp, rfl, by simp⟩
  · refine kc1 ?_
    refine ko [1, 6] 4 (by simp; rfl) ?_
    refine tops_split 6 (decide (a0.Pool < 0)) (by simp) (fun c3 => ?_) (fun c3 => ?_)
    · rw [c3] at hvv1
      refine kskip 3 [] (by kernel_rfl) ?_
      refine ko [2] 2 (by simp; rfl) ?_
      refine tops_nil ?_
      cases hvv1
      exact ⟨_, rfl, wk (by simp [weak_iff])⟩
    · rw [c3] at hvv1
      refine ko [2] 5 (by simp; rfl) ?_
      refine tops_nil ?_
      cases hvv1
      exact ⟨_, rfl, wk (by simp [weak_iff])⟩
set_option maxHeartbeats 1000000 in
theorem slices_IndexFunc_api_Consumer_at_fleet_Check_1_ok {a0 : List api_Consumer} {r : Int} (h0 : slices_IndexFunc_api_Consumer_at_fleet_Check_1 a0 = some r) : FnOK Try.prog 91 [] [.d (.slice (rowsF api_Consumer_row a0)), .fn 78 []] (.d (.int .i64 r)) [] := by
  unfold slices_IndexFunc_api_Consumer_at_fleet_Check_1 at h0
  refine fn_ok (nt := 19) (rs := [.tmp 4]) Try.func91 rfl Try.ntmps91 rfl (by simp) (by decide) rfl fun K => ?_
  refine kr [0, 1] (by simp; rfl) ?_
  refine tr_seq ?_
  refine kr [0, 1, 7, 8] (by simp; rfl) ?_
  replace h0 := bnd h0; obtain ⟨e1, hI1, h0⟩ := h0
  refine tjv (fun v1 : Unit => ({ nt := 19, env := [], box := [], vec := [] } : St)) (fun v1 => .inl v1 = e1) (fun v1 hI1e _ W1 => ?_) ?_
  · subst hI1e
    dsimp only at h0
    refine tr_wk W1 ?_
    refine kr [4] (by simp; rfl) ?_
    cases h0
    exact tr_ret ⟨[], by simp, rfl, by simp⟩
  · refine tr_block (tr_iter (fun s2 : Int => ({ nt := 19, env := [(0, .d (.slice (rowsF api_Consumer_row a0))), (1, .fn 78 []), (7, .d (.int .i64 ((a0).length : Int))), (8, .d (.int .i64 s2))], box := [], vec := [] } : St)) hI1 (wk (by simp [weak_iff])) fun G1 s2 o1 h1 hg1 he1 => ?_)
    unfold slices_IndexFunc_api_Consumer_at_fleet_Check_1_l0 at h1
    refine kr [0, 1, 7, 8, 9] (by simp; rfl) ?_
    refine tr_seq ?_
    refine tr_cond (b := (decide (s2 < ((a0).length : Int)))) (by simp) (fun c5 => ?_) (fun c5 => ?_)
    · rw [if_pos c5] at h1
      refine tr_skip ?_
      refine tr_seq ?_
      refine tr_block ?_
      refine kr [0, 1, 5, 7, 8] (by simp; rfl) ?_
      refine kc ?_
      replace h1 := bnd h1; obtain ⟨x3, p3, h1⟩ := h1
      replace p3 := idx_some p3
      have p3' := p3; try simp at p3'
      refine ko [0, 1, 5, 7, 8, 11, 15] 5 (by simp [p3, p3']; rfl) ?_
      replace h1 := bnd h1; obtain ⟨y4, hy4, h1⟩ := h1
      refine kcallV [0, 1, 5, 7, 8, 16] [] [] [] (fleet_Check_1_ok hy4) rfl rfl rfl Try.call78 (by simp) (by simp; rfl) ?_
      refine tops_nil ?_
      refine tr_cond (b := y4) (by simp) (fun c6 => ?_) (fun c6 => ?_)
      · rw [if_pos c6] at h1
        refine kr [4] (by simp; rfl) ?_
        have k1 := he1 _ (Option.some.inj h1)
        subst k1
        dsimp only at h0
        cases h0
        exact tr_ret ⟨[], by simp, rfl, by simp⟩
      · rw [if_neg (by rw [c6]; decide)] at h1
        refine tr_skip ?_
        refine lr (by simp; rfl) ?_
        exact ⟨_, hg1 _ (Option.some.inj h1), wk (by simp [weak_iff])⟩
    · rw [if_neg (by rw [c5]; decide)] at h1
      refine tr_exit ?_
      exact ⟨_, he1 _ (Option.some.inj h1), wk (by simp [weak_iff])⟩
set_option maxHeartbeats 1000000 in
theorem slices_ContainsFunc_api_Consumer_at_fleet_Check_1_ok {a0 : List api_Consumer} {r : Bool} (h0 : slices_ContainsFunc_api_Consumer_at_fleet_Check_1 a0 = some r) : FnOK Try.prog 79 [] [.d (.slice (rowsF api_Consumer_row a0)), .fn 78 []] (.d (.bool r)) [] := by
  unfold slices_ContainsFunc_api_Consumer_at_fleet_Check_1 at h0
  refine fn_ok (nt := 9) (rs := [.tmp 4]) Try.func79 rfl Try.ntmps79 rfl (by simp) (by decide) rfl fun K => ?_
  refine kr [0, 1] (by simp; rfl) ?_
  refine kc ?_
  refine ko [5, 6] 2 (by simp; rfl) ?_
  replace h0 := bnd h0; obtain ⟨y1, hy1, h0⟩ := h0
  refine kcall [7] [] (slices_IndexFunc_api_Consumer_at_fleet_Check_1_ok hy1) rfl rfl rfl Try.call91 (by simp) (by simp; rfl) ?_
  refine ko [4] 2 (by simp; rfl) ?_
  refine tops_nil ?_
  cases h0
  exact tr_ret ⟨[], by simp, rfl, by simp⟩
set_option maxHeartbeats 1000000 in
theorem fleet_Check_ok {a0 : api_Fleet} {r : Int} (h0 : fleet_Check a0 = some r) : FnOK Try.prog 62 [] [.agg (api_Fleet_av a0)] (.d (.int .i64 r)) [] := by
  unfold fleet_Check at h0
  refine fn_ok (nt := 30) (rs := [.tmp 2]) Try.func62 rfl Try.ntmps62 rfl (by simp) (by decide) rfl fun K => ?_
  refine kr [1] (by simp; rfl) ?_
  refine kr [1, 3] (by simp; rfl) ?_
  refine tr_seq ?_
  replace h0 := bnd h0; obtain ⟨v1, hvv1, h0⟩ := h0
  refine sjv (fun v1_ : Bool => ({ nt := 30, env := [(29, .d (.bool v1_))], box := [], vec := [] } : St)) (fun v1_ => v1 = v1_) (fun v1_ e => ?_) ?_
  · subst e
    refine tr_cond (b := v1) (by simp) (fun c13 => ?_) (fun c13 => ?_)
    · rw [if_pos c13] at h0
      refine kr [2] (by simp; rfl) ?_
      cases h0
      exact tr_ret ⟨[], by simp, rfl, by simp⟩
    · rw [if_neg (by rw [c13]; decide)] at h0
      refine tr_skip ?_
      refine kr [2] (by simp; rfl) ?_
      cases h0
      exact tr_ret ⟨[], by simp, rfl, by simp⟩
  · refine kc1 ?_
    refine ko [1, 3, 7] 4 (by simp; rfl) ?_
    refine tops_split 7 (a0.Slots != 1) (by simp) (fun c14 => ?_) (fun c14 => ?_)
    · rw [if_pos c14] at hvv1
      refine ko [1, 3, 12] 5 (by simp; rfl) ?_
      refine tops_split 12 (a0.Slots != 2) (by simp) (fun c15 => ?_) (fun c15 => ?_)
      · rw [if_pos c15] at hvv1
        refine kskip 4 [] (by kernel_rfl) ?_
        refine ko [1, 3, 18] 2 (by simp; rfl) ?_
        refine kskip 4 [] (by kernel_rfl) ?_
        refine ko [1, 3, 24] 2 (by simp; rfl) ?_
        refine kskip 4 [] (by kernel_rfl) ?_
        refine ko [29] 1 (by simp; rfl) ?_
        refine tops_nil ?_
        cases hvv1
        exact ⟨_, rfl, wk (by simp [weak_iff])⟩
      · rw [if_neg (by rw [c15]; decide)] at hvv1
        refine ko [1, 3, 18] 6 (by simp; rfl) ?_
        refine tops_split 18 (decide (((a0.Consumers).length : Int) < 1)) (by simp) (fun c16 => ?_) (fun c16 => ?_)
        · rw [if_pos c16] at hvv1
          refine kskip 4 [] (by kernel_rfl) ?_
          refine ko [1, 3, 24] 2 (by simp; rfl) ?_
          refine kskip 4 [] (by kernel_rfl) ?_
          refine ko [29] 1 (by simp; rfl) ?_
          refine tops_nil ?_
          cases hvv1
          exact ⟨_, rfl, wk (by simp [weak_iff])⟩
        · rw [if_neg (by rw [c16]; decide)] at hvv1
          refine ko [1, 3, 24] 6 (by simp; rfl) ?_
          refine tops_split 24 (decide (8 < ((a0.Consumers).length : Int))) (by simp) (fun c17 => ?_) (fun c17 => ?_)
          · rw [if_pos c17] at hvv1
            refine kskip 4 [] (by kernel_rfl) ?_
            refine ko [29] 1 (by simp; rfl) ?_
            refine tops_nil ?_
            cases hvv1
            exact ⟨_, rfl, wk (by simp [weak_iff])⟩
          · rw [if_neg (by rw [c17]; decide)] at hvv1
            refine ko [24, 26, 27] 3 (by simp; rfl) ?_
            replace hvv1 := bnd hvv1; obtain ⟨y2, hy2, hvv1⟩ := hvv1
            refine kcall [24, 28] [] (slices_ContainsFunc_api_Consumer_at_fleet_Check_1_ok hy2) rfl rfl rfl Try.call79 (by simp) (by simp; rfl) ?_
            refine ko [29] 1 (by simp; rfl) ?_
            refine tops_nil ?_
            cases hvv1
            exact ⟨_, rfl, wk (by simp [weak_iff])⟩
    · rw [if_neg (by rw [c14]; decide)] at hvv1
      refine kskip 3 [] (by kernel_rfl) ?_
      refine ko [1, 3, 18] 8 (by simp; rfl) ?_
      refine tops_split 18 (decide (((a0.Consumers).length : Int) < 1)) (by simp) (fun c18 => ?_) (fun c18 => ?_)
      · rw [if_pos c18] at hvv1
        refine kskip 4 [] (by kernel_rfl) ?_
        refine ko [1, 3, 24] 2 (by simp; rfl) ?_
        refine kskip 4 [] (by kernel_rfl) ?_
        refine ko [29] 1 (by simp; rfl) ?_
        refine tops_nil ?_
        cases hvv1
        exact ⟨_, rfl, wk (by simp [weak_iff])⟩
      · rw [if_neg (by rw [c18]; decide)] at hvv1
        refine ko [1, 3, 24] 6 (by simp; rfl) ?_
        refine tops_split 24 (decide (8 < ((a0.Consumers).length : Int))) (by simp) (fun c19 => ?_) (fun c19 => ?_)
        · rw [if_pos c19] at hvv1
          refine kskip 4 [] (by kernel_rfl) ?_
          refine ko [29] 1 (by simp; rfl) ?_
          refine tops_nil ?_
          cases hvv1
          exact ⟨_, rfl, wk (by simp [weak_iff])⟩
        · rw [if_neg (by rw [c19]; decide)] at hvv1
          refine ko [24, 26, 27] 3 (by simp; rfl) ?_
          replace hvv1 := bnd hvv1; obtain ⟨y3, hy3, hvv1⟩ := hvv1
          refine kcall [24, 28] [] (slices_ContainsFunc_api_Consumer_at_fleet_Check_1_ok hy3) rfl rfl rfl Try.call79 (by simp) (by simp; rfl) ?_
          refine ko [29] 1 (by simp; rfl) ?_
          refine tops_nil ?_
          cases hvv1
          exact ⟨_, rfl, wk (by simp [weak_iff])⟩
set_option maxHeartbeats 1000000 in
theorem fleet_bits_ok {a0 : Int} {a1 : Int} {a2 : Bool} {r : Bool} (h0 : fleet_bits a0 a1 a2 = some r) : FnOK Try.prog 65 [] [.d (.int .i64 a0), .d (.int .i64 a1), .d (.bool a2)] (.d (.bool r)) [] := by
  unfold fleet_bits at h0
  refine fn_ok (nt := 26) (rs := [.tmp 6]) Try.func65 rfl Try.ntmps65 rfl (by simp) (by decide) rfl fun K => ?_
  refine kr [0, 1, 2] (by simp; rfl) ?_
  replace h0 := bnd h0; obtain ⟨v1, hvv1, h0⟩ := h0
  refine sjv (fun v1_ : Bool => ({ nt := 26, env := [(6, .d (.bool v1_))], box := [], vec := [] } : St)) (fun v1_ => v1 = v1_) (fun v1_ e => ?_) ?_
  · subst e
    cases h0
    exact tr_ret ⟨[], by simp, rfl, by simp⟩
  · refine kc1 ?_
    refine ko [0, 1, 2, 9] 3 (by simp; rfl) ?_
    refine tops_split 9 (decide (0 < a0)) (by simp) (fun c9 => ?_) (fun c9 => ?_)
    · rw [c9] at hvv1
      refine ko [0, 1, 2, 13] 4 (by simp; rfl) ?_
      refine tops_split 13 (decide (a0 ≤ 3)) (by simp) (fun c10 => ?_) (fun c10 => ?_)
      · rw [c10] at hvv1
        refine ko [0, 2, 19] 6 (by simp; rfl) ?_
        refine tops_split 19 ((bAndNot .i64 a0 a1) == 0) (by simp) (fun c11 => ?_) (fun c11 => ?_)
        · rw [c11] at hvv1
          refine ko [0, 19, 21] 2 (by simp; rfl) ?_
          refine tops_split 21 a2 (by simp) (fun c12 => ?_) (fun c12 => ?_)
          · rw [c12] at hvv1
            refine ko [6] 5 (by simp; rfl) ?_
            refine tops_nil ?_
            cases hvv1
            exact ⟨_, rfl, wk (by simp [weak_iff])⟩
          · rw [c12] at hvv1
            refine ko [6] 5 (by simp; rfl) ?_
            refine tops_nil ?_
            cases hvv1
            exact ⟨_, rfl, wk (by simp [weak_iff])⟩
        · rw [c11] at hvv1
          refine kskip 5 [] (by kernel_rfl) ?_
          refine ko [6] 2 (by simp; rfl) ?_
          refine tops_nil ?_
          cases hvv1
          exact ⟨_, rfl, wk (by simp [weak_iff])⟩
      · rw [c10] at hvv1
        refine kskip 4 [] (by kernel_rfl) ?_
        refine ko [0, 2, 19] 2 (by simp; rfl) ?_
        refine kskip 5 [] (by kernel_rfl) ?_
        refine ko [6] 2 (by simp; rfl) ?_
        refine tops_nil ?_
        cases hvv1
        exact ⟨_, rfl, wk (by simp [weak_iff])⟩
    · rw [c9] at hvv1
      refine ko [0, 1, 2, 13] 4 (by simp; rfl) ?_
      refine kskip 4 [] (by kernel_rfl) ?_
      refine ko [0, 2, 19] 2 (by simp; rfl) ?_
      refine kskip 5 [] (by kernel_rfl) ?_
      refine ko [6] 2 (by simp; rfl) ?_
      refine tops_nil ?_
      cases hvv1
      exact ⟨_, rfl, wk (by simp [weak_iff])⟩
set_option maxHeartbeats 1000000 in
theorem fleet_unit_ok {a0 : api_Consumer} {a1 : api_Unit} {a2 : Int} {r : Bool} (h0 : fleet_unit a0 a1 a2 = some r) : FnOK Try.prog 66 [] [.agg (api_Consumer_av a0), .agg (api_Unit_av a1), .d (.int .i64 a2)] (.d (.bool r)) [] := by
  unfold fleet_unit at h0
  refine fn_ok (nt := 38) (rs := [.tmp 6]) Try.func66 rfl Try.ntmps66 rfl (by simp) (by decide) rfl fun K => ?_
  refine kr [2, 3, 4] (by simp; rfl) ?_
  refine tr_seq ?_
  refine kc ?_
  refine ko [2, 3, 4, 8, 9, 11] 5 (by simp; rfl) ?_
  replace h0 := bnd h0; obtain ⟨y1, hy1, h0⟩ := h0
  refine kcall [2, 3, 4, 12] [] (fleet_bits_ok hy1) rfl rfl rfl Try.call65 (by simp) (by simp; rfl) ?_
  refine ko [2, 3, 4, 13] 1 (by simp; rfl) ?_
  refine tops_nil ?_
  refine tr_cond (b := (!y1)) (by simp) (fun c1 => ?_) (fun c1 => ?_)
  · rw [if_pos c1] at h0
    refine kr [6] (by simp; rfl) ?_
    cases h0
    exact tr_ret ⟨[], by simp, rfl, by simp⟩
  · rw [if_neg (by rw [c1]; decide)] at h0
    refine tr_skip ?_
    refine tr_seq ?_
    refine kr [2, 3, 4, 16] (by simp; rfl) ?_
    refine tr_cond (b := (!a1.Up)) (by simp) (fun c2 => ?_) (fun c2 => ?_)
    · rw [if_pos c2] at h0
      refine kr [6] (by simp; rfl) ?_
      cases h0
      exact tr_ret ⟨[], by simp, rfl, by simp⟩
    · rw [if_neg (by rw [c2]; decide)] at h0
      refine tr_skip ?_
      replace h0 := bnd h0; obtain ⟨v2, hvv2, h0⟩ := h0
      refine sjv (fun v2_ : Bool => ({ nt := 38, env := [(6, .d (.bool v2_))], box := [], vec := [] } : St)) (fun v2_ => v2 = v2_) (fun v2_ e => ?_) ?_
      · subst e
        cases h0
        exact tr_ret ⟨[], by simp, rfl, by simp⟩
      · refine kc1 ?_
        refine ko [3, 4, 21, 22, 24] 5 (by simp; rfl) ?_
        replace hvv2 := bnd hvv2; obtain ⟨y3, hy3, hvv2⟩ := hvv2
        refine kcall [3, 4, 25] [] (fleet_bits_ok hy3) rfl rfl rfl Try.call65 (by simp) (by simp; rfl) ?_
        refine ko [3, 4, 26] 1 (by simp; rfl) ?_
        refine tops_split 26 y3 (by simp) (fun c7 => ?_) (fun c7 => ?_)
        · rw [if_pos c7] at hvv2
          refine ko [4, 26, 30] 4 (by simp; rfl) ?_
          refine tops_split 30 (!a0.Live) (by simp) (fun c8 => ?_) (fun c8 => ?_)
          · rw [if_pos c8] at hvv2
            refine kskip 5 [] (by kernel_rfl) ?_
            refine ko [6] 3 (by simp; rfl) ?_
            refine tops_nil ?_
            cases hvv2
            exact ⟨_, rfl, wk (by simp [weak_iff])⟩
          · rw [if_neg (by rw [c8]; decide)] at hvv2
            refine ko [6] 8 (by simp; rfl) ?_
            refine tops_nil ?_
            cases hvv2
            exact ⟨_, rfl, wk (by simp [weak_iff])⟩
        · rw [if_neg (by rw [c7]; decide)] at hvv2
          refine kskip 10 [] (by kernel_rfl) ?_
          refine ko [6] 2 (by simp; rfl) ?_
          refine tops_nil ?_
          cases hvv2
          exact ⟨_, rfl, wk (by simp [weak_iff])⟩
set_option maxHeartbeats 1000000 in
theorem fleet_Right_ok {a0 : api_Fleet} {a1 : api_Rotation} {r : Bool} (h0 : fleet_Right a0 a1 = some r) : FnOK Try.prog 49 [] [.agg (api_Fleet_av a0), .agg (api_Rotation_av a1)] (.d (.bool r)) [] := by
  unfold fleet_Right at h0
  refine fn_ok (nt := 59) (rs := [.tmp 4]) Try.func49 rfl Try.ntmps49 rfl (by simp) (by decide) rfl fun K => ?_
  refine kr [2, 3] (by simp; rfl) ?_
  refine tr_seq ?_
  replace h0 := bnd h0; obtain ⟨v1, hvv1, h0⟩ := h0
  refine sjv (fun v1_ : Bool => ({ nt := 59, env := [(2, .ptr 2 0), (3, .ptr 3 0), (39, .d (.bool v1_))], box := [(2, [.d (.int .i64 a0.Slots), .d (.slice (rowsF api_Consumer_row a0.Consumers))]), (3, [.d (.int .i64 a1.Known), .d (.int .i64 a1.Valid), .d (.slice (rowsF api_Unit_row a1.Units))])], vec := [] } : St)) (fun v1_ => v1 = v1_) (fun v1_ e => ?_) ?_
  · subst e
    refine tr_cond (b := v1) (by simp) (fun c11 => ?_) (fun c11 => ?_)
    · rw [if_pos c11] at h0
      refine kr [4] (by simp; rfl) ?_
      cases h0
      exact tr_ret ⟨[], by simp, rfl, by simp⟩
    · rw [if_neg (by rw [c11]; decide)] at h0
      refine tr_skip ?_
      refine tr_seq ?_
      refine kr [2, 3, 41, 42, 43] (by simp; rfl) ?_
      replace h0 := bnd h0; obtain ⟨e1, hI1, h0⟩ := h0
      refine tjv (fun v2 : Unit => ({ nt := 59, env := [], box := [], vec := [] } : St)) (fun v2 => .inl v2 = e1) (fun v2 hI1e _ W1 => ?_) ?_
      · subst hI1e
        dsimp only at h0
        refine tr_wk W1 ?_
        refine kr [4] (by simp; rfl) ?_
        cases h0
        exact tr_ret ⟨[], by simp, rfl, by simp⟩
      · refine tr_block (tr_iter (fun s3 : Int => ({ nt := 59, env := [(2, .ptr 2 0), (3, .ptr 3 0), (41, .d (.slice (rowsF api_Unit_row a1.Units))), (42, .d (.int .i64 ((a1.Units).length : Int))), (43, .d (.int .i64 s3))], box := [(2, [.d (.int .i64 a0.Slots), .d (.slice (rowsF api_Consumer_row a0.Consumers))]), (3, [.d (.int .i64 a1.Known), .d (.int .i64 a1.Valid), .d (.slice (rowsF api_Unit_row a1.Units))])], vec := [] } : St)) hI1 (wk (by simp [weak_iff])) fun G1 s3 o1 h1 hg1 he1 => ?_)
        unfold fleet_Right_l0 at h1
        refine kr [2, 3, 41, 42, 43, 44] (by simp; rfl) ?_
        refine tr_seq ?_
        refine tr_cond (b := (decide (s3 < ((a1.Units).length : Int)))) (by simp) (fun c16 => ?_) (fun c16 => ?_)
        · rw [if_pos c16] at h1
          refine tr_skip ?_
          refine tr_seq ?_
          refine tr_block ?_
          replace h1 := bnd h1; obtain ⟨x4, p9, h1⟩ := h1
          replace p9 := idx_some p9
          have p9' := p9; try simp at p9'
          refine kr [2, 3, 5, 6, 41, 42, 43] (by simp [p9, p9']; rfl) ?_
          refine kd [[], [0], [], [1, 2], [3], [], [], [6], [4, 5, 7], [8]] [] [] none [] 10 fol (by decide +kernel) (by simp) ?_
          replace h1 := bnd h1; obtain ⟨x5, p12, h1⟩ := h1
          replace p12 := idx_some p12
          have p12' := p12; try simp at p12'
          refine dr_go 0 2 rfl (by simp (maxSteps := 1000000) [p12, p12']; rfl) ?_
          refine dr_go 2 2 rfl (by simp (maxSteps := 1000000) [p12, p12']; rfl) ?_
          refine dr_go 4 2 rfl (by simp (maxSteps := 1000000) [p12, p12']; rfl) ?_
          refine dr_go 6 2 rfl (by simp (maxSteps := 1000000) [p12, p12']; rfl) ?_
          replace h1 := bnd h1; obtain ⟨y6, hy6, h1⟩ := h1
          refine dr_call 8 [] (fleet_unit_ok hy6) rfl rfl rfl rfl rfl Try.call66 (by simp) ?_
          refine dr_go 9 1 rfl (by simp (maxSteps := 1000000); rfl) ?_
          refine dr_end rfl (tops_nil ?_)
          refine tr_cond (b := (!y6)) (by simp) (fun c17 => ?_) (fun c17 => ?_)
          · rw [if_pos c17] at h1
            refine kr [4] (by simp; rfl) ?_
            have k1 := he1 _ (Option.some.inj h1)
            subst k1
            dsimp only at h0
            cases h0
            exact tr_ret ⟨[], by simp, rfl, by simp⟩
          · rw [if_neg (by rw [c17]; decide)] at h1
            refine tr_skip ?_
            refine lr (by simp; rfl) ?_
            exact ⟨_, hg1 _ (Option.some.inj h1), wk (by simp [weak_iff])⟩
        · rw [if_neg (by rw [c16]; decide)] at h1
          refine tr_exit ?_
          exact ⟨_, he1 _ (Option.some.inj h1), wk (by simp [weak_iff])⟩
  · refine kc1 ?_
    refine ko [2, 3, 7] 1 (by simp; rfl) ?_
    replace hvv1 := bnd hvv1; obtain ⟨y9, hy9, hvv1⟩ := hvv1
    refine kcall [2, 3, 8] [] (fleet_Check_ok hy9) rfl rfl rfl Try.call62 (by simp) (by simp; rfl) ?_
    refine ko [2, 3, 10] 2 (by simp; rfl) ?_
    refine tops_split 10 (y9 != 0) (by simp) (fun c18 => ?_) (fun c18 => ?_)
    · rw [if_pos c18] at hvv1
      refine kskip 8 [] (by kernel_rfl) ?_
      refine ko [2, 3, 20] 2 (by simp; rfl) ?_
      refine kskip 9 [] (by kernel_rfl) ?_
      refine ko [2, 3, 31] 2 (by simp; rfl) ?_
      refine kskip 7 [] (by kernel_rfl) ?_
      refine ko [2, 3, 39] 1 (by simp; rfl) ?_
      refine tops_nil ?_
      cases hvv1
      exact ⟨_, rfl, wk (by simp [weak_iff])⟩
    · rw [if_neg (by rw [c18]; decide)] at hvv1
      refine ko [2, 3, 10, 14] 4 (by simp; rfl) ?_
      refine tops_split 14 (a1.Known != 1) (by simp) (fun c19 => ?_) (fun c19 => ?_)
      · rw [if_pos c19] at hvv1
        refine ko [2, 3, 20] 6 (by simp; rfl) ?_
        refine tops_split 20 (a1.Known != 3) (by simp) (fun c20 => ?_) (fun c20 => ?_)
        · rw [if_pos c20] at hvv1
          refine kskip 9 [] (by kernel_rfl) ?_
          refine ko [2, 3, 31] 2 (by simp; rfl) ?_
          refine kskip 7 [] (by kernel_rfl) ?_
          refine ko [2, 3, 39] 1 (by simp; rfl) ?_
          refine tops_nil ?_
          cases hvv1
          exact ⟨_, rfl, wk (by simp [weak_iff])⟩
        · rw [if_neg (by rw [c20]; decide)] at hvv1
          refine ko [2, 3, 20, 22, 24, 27] 7 (by simp; rfl) ?_
          replace hvv1 := bnd hvv1; obtain ⟨y10, hy10, hvv1⟩ := hvv1
          refine kcall [2, 3, 20, 28] [] (fleet_bits_ok hy10) rfl rfl rfl Try.call65 (by simp) (by simp; rfl) ?_
          refine ko [2, 3, 31] 3 (by simp; rfl) ?_
          refine tops_split 31 (!y10) (by simp) (fun c21 => ?_) (fun c21 => ?_)
          · rw [if_pos c21] at hvv1
            refine kskip 7 [] (by kernel_rfl) ?_
            refine ko [2, 3, 39] 1 (by simp; rfl) ?_
            refine tops_nil ?_
            cases hvv1
            exact ⟨_, rfl, wk (by simp [weak_iff])⟩
          · rw [if_neg (by rw [c21]; decide)] at hvv1
            refine ko [2, 3, 39] 8 (by simp; rfl) ?_
            refine tops_nil ?_
            cases hvv1
            exact ⟨_, rfl, wk (by simp [weak_iff])⟩
      · rw [if_neg (by rw [c19]; decide)] at hvv1
        refine kskip 3 [] (by kernel_rfl) ?_
        refine ko [2, 3, 20, 22, 24, 27] 10 (by simp; rfl) ?_
        replace hvv1 := bnd hvv1; obtain ⟨y11, hy11, hvv1⟩ := hvv1
        refine kcall [2, 3, 20, 28] [] (fleet_bits_ok hy11) rfl rfl rfl Try.call65 (by simp) (by simp; rfl) ?_
        refine ko [2, 3, 31] 3 (by simp; rfl) ?_
        refine tops_split 31 (!y11) (by simp) (fun c22 => ?_) (fun c22 => ?_)
        · rw [if_pos c22] at hvv1
          refine kskip 7 [] (by kernel_rfl) ?_
          refine ko [2, 3, 39] 1 (by simp; rfl) ?_
          refine tops_nil ?_
          cases hvv1
          exact ⟨_, rfl, wk (by simp [weak_iff])⟩
        · rw [if_neg (by rw [c22]; decide)] at hvv1
          refine ko [2, 3, 39] 8 (by simp; rfl) ?_
          refine tops_nil ?_
          cases hvv1
          exact ⟨_, rfl, wk (by simp [weak_iff])⟩
set_option maxHeartbeats 1000000 in
theorem slices_Clone_api_Unit_own0_ok {a0 : List api_Unit} {r : List api_Unit} (h0 : slices_Clone_api_Unit_own0 a0 = some r) : FnOKv Try.prog 83 [] [] [.d (.slice (rowsF api_Unit_row a0))] (.vec (InV 0)) [] [⟨53, 3, rowsF api_Unit_row r⟩] := by
  unfold slices_Clone_api_Unit_own0 at h0
  replace h0 := bnd h0; obtain ⟨_, p1, h0⟩ := h0; replace p1 := ck_some p1; cases h0
  refine fn_okv (nt := 8) (rs := [.tmp 2]) Try.func83 rfl Try.ntmps83 rfl (by simp) (by decide) rfl fun K => ?_
  refine kr [0, 2] (by simp; rfl) ?_
  cases a0 with
  | nil => simp at p1
  | cons x l =>
    refine tr_seq ?_
    refine kr [0, 4] (by simp; rfl) ?_
    refine tr_cond (b := false) (by simp) (fun h => by cases h) (fun _ => ?_)
    refine tr_skip ?_
    have p2 := p1; simp at p2
    refine kr [2] (by simp [p1, p2]; rfl) ?_
    exact tr_ret ⟨[], [7], by simp, by simp, by simp, by simp, by simp⟩
set_option maxHeartbeats 1000000 in
theorem fleet_Copy_own2_ok {a0 : api_Rotation} {r : api_Rotation} (h0 : fleet_Copy_own2 a0 = some r) : FnOKv Try.prog 68 [] [] [.agg (api_Rotation_av a0)] (.agg [.d (.int .i64 r.Known), .d (.int .i64 r.Valid), .vec (InV 0)]) [] [⟨53, 3, rowsF api_Unit_row r.Units⟩] := by
  unfold fleet_Copy_own2 at h0
  refine fn_okv (nt := 8) (rs := [.cell 2 33]) Try.func68 rfl Try.ntmps68 rfl (by simp) (by decide) rfl fun K => ?_
  refine kr [1, 2] (by simp; rfl) ?_
  refine kc ?_
  refine ko [1, 2, 4] 2 (by simp; rfl) ?_
  replace h0 := bnd h0; obtain ⟨y1, hy1, h0⟩ := h0
  refine kcallV [1, 2, 5] [] [] [600020] (slices_Clone_api_Unit_own0_ok hy1) rfl rfl rfl Try.call83 (by simp) (by simp; rfl) ?_
  refine ko [1, 2] 2 (by simp; rfl) ?_
  refine tops_nil ?_
  refine kr [2] (by simp; rfl) ?_
  cases h0
  exact tr_ret ⟨[], [600020], by simp, by simp, by simp, by simp, by simp⟩
set_option maxHeartbeats 1000000 in
theorem steps_change_el1_2_ok {a0 : api_Consumer} {g1 : api_Rotation} {a1 : Int} {a2 : Int} {a3 : Bool} {r : Bool × api_Rotation} (h0 : steps_change_el1_2 a0 g1 a1 a2 a3 = some r) : FnOKv Try.prog 84 [[.d (.int .i64 g1.Known), .d (.int .i64 g1.Valid), .vec (InV 0)]] [⟨53, 3, rowsF api_Unit_row g1.Units⟩] [.agg (api_Consumer_av a0), .vptr (InV 0) 3 (Int.toNat a1) 0, .d (.int .i64 a2), .d (.bool a3)] (.d (.bool r.1)) [[.d (.int .i64 r.2.Known), .d (.int .i64 r.2.Valid), .vec (InV 0)]] [⟨53, 3, rowsF api_Unit_row r.2.Units⟩] := by
  unfold steps_change_el1_2 at h0
  refine fn_okv (nt := 86) (rs := [.tmp 8]) Try.func84 rfl Try.ntmps84 rfl (by simp) (by decide) rfl fun K => ?_
  refine kr [1, 2, 3, 4] (by simp; rfl) ?_
  refine kr [1, 2, 3, 4, 9] (by simp; rfl) ?_
  refine sjv (fun v1 : Bool × (List api_Unit) => ({ nt := 86, env := [(1, .vptr 2000000 3 (Int.toNat a1) 0), (4, .ptr 4 0), (9, .d (.bool v1.1))], box := [(4, [.d (.int .i64 a0.Pool), .d (.bool a0.Dual), .d (.bool a0.Live)]), (1000000, [.d (.int .i64 g1.Known), .d (.int .i64 g1.Valid), .vec 2000000])], vec := [(2000000, ⟨53, 3, rowsF api_Unit_row v1.2⟩)] } : St)) (fun v1 => steps_change_el1_2_j0 a0 a1 g1 v1 = some r) (fun v1 h0 => ?_) ?_
  · unfold steps_change_el1_2_j0 at h0
    refine tr_seq ?_
    replace h0 := bnd h0; obtain ⟨v2, hvv2, h0⟩ := h0
    refine sjv (fun v2_ : Bool => ({ nt := 86, env := [(1, .vptr 2000000 3 (Int.toNat a1) 0), (9, .d (.bool v1.1)), (77, .d (.bool v2_))], box := [(1000000, [.d (.int .i64 g1.Known), .d (.int .i64 g1.Valid), .vec 2000000])], vec := [(2000000, ⟨53, 3, rowsF api_Unit_row v1.2⟩)] } : St)) (fun v2_ => v2 = v2_) (fun v2_ e => ?_) ?_
    · subst e
      refine tr_cond (b := v2) (by simp) (fun c9 => ?_) (fun c9 => ?_)
      · rw [if_pos c9] at h0
        replace h0 := bnd h0; obtain ⟨x3, p8, h0⟩ := h0
        replace p8 := idx_some p8
        have p8' := p8; try simp at p8'
        refine lr (by simp [-getElem?_pos, List.getElem?_cons_zero, List.getElem?_cons_succ, p8, (List.getElem?_eq_some_iff.1 p8.2).1, p8']; rfl) ?_
        refine kr [8] (by simp; rfl) ?_
        cases h0
        exact tr_ret ⟨[], [2000000], by simp, by simp, by simp, by simp, by simp⟩
      · rw [if_neg (by rw [c9]; decide)] at h0
        refine tr_skip ?_
        refine kr [8] (by simp; rfl) ?_
        cases h0
        exact tr_ret ⟨[], [2000000], by simp, by simp, by simp, by simp, by simp⟩
    · refine kc1 ?_
      refine ko [1, 9, 72] 3 (by simp; rfl) ?_
      refine tops_split 72 a0.Live (by simp) (fun c10 => ?_) (fun c10 => ?_)
      · rw [if_pos c10] at hvv2
        replace hvv2 := bnd hvv2; obtain ⟨x4, p9, hvv2⟩ := hvv2
        replace p9 := idx_some p9
        have p9' := p9; try simp at p9'
        refine ko [1, 9, 77] 5 (by simp [p9, p9']; rfl) ?_
        refine tops_nil ?_
        cases hvv2
        exact ⟨_, rfl, wk (by simp [weak_iff])⟩
      · rw [if_neg (by rw [c10]; decide)] at hvv2
        refine kskip 4 [] (by kernel_rfl) ?_
        refine ko [1, 9, 77] 1 (by simp; rfl) ?_
        refine tops_nil ?_
        cases hvv2
        exact ⟨_, rfl, wk (by simp [weak_iff])⟩
  · refine kr [1, 3, 4, 9, 10] (by simp; rfl) ?_
    refine tr_block ?_
    refine kr [1, 3, 4, 9, 10, 11] (by simp; rfl) ?_
    refine tr_cond (b := (a2 == 4)) (by simp) (fun c11 => ?_) (fun c11 => ?_)
    · rw [if_pos c11] at h0
      replace h0 := bnd h0; obtain ⟨v5, hvv5, h0⟩ := h0
      refine sjv (fun v5_ : Bool => ({ nt := 86, env := [(1, .vptr 2000000 3 (Int.toNat a1) 0), (4, .ptr 4 0), (9, .d (.bool v5_))], box := [(4, [.d (.int .i64 a0.Pool), .d (.bool a0.Dual), .d (.bool a0.Live)]), (1000000, [.d (.int .i64 g1.Known), .d (.int .i64 g1.Valid), .vec 2000000])], vec := [(2000000, ⟨53, 3, rowsF api_Unit_row g1.Units⟩)] } : St)) (fun v5_ => v5 = v5_) (fun v5_ e => ?_) ?_
      · subst e
        replace h0 := bnd h0; obtain ⟨x6, p12, h0⟩ := h0
        replace p12 := idx_some p12
        have p12' := p12; try simp at p12'
        refine kr [1, 4, 9] (by simp [-getElem?_pos, List.getElem?_cons_zero, List.getElem?_cons_succ, p12, (List.getElem?_eq_some_iff.1 p12.2).1, p12']; rfl) ?_
        refine kr [1, 4, 9, 25] (by simp; rfl) ?_
        refine tr_cond (b := a0.Dual) (by simp) (fun c14 => ?_) (fun c14 => ?_)
        · rw [if_pos c14] at h0
          refine lr (by simp [-getElem?_pos, List.getElem?_cons_zero, List.getElem?_cons_succ, p12, (List.getElem?_eq_some_iff.1 p12.2).1, p12']; rfl) ?_
          exact ⟨_, h0, wk (by simp [weak_iff])⟩
        · rw [if_neg (by rw [c14]; decide)] at h0
          refine tr_skip ?_
          exact ⟨_, h0, wk (by simp [weak_iff])⟩
      · refine kc1 ?_
        refine ko [1, 4, 14] 2 (by simp; rfl) ?_
        refine tops_split 14 a3 (by simp) (fun c15 => ?_) (fun c15 => ?_)
        · rw [if_pos c15] at hvv5
          replace hvv5 := bnd hvv5; obtain ⟨x7, p13, hvv5⟩ := hvv5
          replace p13 := idx_some p13
          have p13' := p13; try simp at p13'
          refine ko [1, 4, 9] 7 (by simp [p13, p13']; rfl) ?_
          refine tops_nil ?_
          cases hvv5
          exact ⟨_, rfl, wk (by simp [weak_iff])⟩
        · rw [if_neg (by rw [c15]; decide)] at hvv5
          refine kskip 5 [] (by kernel_rfl) ?_
          refine ko [1, 4, 9] 2 (by simp; rfl) ?_
          refine tops_nil ?_
          cases hvv5
          exact ⟨_, rfl, wk (by simp [weak_iff])⟩
    · rw [if_neg (by rw [c11]; decide)] at h0
      refine kr [1, 4, 9, 10, 29] (by simp; rfl) ?_
      refine tr_cond (b := (a2 == 7)) (by simp) (fun c16 => ?_) (fun c16 => ?_)
      · rw [if_pos c16] at h0
        replace h0 := bnd h0; obtain ⟨x8, p14, h0⟩ := h0
        replace p14 := idx_some p14
        have p14' := p14; try simp at p14'
        refine kr [1, 4, 9] (by simp [p14, p14']; rfl) ?_
        refine lr (by simp [-getElem?_pos, List.getElem?_cons_zero, List.getElem?_cons_succ, p14, (List.getElem?_eq_some_iff.1 p14.2).1, p14']; rfl) ?_
        exact ⟨_, h0, wk (by simp [weak_iff])⟩
      · rw [if_neg (by rw [c16]; decide)] at h0
        refine kr [1, 4, 9, 10, 39] (by simp; rfl) ?_
        refine tr_cond (b := (a2 == 5)) (by simp) (fun c17 => ?_) (fun c17 => ?_)
        · rw [if_pos c17] at h0
          replace h0 := bnd h0; obtain ⟨x9, p15, h0⟩ := h0
          replace p15 := idx_some p15
          have p15' := p15; try simp at p15'
          refine kr [1, 9] (by simp [p15, p15']; rfl) ?_
          refine kr [9] (by simp [-getElem?_pos, List.getElem?_cons_zero, List.getElem?_cons_succ, p15, (List.getElem?_eq_some_iff.1 p15.2).1, p15']; rfl) ?_
          refine kr [8] (by simp; rfl) ?_
          cases h0
          exact tr_ret ⟨[], [2000000], by simp, by simp, by simp, by simp, by simp⟩
        · rw [if_neg (by rw [c17]; decide)] at h0
          refine kr [1, 4, 9, 52] (by simp; rfl) ?_
          refine tr_cond (b := (a2 == 6)) (by simp) (fun c18 => ?_) (fun c18 => ?_)
          · rw [if_pos c18] at h0
            replace h0 := bnd h0; obtain ⟨x10, p16, h0⟩ := h0
            replace p16 := idx_some p16
            have p16' := p16; try simp at p16'
            refine kr [1, 9] (by simp [p16, p16']; rfl) ?_
            refine kr [9] (by simp [-getElem?_pos, List.getElem?_cons_zero, List.getElem?_cons_succ, p16, (List.getElem?_eq_some_iff.1 p16.2).1, p16']; rfl) ?_
            refine kr [8] (by simp; rfl) ?_
            cases h0
            exact tr_ret ⟨[], [2000000], by simp, by simp, by simp, by simp, by simp⟩
          · rw [if_neg (by rw [c18]; decide)] at h0
            refine tr_skip ?_
            exact ⟨_, h0, wk (by simp [weak_iff])⟩
set_option maxHeartbeats 1000000 in
theorem steps_step_o1_2_ok {a0 : api_Fleet} {a1 : api_Rotation} {a2 : api_Step} {r : Bool × api_Rotation} (h0 : steps_step_o1_2 a0 a1 a2 = some r) : FnOKv Try.prog 69 [[.d (.int .i64 a1.Known), .d (.int .i64 a1.Valid), .vec (InV 0)]] [⟨53, 3, rowsF api_Unit_row a1.Units⟩] [.agg (api_Fleet_av a0), .ptr (InO 0) 0, .agg (api_Step_av a2)] (.d (.bool r.1)) [[.d (.int .i64 r.2.Known), .d (.int .i64 r.2.Valid), .vec (InV 0)]] [⟨53, 3, rowsF api_Unit_row r.2.Units⟩] := by
  unfold steps_step_o1_2 at h0
  refine fn_okv (nt := 91) (rs := [.tmp 6]) Try.func69 rfl Try.ntmps69 rfl (by simp) (by decide) rfl fun K => ?_
  refine kr [1, 3, 5] (by simp; rfl) ?_
  refine kr [1, 3, 5, 7] (by simp; rfl) ?_
  refine tr_seq ?_
  refine kr [1, 3, 5, 7, 18] (by simp; rfl) ?_
  refine tr_block ?_
  refine kr [1, 3, 5, 7, 18, 19] (by simp; rfl) ?_
  refine tr_cond (b := (a2.Kind == 1)) (by simp) (fun c1 => ?_) (fun c1 => ?_)
  · rw [if_pos c1] at h0
    refine kr [7] (by simp; rfl) ?_
    refine kr [6] (by simp; rfl) ?_
    cases h0
    exact tr_ret ⟨[], [2000000], by simp, by simp, by simp, by simp, by simp⟩
  · rw [if_neg (by rw [c1]; decide)] at h0
    refine kr [1, 3, 5, 7, 18, 30] (by simp; rfl) ?_
    refine tr_cond (b := (a2.Kind == 2)) (by simp) (fun c2 => ?_) (fun c2 => ?_)
    · rw [if_pos c2] at h0
      replace h0 := bnd h0; obtain ⟨v1, hvv1, h0⟩ := h0
      refine sjv (fun v1_ : Bool => ({ nt := 91, env := [(1, .ptr 1000000 0), (8, .d (.bool v1_))], box := [(1000000, [.d (.int .i64 a1.Known), .d (.int .i64 a1.Valid), .vec 2000000])], vec := [(2000000, ⟨53, 3, rowsF api_Unit_row a1.Units⟩)] } : St)) (fun v1_ => v1 = v1_) (fun v1_ e => ?_) ?_
      · subst e
        refine kr [8] (by simp; rfl) ?_
        refine kr [6] (by simp; rfl) ?_
        cases h0
        exact tr_ret ⟨[], [2000000], by simp, by simp, by simp, by simp, by simp⟩
      · refine kc1 ?_
        refine ko [1, 3, 33] 2 (by simp; rfl) ?_
        refine tops_split 33 ((bAnd .i64 a1.Known 2) != 0) (by simp) (fun c7 => ?_) (fun c7 => ?_)
        · rw [c7] at hvv1
          refine ko [1, 3, 40] 7 (by simp; rfl) ?_
          refine tops_split 40 (a1.Valid == 1) (by simp) (fun c8 => ?_) (fun c8 => ?_)
          · rw [c8] at hvv1
            refine ko [1, 8] 5 (by simp; rfl) ?_
            refine tops_nil ?_
            cases hvv1
            exact ⟨_, rfl, wk (by simp [weak_iff])⟩
          · rw [c8] at hvv1
            refine kskip 3 [] (by kernel_rfl) ?_
            refine ko [1, 8] 2 (by simp; rfl) ?_
            refine tops_nil ?_
            cases hvv1
            exact ⟨_, rfl, wk (by simp [weak_iff])⟩
        · rw [c7] at hvv1
          refine kskip 5 [] (by kernel_rfl) ?_
          refine ko [1, 3, 40] 2 (by simp; rfl) ?_
          refine kskip 3 [] (by kernel_rfl) ?_
          refine ko [1, 8] 2 (by simp; rfl) ?_
          refine tops_nil ?_
          cases hvv1
          exact ⟨_, rfl, wk (by simp [weak_iff])⟩
    · rw [if_neg (by rw [c2]; decide)] at h0
      refine kr [1, 3, 5, 7, 18, 49] (by simp; rfl) ?_
      refine tr_cond (b := (a2.Kind == 3)) (by simp) (fun c9 => ?_) (fun c9 => ?_)
      · rw [if_pos c9] at h0
        replace h0 := bnd h0; obtain ⟨v2, hvv2, h0⟩ := h0
        refine sjv (fun v2_ : Bool => ({ nt := 91, env := [(1, .ptr 1000000 0), (9, .d (.bool v2_))], box := [(1000000, [.d (.int .i64 a1.Known), .d (.int .i64 a1.Valid), .vec 2000000])], vec := [(2000000, ⟨53, 3, rowsF api_Unit_row a1.Units⟩)] } : St)) (fun v2_ => v2 = v2_) (fun v2_ e => ?_) ?_
        · subst e
          refine kr [9] (by simp; rfl) ?_
          refine kr [6] (by simp; rfl) ?_
          cases h0
          exact tr_ret ⟨[], [2000000], by simp, by simp, by simp, by simp, by simp⟩
        · refine kc1 ?_
          refine ko [1, 52] 2 (by simp; rfl) ?_
          refine tops_split 52 ((bAnd .i64 a1.Known 2) != 0) (by simp) (fun c12 => ?_) (fun c12 => ?_)
          · rw [c12] at hvv2
            refine ko [1, 9] 7 (by simp; rfl) ?_
            refine tops_nil ?_
            cases hvv2
            exact ⟨_, rfl, wk (by simp [weak_iff])⟩
          · rw [c12] at hvv2
            refine kskip 5 [] (by kernel_rfl) ?_
            refine ko [1, 9] 2 (by simp; rfl) ?_
            refine tops_nil ?_
            cases hvv2
            exact ⟨_, rfl, wk (by simp [weak_iff])⟩
      · rw [if_neg (by rw [c9]; decide)] at h0
        refine kr [1, 3, 5, 7, 63] (by simp; rfl) ?_
        refine tr_cond (b := (a2.Kind == 8)) (by simp) (fun c13 => ?_) (fun c13 => ?_)
        · rw [if_pos c13] at h0
          refine kr [1, 10] (by simp; rfl) ?_
          refine kr [10] (by simp; rfl) ?_
          refine kr [6] (by simp; rfl) ?_
          cases h0
          exact tr_ret ⟨[], [2000000], by simp, by simp, by simp, by simp, by simp⟩
        · rw [if_neg (by rw [c13]; decide)] at h0
          refine tr_skip ?_
          refine kd [[], [0], [], [2], [0, 1, 2, 3], [0, 1, 2, 3, 4], [], [6], [6, 7], [6, 7, 8], [], [10], [6, 7, 8, 9, 10, 11], [], [13], [], [0, 1, 2, 3, 4, 5, 6, 7, 8, 9, 10, 11, 12, 13, 14, 15], [0, 1, 2, 3, 4, 5, 6, 7, 8, 9, 10, 11, 12, 13, 14, 15]] [] [] none [] 16 fol (by decide +kernel) (by simp) ?_
          replace h0 := bnd h0; obtain ⟨x3, p7, h0⟩ := h0
          replace p7 := idx_some p7
          have p7' := p7; try simp at p7'
          replace h0 := bnd h0; obtain ⟨_, p8, h0⟩ := h0
          replace p8 := ck_some p8
          have p8' := p8; try simp at p8'
          have p8o : a2.Unit < (((a1.Units)).length : Int) := by omega
          refine dr_go 0 2 rfl (by simp (maxSteps := 1000000) [-getElem?_pos, List.getElem?_cons_zero, List.getElem?_cons_succ, p7, p8, p8o, p7', p8']; rfl) ?_
          refine dr_go 2 2 rfl (by simp (maxSteps := 1000000) [-getElem?_pos, List.getElem?_cons_zero, List.getElem?_cons_succ, p7, p8, p8o, p7', p8']; rfl) ?_
          refine dr_go 4 2 rfl (by simp (maxSteps := 1000000) [-getElem?_pos, List.getElem?_cons_zero, List.getElem?_cons_succ, p7, p8, p8o, p7', p8']; rfl) ?_
          refine dr_go 6 2 rfl (by simp (maxSteps := 1000000) [-getElem?_pos, List.getElem?_cons_zero, List.getElem?_cons_succ, p7, p8, p8o, p7', p8']; rfl) ?_
          refine dr_go 8 2 rfl (by simp (maxSteps := 1000000) [-getElem?_pos, List.getElem?_cons_zero, List.getElem?_cons_succ, p7, p8, p8o, p7', p8']; rfl) ?_
          refine dr_go 10 2 rfl (by simp (maxSteps := 1000000) [-getElem?_pos, List.getElem?_cons_zero, List.getElem?_cons_succ, p7, p8, p8o, p7', p8']; rfl) ?_
          refine dr_go 12 2 rfl (by simp (maxSteps := 1000000) [-getElem?_pos, List.getElem?_cons_zero, List.getElem?_cons_succ, p7, p8, p8o, p7', p8']; rfl) ?_
          refine dr_go 14 2 rfl (by simp (maxSteps := 1000000) [-getElem?_pos, List.getElem?_cons_zero, List.getElem?_cons_succ, p7, p8, p8o, p7', p8']; rfl) ?_
          refine dr_end rfl ?_
          replace h0 := bnd h0; obtain ⟨y4, hy4, h0⟩ := h0
          refine kcallV [90] [1000000] [2000000] [2000000] (steps_change_el1_2_ok hy4) rfl rfl rfl Try.call84 (by simp) (by simp; rfl) ?_
          refine ko [6] 1 (by simp; rfl) ?_
          refine tops_nil ?_
          cases h0
          exact tr_ret ⟨[], [2000000], by simp, by simp, by simp, by simp, by simp⟩
set_option maxHeartbeats 1000000 in
theorem steps_Apply_ok {a0 : api_Fleet} {a1 : api_Rotation} {a2 : api_Step} {r : api_Rotation × Int} (h0 : steps_Apply a0 a1 a2 = some r) : FnOK Try.prog 52 [] [.agg (api_Fleet_av a0), .agg (api_Rotation_av a1), .agg (api_Step_av a2)] (.tup [.agg (api_Rotation_av r.1), .d (.int .i64 r.2)]) [] := by
  unfold steps_Apply at h0
  refine fn_ok (nt := 68) (rs := [.cell 6 33, .tmp 7]) Try.func52 rfl Try.ntmps52 rfl (by simp) (by decide) rfl fun K => ?_
  refine kr [3, 4, 5, 6] (by simp; rfl) ?_
  replace h0 := bnd h0; obtain ⟨v1, hvv1, h0⟩ := h0
  refine sjv (fun v1_ : Bool => ({ nt := 68, env := [(3, .ptr 3 0), (4, .ptr 4 0), (5, .ptr 5 0), (6, .ptr 6 0), (8, .d (.bool v1_))], box := [(3, [.d (.int .i64 a0.Slots), .d (.slice (rowsF api_Consumer_row a0.Consumers))]), (4, [.d (.int .i64 a1.Known), .d (.int .i64 a1.Valid), .d (.slice (rowsF api_Unit_row a1.Units))]), (5, [.d (.int .i64 a2.Kind), .d (.int .i64 a2.Unit)]), (6, [.d (.int .i64 0), .d (.int .i64 0), .nilS])], vec := [] } : St)) (fun v1_ => v1 = v1_) (fun v1_ e => ?_) ?_
  · subst e
    refine tr_seq ?_
    refine tr_block ?_
    refine kc ?_
    refine ko [3, 4, 5, 6, 8, 24, 25] 2 (by simp; rfl) ?_
    replace h0 := bnd h0; obtain ⟨y2, hy2, h0⟩ := h0
    refine kcall [3, 4, 5, 6, 8, 26] [] (fleet_Right_ok hy2) rfl rfl rfl Try.call49 (by simp) (by simp; rfl) ?_
    refine ko [3, 4, 5, 6, 8, 23] 2 (by simp; rfl) ?_
    refine tops_nil ?_
    refine tr_cond (b := (!y2)) (by simp) (fun c5 => ?_) (fun c5 => ?_)
    · rw [if_pos c5] at h0
      refine kr [6, 7] (by simp; rfl) ?_
      cases h0
      exact tr_ret ⟨[], by simp, rfl, by simp⟩
    · rw [if_neg (by rw [c5]; decide)] at h0
      replace h0 := bnd h0; obtain ⟨v3, hvv3, h0⟩ := h0
      refine sjv (fun v3_ : Bool => ({ nt := 68, env := [(3, .ptr 3 0), (4, .ptr 4 0), (5, .ptr 5 0), (6, .ptr 6 0), (29, .d (.bool v3_))], box := [(3, [.d (.int .i64 a0.Slots), .d (.slice (rowsF api_Consumer_row a0.Consumers))]), (4, [.d (.int .i64 a1.Known), .d (.int .i64 a1.Valid), .d (.slice (rowsF api_Unit_row a1.Units))]), (5, [.d (.int .i64 a2.Kind), .d (.int .i64 a2.Unit)]), (6, [.d (.int .i64 0), .d (.int .i64 0), .nilS])], vec := [] } : St)) (fun v3_ => v3 = v3_) (fun v3_ e => ?_) ?_
      · subst e
        refine tr_cond (b := v3) (by simp) (fun c16 => ?_) (fun c16 => ?_)
        · rw [if_pos c16] at h0
          refine kr [6, 7] (by simp; rfl) ?_
          cases h0
          exact tr_ret ⟨[], by simp, rfl, by simp⟩
        · rw [if_neg (by rw [c16]; decide)] at h0
          refine tr_skip ?_
          refine kc ?_
          refine ko [3, 5, 6, 60] 1 (by simp; rfl) ?_
          replace h0 := bnd h0; obtain ⟨y4, hy4, h0⟩ := h0
          refine kcallV [3, 5, 6, 61] [] [] [600244] (fleet_Copy_own2_ok hy4) rfl rfl rfl Try.call68 (by simp) (by simp; rfl) ?_
          refine ko [3, 5, 6, 9] 2 (by simp; rfl) ?_
          refine tops_nil ?_
          refine tr_seq ?_
          refine kc ?_
          refine ko [6, 9, 62, 63] 2 (by simp; rfl) ?_
          replace h0 := bnd h0; obtain ⟨y5, hy5, h0⟩ := h0
          refine kcallV [6, 9, 64] [9] [600244] [600244] (steps_step_o1_2_ok hy5) rfl rfl rfl Try.call69 (by simp) (by simp; rfl) ?_
          refine ko [6, 9, 65] 1 (by simp; rfl) ?_
          refine tops_nil ?_
          refine tr_cond (b := (!y5.1)) (by simp) (fun c17 => ?_) (fun c17 => ?_)
          · rw [if_pos c17] at h0
            refine kr [6, 7] (by simp; rfl) ?_
            cases h0
            exact tr_ret ⟨[], by simp, rfl, by simp⟩
          · rw [if_neg (by rw [c17]; decide)] at h0
            refine tr_skip ?_
            refine kr [6, 7] (by simp; rfl) ?_
            cases h0
            exact tr_ret ⟨[600244], by simp, rfl, by simp⟩
      · refine kc1 ?_
        refine ko [3, 4, 5, 6, 8, 33] 4 (by simp; rfl) ?_
        refine tops_split 33 (decide (a2.Kind < 1)) (by simp) (fun c18 => ?_) (fun c18 => ?_)
        · rw [c18] at hvv3
          refine kskip 3 [] (by kernel_rfl) ?_
          refine ko [3, 4, 5, 6, 8, 38] 2 (by simp; rfl) ?_
          refine kskip 3 [] (by kernel_rfl) ?_
          refine ko [3, 4, 5, 6, 8, 43] 2 (by simp; rfl) ?_
          refine kskip 6 [] (by kernel_rfl) ?_
          refine ko [3, 4, 5, 6, 8, 51] 2 (by simp; rfl) ?_
          refine kskip 6 [] (by kernel_rfl) ?_
          refine ko [3, 4, 5, 6, 29] 2 (by simp; rfl) ?_
          refine tops_nil ?_
          cases hvv3
          exact ⟨_, rfl, wk (by simp [weak_iff])⟩
        · rw [c18] at hvv3
          refine ko [3, 4, 5, 6, 8, 38] 5 (by simp; rfl) ?_
          refine tops_split 38 (decide (8 < a2.Kind)) (by simp) (fun c19 => ?_) (fun c19 => ?_)
          · rw [c19] at hvv3
            refine kskip 3 [] (by kernel_rfl) ?_
            refine ko [3, 4, 5, 6, 8, 43] 2 (by simp; rfl) ?_
            refine kskip 6 [] (by kernel_rfl) ?_
            refine ko [3, 4, 5, 6, 8, 51] 2 (by simp; rfl) ?_
            refine kskip 6 [] (by kernel_rfl) ?_
            refine ko [3, 4, 5, 6, 29] 2 (by simp; rfl) ?_
            refine tops_nil ?_
            cases hvv3
            exact ⟨_, rfl, wk (by simp [weak_iff])⟩
          · rw [c19] at hvv3
            refine ko [3, 4, 5, 6, 8, 43] 5 (by simp; rfl) ?_
            refine tops_split 43 (decide (a2.Unit < 0)) (by simp) (fun c20 => ?_) (fun c20 => ?_)
            · rw [c20] at hvv3
              refine kskip 6 [] (by kernel_rfl) ?_
              refine ko [3, 4, 5, 6, 8, 51] 2 (by simp; rfl) ?_
              refine kskip 6 [] (by kernel_rfl) ?_
              refine ko [3, 4, 5, 6, 29] 2 (by simp; rfl) ?_
              refine tops_nil ?_
              cases hvv3
              exact ⟨_, rfl, wk (by simp [weak_iff])⟩
            · rw [c20] at hvv3
              refine ko [3, 4, 5, 6, 8, 51] 8 (by simp; rfl) ?_
              refine tops_split 51 (decide (((a1.Units).length : Int) ≤ a2.Unit)) (by simp) (fun c21 => ?_) (fun c21 => ?_)
              · rw [c21] at hvv3
                refine kskip 6 [] (by kernel_rfl) ?_
                refine ko [3, 4, 5, 6, 29] 2 (by simp; rfl) ?_
                refine tops_nil ?_
                cases hvv3
                exact ⟨_, rfl, wk (by simp [weak_iff])⟩
              · rw [c21] at hvv3
                refine ko [3, 4, 5, 6, 51, 53] 2 (by simp; rfl) ?_
                refine tops_split 53 v1 (by simp) (fun c22 => ?_) (fun c22 => ?_)
                · rw [c22] at hvv3
                  refine ko [3, 4, 5, 6, 29] 6 (by simp; rfl) ?_
                  refine tops_nil ?_
                  cases hvv3
                  exact ⟨_, rfl, wk (by simp [weak_iff])⟩
                · rw [c22] at hvv3
                  refine kskip 3 [] (by kernel_rfl) ?_
                  refine ko [3, 4, 5, 6, 29] 3 (by simp; rfl) ?_
                  refine tops_nil ?_
                  cases hvv3
                  exact ⟨_, rfl, wk (by simp [weak_iff])⟩
  · refine kc1 ?_
    refine ko [3, 4, 5, 6, 13] 4 (by simp; rfl) ?_
    refine tops_split 13 (decide (1 ≤ a2.Kind)) (by simp) (fun c23 => ?_) (fun c23 => ?_)
    · rw [c23] at hvv1
      refine ko [3, 4, 5, 6, 18] 5 (by simp; rfl) ?_
      refine tops_split 18 (decide (a2.Kind ≤ 3)) (by simp) (fun c24 => ?_) (fun c24 => ?_)
      · rw [c24] at hvv1
        refine kskip 3 [] (by kernel_rfl) ?_
        refine ko [3, 4, 5, 6, 8] 2 (by simp; rfl) ?_
        refine tops_nil ?_
        cases hvv1
        exact ⟨_, rfl, wk (by simp [weak_iff])⟩
      · rw [c24] at hvv1
        refine ko [3, 4, 5, 6, 8] 5 (by simp; rfl) ?_
        refine tops_nil ?_
        cases hvv1
        exact ⟨_, rfl, wk (by simp [weak_iff])⟩
    · rw [c23] at hvv1
      refine kskip 3 [] (by kernel_rfl) ?_
      refine ko [3, 4, 5, 6, 8] 7 (by simp; rfl) ?_
      refine tops_nil ?_
      cases hvv1
      exact ⟨_, rfl, wk (by simp [weak_iff])⟩
set_option maxHeartbeats 1000000 in
theorem make_Tape_Next_ok {a0 : make_Tape} {a1 : Int} {r : Int × make_Tape} (h0 : make_Tape_Next a0 a1 = some r) : FnOK Try.prog 14 [make_Tape_av a0] [.ptr (InO 0) 0, .d (.int .i64 a1)] (.d (.int .i64 r.1)) [make_Tape_av r.2] := by
  unfold make_Tape_Next at h0
  refine fn_ok (nt := 37) (rs := [.tmp 4]) Try.func14 rfl Try.ntmps14 rfl (by simp) (by decide) rfl fun K => ?_
  refine kr [0, 1] (by simp; rfl) ?_
  refine tr_seq ?_
  refine kd [[], [0], [1], [2], [], [4], [5], [6], [7], [3, 8]] [] [] none [] 10 fol (by decide +kernel) (by simp) ?_
  refine dr_go 0 2 rfl (by simp (maxSteps := 1000000); rfl) ?_
  refine dr_go 2 2 rfl (by simp (maxSteps := 1000000); rfl) ?_
  refine dr_go 4 2 rfl (by simp (maxSteps := 1000000); rfl) ?_
  refine dr_go 6 2 rfl (by simp (maxSteps := 1000000); rfl) ?_
  refine dr_go 8 2 rfl (by simp (maxSteps := 1000000); rfl) ?_
  refine dr_end rfl (tops_nil ?_)
  refine tr_cond (b := (decide (((a0.L).length : Int) ≤ a0.at_))) (by simp) (fun c1 => ?_) (fun c1 => ?_)
  · rw [if_pos c1] at h0
    refine kr [4] (by simp; rfl) ?_
    cases h0
    exact tr_ret ⟨[], by simp, rfl, by simp⟩
  · rw [if_neg (by rw [c1]; decide)] at h0
    refine tr_skip ?_
    refine kd [[], [0], [1], [2], [], [4], [5], [6], [3, 7], [8], [9], [10]] [] [] none [] 12 fol (by decide +kernel) (by simp) ?_
    replace h0 := bnd h0; obtain ⟨x1, p3, h0⟩ := h0
    replace p3 := idx_some p3
    have p3' := p3; try simp at p3'
    refine dr_go 0 2 rfl (by simp (maxSteps := 1000000) [p3, p3']; rfl) ?_
    refine dr_go 2 2 rfl (by simp (maxSteps := 1000000) [p3, p3']; rfl) ?_
    refine dr_go 4 2 rfl (by simp (maxSteps := 1000000) [p3, p3']; rfl) ?_
    refine dr_go 6 2 rfl (by simp (maxSteps := 1000000) [p3, p3']; rfl) ?_
    refine dr_go 8 2 rfl (by simp (maxSteps := 1000000) [p3, p3']; rfl) ?_
    refine dr_go 10 2 rfl (by simp (maxSteps := 1000000) [p3, p3']; rfl) ?_
    refine dr_end rfl (tops_nil ?_)
    refine kr [1, 5] (by simp; rfl) ?_
    replace h0 := bnd h0; obtain ⟨_, p4, h0⟩ := h0
    replace p4 := ck_some p4
    have p4' := p4; try simp at p4'
    refine kr [4] (by simp [p4, p4']; rfl) ?_
    cases h0
    exact tr_ret ⟨[], by simp, rfl, by simp⟩
set_option maxHeartbeats 1000000 in
theorem make_Tape_Between_ok {a0 : make_Tape} {a1 : Int} {a2 : Int} {r : Int × make_Tape} (h0 : make_Tape_Between a0 a1 a2 = some r) : FnOK Try.prog 29 [make_Tape_av a0] [.ptr (InO 0) 0, .d (.int .i64 a1), .d (.int .i64 a2)] (.d (.int .i64 r.1)) [make_Tape_av r.2] := by
  unfold make_Tape_Between at h0
  refine fn_ok (nt := 15) (rs := [.tmp 6]) Try.func29 rfl Try.ntmps29 rfl (by simp) (by decide) rfl fun K => ?_
  refine kr [0, 1, 2] (by simp; rfl) ?_
  refine kc ?_
  refine ko [7, 8, 12] 6 (by simp; rfl) ?_
  replace h0 := bnd h0; obtain ⟨y1, hy1, h0⟩ := h0
  refine kcall [7, 13] [1000000] (make_Tape_Next_ok hy1) rfl rfl rfl Try.call14 (by simp) (by simp; rfl) ?_
  refine ko [6] 2 (by simp; rfl) ?_
  refine tops_nil ?_
  cases h0
  exact tr_ret ⟨[], by simp, rfl, by simp⟩
set_option maxHeartbeats 1000000 in
theorem ref32_Copy_own2_ok {a0 : api_Rotation} {r : api_Rotation} (h0 : ref32_Copy_own2 a0 = some r) : FnOKv Try.prog 21 [] [] [.agg (api_Rotation_av a0)] (.agg [.d (.int .i64 r.Known), .d (.int .i64 r.Valid), .vec (InV 0)]) [] [⟨53, 3, rowsF api_Unit_row r.Units⟩] := by
  unfold ref32_Copy_own2 at h0
  refine fn_okv (nt := 8) (rs := [.cell 2 33]) Try.func21 rfl Try.ntmps21 rfl (by simp) (by decide) rfl fun K => ?_
  refine kr [1, 2] (by simp; rfl) ?_
  replace h0 := bnd h0; obtain ⟨_, p1, h0⟩ := h0
  replace p1 := ck_some p1
  have p1' := p1; try simp at p1'
  refine kr [1, 2] (by simp [p1, p1']; rfl) ?_
  refine kr [2] (by simp; rfl) ?_
  cases h0
  exact tr_ret ⟨[], [5], by simp, by simp, by simp, by simp, by simp⟩
set_option maxHeartbeats 1000000 in
theorem search_check_ok {a0 : api_Fleet} {a1 : api_Rotation} {r : Int} (h0 : search_check a0 a1 = some r) : FnOK Try.prog 31 [] [.agg (api_Fleet_av a0), .agg (api_Rotation_av a1)] (.d (.int .i64 r)) [] := by
  unfold search_check at h0
  refine fn_ok (nt := 15) (rs := [.tmp 4]) Try.func31 rfl Try.ntmps31 rfl (by simp) (by decide) rfl fun K => ?_
  refine kr [2, 3] (by simp; rfl) ?_
  refine tr_seq ?_
  refine tr_block ?_
  refine kc ?_
  refine ko [2, 6, 7] 2 (by simp; rfl) ?_
  replace h0 := bnd h0; obtain ⟨y1, hy1, h0⟩ := h0
  refine kcall [2, 8] [] (fleet_Right_ok hy1) rfl rfl rfl Try.call49 (by simp) (by simp; rfl) ?_
  refine ko [2, 5] 2 (by simp; rfl) ?_
  refine tops_nil ?_
  refine tr_cond (b := (!y1)) (by simp) (fun c1 => ?_) (fun c1 => ?_)
  · rw [if_pos c1] at h0
    refine kr [4] (by simp; rfl) ?_
    cases h0
    exact tr_ret ⟨[], by simp, rfl, by simp⟩
  · rw [if_neg (by rw [c1]; decide)] at h0
    refine kr [10] (by simp; rfl) ?_
    refine tr_cond (b := (decide (3 < ((a0.Consumers).length : Int)))) (by simp) (fun c2 => ?_) (fun c2 => ?_)
    · rw [if_pos c2] at h0
      refine kr [4] (by simp; rfl) ?_
      cases h0
      exact tr_ret ⟨[], by simp, rfl, by simp⟩
    · rw [if_neg (by rw [c2]; decide)] at h0
      refine tr_skip ?_
      refine kr [4] (by simp; rfl) ?_
      cases h0
      exact tr_ret ⟨[], by simp, rfl, by simp⟩
set_option maxHeartbeats 1000000 in
theorem search_found_key_ok {a0 : search_found} {r : (List Int)} (h0 : search_found_key a0 = some r) : FnOK Try.prog 50 [] [.agg (search_found_av a0)] (.agg (arC (iRow .i64) r)) [] := by
  unfold search_found_key at h0
  refine fn_ok (nt := 42) (rs := [.cell 2 93]) Try.func50 rfl Try.ntmps50 rfl (by simp) (by decide) rfl fun K => ?_
  refine kr [1, 2] (by simp; rfl) ?_
  refine kr [1, 2, 3] (by simp [(show (arC (iRow .i64) (zerosI 11)).drop 1 = [.d (.int .i64 0), .d (.int .i64 0), .d (.int .i64 0), .d (.int .i64 0), .d (.int .i64 0), .d (.int .i64 0), .d (.int .i64 0), .d (.int .i64 0), .d (.int .i64 0), .d (.int .i64 0)] from rfl), (show (arC (iRow .i64) (zerosI 11)).drop 2 = [.d (.int .i64 0), .d (.int .i64 0), .d (.int .i64 0), .d (.int .i64 0), .d (.int .i64 0), .d (.int .i64 0), .d (.int .i64 0), .d (.int .i64 0), .d (.int .i64 0)] from rfl), (show (arC (iRow .i64) (zerosI 11)).drop 3 = [.d (.int .i64 0), .d (.int .i64 0), .d (.int .i64 0), .d (.int .i64 0), .d (.int .i64 0), .d (.int .i64 0), .d (.int .i64 0), .d (.int .i64 0)] from rfl), (show (arC (iRow .i64) (zerosI 11)).drop 4 = [.d (.int .i64 0), .d (.int .i64 0), .d (.int .i64 0), .d (.int .i64 0), .d (.int .i64 0), .d (.int .i64 0), .d (.int .i64 0)] from rfl), (show (arC (iRow .i64) (zerosI 11)).drop 5 = [.d (.int .i64 0), .d (.int .i64 0), .d (.int .i64 0), .d (.int .i64 0), .d (.int .i64 0), .d (.int .i64 0)] from rfl), (show (arC (iRow .i64) (zerosI 11)).drop 6 = [.d (.int .i64 0), .d (.int .i64 0), .d (.int .i64 0), .d (.int .i64 0), .d (.int .i64 0)] from rfl), (show (arC (iRow .i64) (zerosI 11)).drop 7 = [.d (.int .i64 0), .d (.int .i64 0), .d (.int .i64 0), .d (.int .i64 0)] from rfl), (show (arC (iRow .i64) (zerosI 11)).drop 8 = [.d (.int .i64 0), .d (.int .i64 0), .d (.int .i64 0)] from rfl), (show (arC (iRow .i64) (zerosI 11)).drop 9 = [.d (.int .i64 0), .d (.int .i64 0)] from rfl), (show (arC (iRow .i64) (zerosI 11)).drop 10 = [.d (.int .i64 0)] from rfl), (show (arC (iRow .i64) (zerosI 11)).drop 11 = [] from rfl)]; rfl) ?_
  refine tr_seq ?_
  refine kr [2, 3, 15, 16, 17] (by simp; rfl) ?_
  replace h0 := bnd h0; obtain ⟨e1, hI1, h0⟩ := h0
  refine tjv (fun v1 : (List Int) => ({ nt := 42, env := [(2, .ptr 2 0), (3, .ptr 3 0)], box := [(2, arC (iRow .i64) (zerosI 11)), (3, arC (iRow .i64) v1)], vec := [] } : St)) (fun v1 => v1 = e1) (fun v1 hI1e _ W1 => ?_) ?_
  · subst hI1e
    refine tr_wk W1 ?_
    replace h0 := bnd h0; obtain ⟨_, p17, h0⟩ := h0
    replace p17 := ck_some p17
    have p17' := p17; try simp at p17'
    replace h0 := bnd h0; obtain ⟨_, p18, h0⟩ := h0
    replace p18 := ck_some p18
    have p18' := p18; try simp at p18'
    refine kr [2] (by simp [p17, arC_take p17, arC_drop p17, arC_take (zerosI_length 11), arC_drop (zerosI_length 11), p18, arC_take p18, arC_drop p18, p17', p18']; rfl) ?_
    replace h0 := bnd h0; obtain ⟨_, p19, h0⟩ := h0
    replace p19 := ck_some p19
    have p19' := p19; try simp at p19'
    cases h0
    exact tr_ret ⟨[], by simp [p19, arC_take p19, arC_drop p19, p19'], by simp, by simp [p19, arC_take p19, arC_drop p19, p19']⟩
  · refine tr_block (tr_iter (fun s2 : Int × (List Int) => ({ nt := 42, env := [(2, .ptr 2 0), (3, .ptr 3 0), (15, .d (.slice (rowsF api_Unit_row a0.Rotation.Units))), (16, .d (.int .i64 ((a0.Rotation.Units).length : Int))), (17, .d (.int .i64 s2.1))], box := [(2, arC (iRow .i64) (zerosI 11)), (3, arC (iRow .i64) s2.2)], vec := [] } : St)) hI1 (wk (by simp [weak_iff])) fun G1 s2 o1 h1 hg1 he1 => ?_)
    unfold search_found_key_l0 at h1
    refine kr [2, 3, 15, 16, 17, 18] (by simp; rfl) ?_
    refine tr_seq ?_
    refine tr_cond (b := (decide (s2.1 < ((a0.Rotation.Units).length : Int)))) (by simp) (fun c5 => ?_) (fun c5 => ?_)
    · rw [if_pos c5] at h1
      refine tr_skip ?_
      refine tr_seq ?_
      refine tr_block ?_
      replace h1 := bnd h1; obtain ⟨x3, p20, h1⟩ := h1
      replace p20 := idx_some p20
      have p20' := p20; try simp at p20'
      refine kr [2, 3, 4, 5, 15, 16, 17] (by simp [p20, p20']; rfl) ?_
      replace h1 := bnd h1; obtain ⟨_, p21, h1⟩ := h1
      replace p21 := ck_some p21
      have p21' := p21; try simp at p21'
      replace h1 := bnd h1; obtain ⟨_, p22, h1⟩ := h1
      replace p22 := ck_some p22
      replace h1 := bnd h1; obtain ⟨_, p23, h1⟩ := h1
      replace p23 := ck_some p23
      have p23' := p23; try simp at p23'
      replace h1 := bnd h1; obtain ⟨_, p24, h1⟩ := h1
      replace p24 := ck_some p24
      have p22b : (Int.toNat (IntKind.i64.wrap (2 + (IntKind.i64.wrap (3 * s2.1))))) < (s2.2).length := by (first | exact p22 | (have q := p22; simp only [List.length_set] at q; exact q))
      have p24b : (Int.toNat (IntKind.i64.wrap (3 + (IntKind.i64.wrap (3 * s2.1))))) < (s2.2).length := by (first | exact p24 | (have q := p24; simp only [List.length_set] at q; exact q))
      have hcm25 : (Int.toNat (IntKind.i64.wrap (3 + (IntKind.i64.wrap (3 * s2.1))))) ≠ (Int.toNat (IntKind.i64.wrap (2 + (IntKind.i64.wrap (3 * s2.1))))) := by (intro e; have e' : (IntKind.i64.wrap (3 + (IntKind.i64.wrap (3 * s2.1)))) = (IntKind.i64.wrap (2 + (IntKind.i64.wrap (3 * s2.1)))) := (by omega); revert e'; simp only [IntKind.wrap_i64]; omega)
      refine kany (S := ({ nt := 42, env := [(2, .ptr 2 0), (3, .ptr 3 0), (4, .d (.int .i64 s2.1)), (5, .ptr 5 0), (15, .d (.slice (rowsF api_Unit_row a0.Rotation.Units))), (16, .d (.int .i64 ((a0.Rotation.Units).length : Int))), (17, .d (.int .i64 s2.1))], box := [(2, arC (iRow .i64) (zerosI 11)), (3, arC (iRow .i64) ((s2.2.set (Int.toNat (IntKind.i64.wrap (2 + (IntKind.i64.wrap (3 * s2.1))))) x3.Stored).set (Int.toNat (IntKind.i64.wrap (3 + (IntKind.i64.wrap (3 * s2.1))))) x3.Used)), (5, [.d (.bool x3.Up), .d (.int .i64 x3.Stored), .d (.int .i64 x3.Used)])], vec := [] } : St)) fol ?_ ?_
      ·
        refine ao_pure 0 rfl (by decide +kernel) (by decide +kernel) (by simp [pureP, pureB]) (fun c s h => by cases h.1) (by simp [p21, show (Int.toNat (IntKind.i64.wrap (2 + (IntKind.i64.wrap (3 * s2.1))))) + 1 ≤ (s2.2).length from p22, arC_put p22, p23, show (Int.toNat (IntKind.i64.wrap (3 + (IntKind.i64.wrap (3 * s2.1))))) + 1 ≤ ((s2.2.set (Int.toNat (IntKind.i64.wrap (2 + (IntKind.i64.wrap (3 * s2.1))))) x3.Stored)).length from p24, arC_put p24, (show (Int.toNat (IntKind.i64.wrap (3 + (IntKind.i64.wrap (3 * s2.1))))) + 1 ≤ (s2.2).length from Nat.succ_le_of_lt (by simpa using p24)), p21', p23', show (Int.toNat (IntKind.i64.wrap (2 + (IntKind.i64.wrap (3 * s2.1))))) + 1 ≤ (s2.2).length from p22b, show (Int.toNat (IntKind.i64.wrap (3 + (IntKind.i64.wrap (3 * s2.1))))) + 1 ≤ (s2.2).length from p24b, arC_put p24b, arC_put (l := (s2.2.set (Int.toNat (IntKind.i64.wrap (3 + (IntKind.i64.wrap (3 * s2.1))))) x3.Used)) (i := (Int.toNat (IntKind.i64.wrap (2 + (IntKind.i64.wrap (3 * s2.1)))))) (by simpa using p22b)]; rfl) ?_
        refine ao_pure 1 rfl (by decide +kernel) (by decide +kernel) (by simp [pureP, pureB]) (fun c s h => by cases h.1) (by simp [p21, show (Int.toNat (IntKind.i64.wrap (2 + (IntKind.i64.wrap (3 * s2.1))))) + 1 ≤ (s2.2).length from p22, arC_put p22, p23, show (Int.toNat (IntKind.i64.wrap (3 + (IntKind.i64.wrap (3 * s2.1))))) + 1 ≤ ((s2.2.set (Int.toNat (IntKind.i64.wrap (2 + (IntKind.i64.wrap (3 * s2.1))))) x3.Stored)).length from p24, arC_put p24, (show (Int.toNat (IntKind.i64.wrap (3 + (IntKind.i64.wrap (3 * s2.1))))) + 1 ≤ (s2.2).length from Nat.succ_le_of_lt (by simpa using p24)), p21', p23', show (Int.toNat (IntKind.i64.wrap (2 + (IntKind.i64.wrap (3 * s2.1))))) + 1 ≤ (s2.2).length from p22b, show (Int.toNat (IntKind.i64.wrap (3 + (IntKind.i64.wrap (3 * s2.1))))) + 1 ≤ (s2.2).length from p24b, arC_put p24b, arC_put (l := (s2.2.set (Int.toNat (IntKind.i64.wrap (3 + (IntKind.i64.wrap (3 * s2.1))))) x3.Used)) (i := (Int.toNat (IntKind.i64.wrap (2 + (IntKind.i64.wrap (3 * s2.1)))))) (by simpa using p22b)]; rfl) ?_
        refine ao_pure 2 rfl (by decide +kernel) (by decide +kernel) (by simp [pureP, pureB]) (fun c s h => by cases h.1) (by simp [p21, show (Int.toNat (IntKind.i64.wrap (2 + (IntKind.i64.wrap (3 * s2.1))))) + 1 ≤ (s2.2).length from p22, arC_put p22, p23, show (Int.toNat (IntKind.i64.wrap (3 + (IntKind.i64.wrap (3 * s2.1))))) + 1 ≤ ((s2.2.set (Int.toNat (IntKind.i64.wrap (2 + (IntKind.i64.wrap (3 * s2.1))))) x3.Stored)).length from p24, arC_put p24, (show (Int.toNat (IntKind.i64.wrap (3 + (IntKind.i64.wrap (3 * s2.1))))) + 1 ≤ (s2.2).length from Nat.succ_le_of_lt (by simpa using p24)), p21', p23', show (Int.toNat (IntKind.i64.wrap (2 + (IntKind.i64.wrap (3 * s2.1))))) + 1 ≤ (s2.2).length from p22b, show (Int.toNat (IntKind.i64.wrap (3 + (IntKind.i64.wrap (3 * s2.1))))) + 1 ≤ (s2.2).length from p24b, arC_put p24b, arC_put (l := (s2.2.set (Int.toNat (IntKind.i64.wrap (3 + (IntKind.i64.wrap (3 * s2.1))))) x3.Used)) (i := (Int.toNat (IntKind.i64.wrap (2 + (IntKind.i64.wrap (3 * s2.1)))))) (by simpa using p22b)]; rfl) ?_
        refine ao_pure 3 rfl (by decide +kernel) (by decide +kernel) (by simp [pureP, pureB]) (fun c s h => by cases h.1) (by simp [p21, show (Int.toNat (IntKind.i64.wrap (2 + (IntKind.i64.wrap (3 * s2.1))))) + 1 ≤ (s2.2).length from p22, arC_put p22, p23, show (Int.toNat (IntKind.i64.wrap (3 + (IntKind.i64.wrap (3 * s2.1))))) + 1 ≤ ((s2.2.set (Int.toNat (IntKind.i64.wrap (2 + (IntKind.i64.wrap (3 * s2.1))))) x3.Stored)).length from p24, arC_put p24, (show (Int.toNat (IntKind.i64.wrap (3 + (IntKind.i64.wrap (3 * s2.1))))) + 1 ≤ (s2.2).length from Nat.succ_le_of_lt (by simpa using p24)), p21', p23', show (Int.toNat (IntKind.i64.wrap (2 + (IntKind.i64.wrap (3 * s2.1))))) + 1 ≤ (s2.2).length from p22b, show (Int.toNat (IntKind.i64.wrap (3 + (IntKind.i64.wrap (3 * s2.1))))) + 1 ≤ (s2.2).length from p24b, arC_put p24b, arC_put (l := (s2.2.set (Int.toNat (IntKind.i64.wrap (3 + (IntKind.i64.wrap (3 * s2.1))))) x3.Used)) (i := (Int.toNat (IntKind.i64.wrap (2 + (IntKind.i64.wrap (3 * s2.1)))))) (by simpa using p22b)]; rfl) ?_
        refine ao_pure 4 rfl (by decide +kernel) (by decide +kernel) (by simp [pureP, pureB]) (fun c s h => by cases h.1) (by simp [p21, show (Int.toNat (IntKind.i64.wrap (2 + (IntKind.i64.wrap (3 * s2.1))))) + 1 ≤ (s2.2).length from p22, arC_put p22, p23, show (Int.toNat (IntKind.i64.wrap (3 + (IntKind.i64.wrap (3 * s2.1))))) + 1 ≤ ((s2.2.set (Int.toNat (IntKind.i64.wrap (2 + (IntKind.i64.wrap (3 * s2.1))))) x3.Stored)).length from p24, arC_put p24, (show (Int.toNat (IntKind.i64.wrap (3 + (IntKind.i64.wrap (3 * s2.1))))) + 1 ≤ (s2.2).length from Nat.succ_le_of_lt (by simpa using p24)), p21', p23', show (Int.toNat (IntKind.i64.wrap (2 + (IntKind.i64.wrap (3 * s2.1))))) + 1 ≤ (s2.2).length from p22b, show (Int.toNat (IntKind.i64.wrap (3 + (IntKind.i64.wrap (3 * s2.1))))) + 1 ≤ (s2.2).length from p24b, arC_put p24b, arC_put (l := (s2.2.set (Int.toNat (IntKind.i64.wrap (3 + (IntKind.i64.wrap (3 * s2.1))))) x3.Used)) (i := (Int.toNat (IntKind.i64.wrap (2 + (IntKind.i64.wrap (3 * s2.1)))))) (by simpa using p22b)]; rfl) ?_
        refine ao_pure 5 rfl (by decide +kernel) (by decide +kernel) (by simp [pureP, pureB]) (fun c s h => by cases h.1) (by simp [p21, show (Int.toNat (IntKind.i64.wrap (2 + (IntKind.i64.wrap (3 * s2.1))))) + 1 ≤ (s2.2).length from p22, arC_put p22, p23, show (Int.toNat (IntKind.i64.wrap (3 + (IntKind.i64.wrap (3 * s2.1))))) + 1 ≤ ((s2.2.set (Int.toNat (IntKind.i64.wrap (2 + (IntKind.i64.wrap (3 * s2.1))))) x3.Stored)).length from p24, arC_put p24, (show (Int.toNat (IntKind.i64.wrap (3 + (IntKind.i64.wrap (3 * s2.1))))) + 1 ≤ (s2.2).length from Nat.succ_le_of_lt (by simpa using p24)), p21', p23', show (Int.toNat (IntKind.i64.wrap (2 + (IntKind.i64.wrap (3 * s2.1))))) + 1 ≤ (s2.2).length from p22b, show (Int.toNat (IntKind.i64.wrap (3 + (IntKind.i64.wrap (3 * s2.1))))) + 1 ≤ (s2.2).length from p24b, arC_put p24b, arC_put (l := (s2.2.set (Int.toNat (IntKind.i64.wrap (3 + (IntKind.i64.wrap (3 * s2.1))))) x3.Used)) (i := (Int.toNat (IntKind.i64.wrap (2 + (IntKind.i64.wrap (3 * s2.1)))))) (by simpa using p22b)]; rfl) ?_
        refine ao_pure 6 rfl (by decide +kernel) (by decide +kernel) (by simp [pureP, pureB]) (fun c s h => by cases h.1) (by simp [p21, show (Int.toNat (IntKind.i64.wrap (2 + (IntKind.i64.wrap (3 * s2.1))))) + 1 ≤ (s2.2).length from p22, arC_put p22, p23, show (Int.toNat (IntKind.i64.wrap (3 + (IntKind.i64.wrap (3 * s2.1))))) + 1 ≤ ((s2.2.set (Int.toNat (IntKind.i64.wrap (2 + (IntKind.i64.wrap (3 * s2.1))))) x3.Stored)).length from p24, arC_put p24, (show (Int.toNat (IntKind.i64.wrap (3 + (IntKind.i64.wrap (3 * s2.1))))) + 1 ≤ (s2.2).length from Nat.succ_le_of_lt (by simpa using p24)), p21', p23', show (Int.toNat (IntKind.i64.wrap (2 + (IntKind.i64.wrap (3 * s2.1))))) + 1 ≤ (s2.2).length from p22b, show (Int.toNat (IntKind.i64.wrap (3 + (IntKind.i64.wrap (3 * s2.1))))) + 1 ≤ (s2.2).length from p24b, arC_put p24b, arC_put (l := (s2.2.set (Int.toNat (IntKind.i64.wrap (3 + (IntKind.i64.wrap (3 * s2.1))))) x3.Used)) (i := (Int.toNat (IntKind.i64.wrap (2 + (IntKind.i64.wrap (3 * s2.1)))))) (by simpa using p22b)]; rfl) ?_
        refine ao_pure 8 rfl (by decide +kernel) (by decide +kernel) (by simp [pureP, pureB]) (fun c s h => by cases h.1) (by simp [p21, show (Int.toNat (IntKind.i64.wrap (2 + (IntKind.i64.wrap (3 * s2.1))))) + 1 ≤ (s2.2).length from p22, arC_put p22, p23, show (Int.toNat (IntKind.i64.wrap (3 + (IntKind.i64.wrap (3 * s2.1))))) + 1 ≤ ((s2.2.set (Int.toNat (IntKind.i64.wrap (2 + (IntKind.i64.wrap (3 * s2.1))))) x3.Stored)).length from p24, arC_put p24, (show (Int.toNat (IntKind.i64.wrap (3 + (IntKind.i64.wrap (3 * s2.1))))) + 1 ≤ (s2.2).length from Nat.succ_le_of_lt (by simpa using p24)), p21', p23', show (Int.toNat (IntKind.i64.wrap (2 + (IntKind.i64.wrap (3 * s2.1))))) + 1 ≤ (s2.2).length from p22b, show (Int.toNat (IntKind.i64.wrap (3 + (IntKind.i64.wrap (3 * s2.1))))) + 1 ≤ (s2.2).length from p24b, arC_put p24b, arC_put (l := (s2.2.set (Int.toNat (IntKind.i64.wrap (3 + (IntKind.i64.wrap (3 * s2.1))))) x3.Used)) (i := (Int.toNat (IntKind.i64.wrap (2 + (IntKind.i64.wrap (3 * s2.1)))))) (by simpa using p22b)]; rfl) ?_
        refine ao_all [7, 9] (by decide +kernel) (by decide) ?_
        refine aall_cons rfl (by simp [p21, show (Int.toNat (IntKind.i64.wrap (2 + (IntKind.i64.wrap (3 * s2.1))))) + 1 ≤ (s2.2).length from p22, arC_put p22, p23, show (Int.toNat (IntKind.i64.wrap (3 + (IntKind.i64.wrap (3 * s2.1))))) + 1 ≤ ((s2.2.set (Int.toNat (IntKind.i64.wrap (2 + (IntKind.i64.wrap (3 * s2.1))))) x3.Stored)).length from p24, arC_put p24, (show (Int.toNat (IntKind.i64.wrap (3 + (IntKind.i64.wrap (3 * s2.1))))) + 1 ≤ (s2.2).length from Nat.succ_le_of_lt (by simpa using p24)), p21', p23', show (Int.toNat (IntKind.i64.wrap (2 + (IntKind.i64.wrap (3 * s2.1))))) + 1 ≤ (s2.2).length from p22b, show (Int.toNat (IntKind.i64.wrap (3 + (IntKind.i64.wrap (3 * s2.1))))) + 1 ≤ (s2.2).length from p24b, arC_put p24b, arC_put (l := (s2.2.set (Int.toNat (IntKind.i64.wrap (3 + (IntKind.i64.wrap (3 * s2.1))))) x3.Used)) (i := (Int.toNat (IntKind.i64.wrap (2 + (IntKind.i64.wrap (3 * s2.1)))))) (by simpa using p22b)]; rfl) ?_ ?_
        ·
          refine ao_pure 10 rfl (by decide +kernel) (by decide +kernel) (by simp [pureP, pureB]) (fun c s h => by cases h.1) (by simp [p21, show (Int.toNat (IntKind.i64.wrap (2 + (IntKind.i64.wrap (3 * s2.1))))) + 1 ≤ (s2.2).length from p22, arC_put p22, p23, show (Int.toNat (IntKind.i64.wrap (3 + (IntKind.i64.wrap (3 * s2.1))))) + 1 ≤ ((s2.2.set (Int.toNat (IntKind.i64.wrap (2 + (IntKind.i64.wrap (3 * s2.1))))) x3.Stored)).length from p24, arC_put p24, (show (Int.toNat (IntKind.i64.wrap (3 + (IntKind.i64.wrap (3 * s2.1))))) + 1 ≤ (s2.2).length from Nat.succ_le_of_lt (by simpa using p24)), p21', p23', show (Int.toNat (IntKind.i64.wrap (2 + (IntKind.i64.wrap (3 * s2.1))))) + 1 ≤ (s2.2).length from p22b, show (Int.toNat (IntKind.i64.wrap (3 + (IntKind.i64.wrap (3 * s2.1))))) + 1 ≤ (s2.2).length from p24b, arC_put p24b, arC_put (l := (s2.2.set (Int.toNat (IntKind.i64.wrap (3 + (IntKind.i64.wrap (3 * s2.1))))) x3.Used)) (i := (Int.toNat (IntKind.i64.wrap (2 + (IntKind.i64.wrap (3 * s2.1)))))) (by simpa using p22b)]; rfl) ?_
          refine ao_all [9, 11] (by decide +kernel) (by decide) ?_
          refine aall_cons rfl (by simp [p21, show (Int.toNat (IntKind.i64.wrap (2 + (IntKind.i64.wrap (3 * s2.1))))) + 1 ≤ (s2.2).length from p22, arC_put p22, p23, show (Int.toNat (IntKind.i64.wrap (3 + (IntKind.i64.wrap (3 * s2.1))))) + 1 ≤ ((s2.2.set (Int.toNat (IntKind.i64.wrap (2 + (IntKind.i64.wrap (3 * s2.1))))) x3.Stored)).length from p24, arC_put p24, (show (Int.toNat (IntKind.i64.wrap (3 + (IntKind.i64.wrap (3 * s2.1))))) + 1 ≤ (s2.2).length from Nat.succ_le_of_lt (by simpa using p24)), p21', p23', show (Int.toNat (IntKind.i64.wrap (2 + (IntKind.i64.wrap (3 * s2.1))))) + 1 ≤ (s2.2).length from p22b, show (Int.toNat (IntKind.i64.wrap (3 + (IntKind.i64.wrap (3 * s2.1))))) + 1 ≤ (s2.2).length from p24b, arC_put p24b, arC_put (l := (s2.2.set (Int.toNat (IntKind.i64.wrap (3 + (IntKind.i64.wrap (3 * s2.1))))) x3.Used)) (i := (Int.toNat (IntKind.i64.wrap (2 + (IntKind.i64.wrap (3 * s2.1)))))) (by simpa using p22b)]; rfl) ?_ ?_
          ·
            refine ao_all [11] (by decide +kernel) (by decide) ?_
            refine aall_cons rfl (by simp [p21, show (Int.toNat (IntKind.i64.wrap (2 + (IntKind.i64.wrap (3 * s2.1))))) + 1 ≤ (s2.2).length from p22, arC_put p22, p23, show (Int.toNat (IntKind.i64.wrap (3 + (IntKind.i64.wrap (3 * s2.1))))) + 1 ≤ ((s2.2.set (Int.toNat (IntKind.i64.wrap (2 + (IntKind.i64.wrap (3 * s2.1))))) x3.Stored)).length from p24, arC_put p24, (show (Int.toNat (IntKind.i64.wrap (3 + (IntKind.i64.wrap (3 * s2.1))))) + 1 ≤ (s2.2).length from Nat.succ_le_of_lt (by simpa using p24)), p21', p23', show (Int.toNat (IntKind.i64.wrap (2 + (IntKind.i64.wrap (3 * s2.1))))) + 1 ≤ (s2.2).length from p22b, show (Int.toNat (IntKind.i64.wrap (3 + (IntKind.i64.wrap (3 * s2.1))))) + 1 ≤ (s2.2).length from p24b, arC_put p24b, arC_put (l := (s2.2.set (Int.toNat (IntKind.i64.wrap (3 + (IntKind.i64.wrap (3 * s2.1))))) x3.Used)) (i := (Int.toNat (IntKind.i64.wrap (2 + (IntKind.i64.wrap (3 * s2.1)))))) (by simpa using p22b)]; rfl) ?_ ?_
            ·
              refine ao_pure 12 rfl (by decide +kernel) (by decide +kernel) (by simp [pureP, pureB]) (fun c s h => by cases h.1) (by simp [p21, show (Int.toNat (IntKind.i64.wrap (2 + (IntKind.i64.wrap (3 * s2.1))))) + 1 ≤ (s2.2).length from p22, arC_put p22, p23, show (Int.toNat (IntKind.i64.wrap (3 + (IntKind.i64.wrap (3 * s2.1))))) + 1 ≤ ((s2.2.set (Int.toNat (IntKind.i64.wrap (2 + (IntKind.i64.wrap (3 * s2.1))))) x3.Stored)).length from p24, arC_put p24, (show (Int.toNat (IntKind.i64.wrap (3 + (IntKind.i64.wrap (3 * s2.1))))) + 1 ≤ (s2.2).length from Nat.succ_le_of_lt (by simpa using p24)), p21', p23', show (Int.toNat (IntKind.i64.wrap (2 + (IntKind.i64.wrap (3 * s2.1))))) + 1 ≤ (s2.2).length from p22b, show (Int.toNat (IntKind.i64.wrap (3 + (IntKind.i64.wrap (3 * s2.1))))) + 1 ≤ (s2.2).length from p24b, arC_put p24b, arC_put (l := (s2.2.set (Int.toNat (IntKind.i64.wrap (3 + (IntKind.i64.wrap (3 * s2.1))))) x3.Used)) (i := (Int.toNat (IntKind.i64.wrap (2 + (IntKind.i64.wrap (3 * s2.1)))))) (by simpa using p22b)]; rfl) ?_
              refine ao_all [13] (by decide +kernel) (by decide) ?_
              refine aall_cons rfl (by simp [p21, show (Int.toNat (IntKind.i64.wrap (2 + (IntKind.i64.wrap (3 * s2.1))))) + 1 ≤ (s2.2).length from p22, arC_put p22, p23, show (Int.toNat (IntKind.i64.wrap (3 + (IntKind.i64.wrap (3 * s2.1))))) + 1 ≤ ((s2.2.set (Int.toNat (IntKind.i64.wrap (2 + (IntKind.i64.wrap (3 * s2.1))))) x3.Stored)).length from p24, arC_put p24, (show (Int.toNat (IntKind.i64.wrap (3 + (IntKind.i64.wrap (3 * s2.1))))) + 1 ≤ (s2.2).length from Nat.succ_le_of_lt (by simpa using p24)), p21', p23', show (Int.toNat (IntKind.i64.wrap (2 + (IntKind.i64.wrap (3 * s2.1))))) + 1 ≤ (s2.2).length from p22b, show (Int.toNat (IntKind.i64.wrap (3 + (IntKind.i64.wrap (3 * s2.1))))) + 1 ≤ (s2.2).length from p24b, arC_put p24b, arC_put (l := (s2.2.set (Int.toNat (IntKind.i64.wrap (3 + (IntKind.i64.wrap (3 * s2.1))))) x3.Used)) (i := (Int.toNat (IntKind.i64.wrap (2 + (IntKind.i64.wrap (3 * s2.1)))))) (by simpa using p22b)]; rfl) ?_ ?_
              ·
                exact ao_end (by decide +kernel) ⟨rfl, weak_iff.2 (by simp [List.set_comm _ _ hcm25])⟩
              exact trivial
            exact trivial
          refine aall_cons rfl (by simp [p21, show (Int.toNat (IntKind.i64.wrap (2 + (IntKind.i64.wrap (3 * s2.1))))) + 1 ≤ (s2.2).length from p22, arC_put p22, p23, show (Int.toNat (IntKind.i64.wrap (3 + (IntKind.i64.wrap (3 * s2.1))))) + 1 ≤ ((s2.2.set (Int.toNat (IntKind.i64.wrap (2 + (IntKind.i64.wrap (3 * s2.1))))) x3.Stored)).length from p24, arC_put p24, (show (Int.toNat (IntKind.i64.wrap (3 + (IntKind.i64.wrap (3 * s2.1))))) + 1 ≤ (s2.2).length from Nat.succ_le_of_lt (by simpa using p24)), p21', p23', show (Int.toNat (IntKind.i64.wrap (2 + (IntKind.i64.wrap (3 * s2.1))))) + 1 ≤ (s2.2).length from p22b, show (Int.toNat (IntKind.i64.wrap (3 + (IntKind.i64.wrap (3 * s2.1))))) + 1 ≤ (s2.2).length from p24b, arC_put p24b, arC_put (l := (s2.2.set (Int.toNat (IntKind.i64.wrap (3 + (IntKind.i64.wrap (3 * s2.1))))) x3.Used)) (i := (Int.toNat (IntKind.i64.wrap (2 + (IntKind.i64.wrap (3 * s2.1)))))) (by simpa using p22b)]; rfl) ?_ ?_
          ·
            refine ao_all [9] (by decide +kernel) (by decide) ?_
            refine aall_cons rfl (by simp [p21, show (Int.toNat (IntKind.i64.wrap (2 + (IntKind.i64.wrap (3 * s2.1))))) + 1 ≤ (s2.2).length from p22, arC_put p22, p23, show (Int.toNat (IntKind.i64.wrap (3 + (IntKind.i64.wrap (3 * s2.1))))) + 1 ≤ ((s2.2.set (Int.toNat (IntKind.i64.wrap (2 + (IntKind.i64.wrap (3 * s2.1))))) x3.Stored)).length from p24, arC_put p24, (show (Int.toNat (IntKind.i64.wrap (3 + (IntKind.i64.wrap (3 * s2.1))))) + 1 ≤ (s2.2).length from Nat.succ_le_of_lt (by simpa using p24)), p21', p23', show (Int.toNat (IntKind.i64.wrap (2 + (IntKind.i64.wrap (3 * s2.1))))) + 1 ≤ (s2.2).length from p22b, show (Int.toNat (IntKind.i64.wrap (3 + (IntKind.i64.wrap (3 * s2.1))))) + 1 ≤ (s2.2).length from p24b, arC_put p24b, arC_put (l := (s2.2.set (Int.toNat (IntKind.i64.wrap (3 + (IntKind.i64.wrap (3 * s2.1))))) x3.Used)) (i := (Int.toNat (IntKind.i64.wrap (2 + (IntKind.i64.wrap (3 * s2.1)))))) (by simpa using p22b)]; rfl) ?_ ?_
            ·
              refine ao_pure 12 rfl (by decide +kernel) (by decide +kernel) (by simp [pureP, pureB]) (fun c s h => by cases h.1) (by simp [p21, show (Int.toNat (IntKind.i64.wrap (2 + (IntKind.i64.wrap (3 * s2.1))))) + 1 ≤ (s2.2).length from p22, arC_put p22, p23, show (Int.toNat (IntKind.i64.wrap (3 + (IntKind.i64.wrap (3 * s2.1))))) + 1 ≤ ((s2.2.set (Int.toNat (IntKind.i64.wrap (2 + (IntKind.i64.wrap (3 * s2.1))))) x3.Stored)).length from p24, arC_put p24, (show (Int.toNat (IntKind.i64.wrap (3 + (IntKind.i64.wrap (3 * s2.1))))) + 1 ≤ (s2.2).length from Nat.succ_le_of_lt (by simpa using p24)), p21', p23', show (Int.toNat (IntKind.i64.wrap (2 + (IntKind.i64.wrap (3 * s2.1))))) + 1 ≤ (s2.2).length from p22b, show (Int.toNat (IntKind.i64.wrap (3 + (IntKind.i64.wrap (3 * s2.1))))) + 1 ≤ (s2.2).length from p24b, arC_put p24b, arC_put (l := (s2.2.set (Int.toNat (IntKind.i64.wrap (3 + (IntKind.i64.wrap (3 * s2.1))))) x3.Used)) (i := (Int.toNat (IntKind.i64.wrap (2 + (IntKind.i64.wrap (3 * s2.1)))))) (by simpa using p22b)]; rfl) ?_
              refine ao_all [13] (by decide +kernel) (by decide) ?_
              refine aall_cons rfl (by simp [p21, show (Int.toNat (IntKind.i64.wrap (2 + (IntKind.i64.wrap (3 * s2.1))))) + 1 ≤ (s2.2).length from p22, arC_put p22, p23, show (Int.toNat (IntKind.i64.wrap (3 + (IntKind.i64.wrap (3 * s2.1))))) + 1 ≤ ((s2.2.set (Int.toNat (IntKind.i64.wrap (2 + (IntKind.i64.wrap (3 * s2.1))))) x3.Stored)).length from p24, arC_put p24, (show (Int.toNat (IntKind.i64.wrap (3 + (IntKind.i64.wrap (3 * s2.1))))) + 1 ≤ (s2.2).length from Nat.succ_le_of_lt (by simpa using p24)), p21', p23', show (Int.toNat (IntKind.i64.wrap (2 + (IntKind.i64.wrap (3 * s2.1))))) + 1 ≤ (s2.2).length from p22b, show (Int.toNat (IntKind.i64.wrap (3 + (IntKind.i64.wrap (3 * s2.1))))) + 1 ≤ (s2.2).length from p24b, arC_put p24b, arC_put (l := (s2.2.set (Int.toNat (IntKind.i64.wrap (3 + (IntKind.i64.wrap (3 * s2.1))))) x3.Used)) (i := (Int.toNat (IntKind.i64.wrap (2 + (IntKind.i64.wrap (3 * s2.1)))))) (by simpa using p22b)]; rfl) ?_ ?_
              ·
                exact ao_end (by decide +kernel) ⟨rfl, weak_iff.2 (by simp [List.set_comm _ _ hcm25])⟩
              exact trivial
            exact trivial
          exact trivial
        refine aall_cons rfl (by simp [p21, show (Int.toNat (IntKind.i64.wrap (2 + (IntKind.i64.wrap (3 * s2.1))))) + 1 ≤ (s2.2).length from p22, arC_put p22, p23, show (Int.toNat (IntKind.i64.wrap (3 + (IntKind.i64.wrap (3 * s2.1))))) + 1 ≤ ((s2.2.set (Int.toNat (IntKind.i64.wrap (2 + (IntKind.i64.wrap (3 * s2.1))))) x3.Stored)).length from p24, arC_put p24, (show (Int.toNat (IntKind.i64.wrap (3 + (IntKind.i64.wrap (3 * s2.1))))) + 1 ≤ (s2.2).length from Nat.succ_le_of_lt (by simpa using p24)), p21', p23', show (Int.toNat (IntKind.i64.wrap (2 + (IntKind.i64.wrap (3 * s2.1))))) + 1 ≤ (s2.2).length from p22b, show (Int.toNat (IntKind.i64.wrap (3 + (IntKind.i64.wrap (3 * s2.1))))) + 1 ≤ (s2.2).length from p24b, arC_put p24b, arC_put (l := (s2.2.set (Int.toNat (IntKind.i64.wrap (3 + (IntKind.i64.wrap (3 * s2.1))))) x3.Used)) (i := (Int.toNat (IntKind.i64.wrap (2 + (IntKind.i64.wrap (3 * s2.1)))))) (by simpa using p22b)]; rfl) ?_ ?_
        ·
          refine ao_all [7] (by decide +kernel) (by decide) ?_
          refine aall_cons rfl (by simp [p21, show (Int.toNat (IntKind.i64.wrap (2 + (IntKind.i64.wrap (3 * s2.1))))) + 1 ≤ (s2.2).length from p22, arC_put p22, p23, show (Int.toNat (IntKind.i64.wrap (3 + (IntKind.i64.wrap (3 * s2.1))))) + 1 ≤ ((s2.2.set (Int.toNat (IntKind.i64.wrap (2 + (IntKind.i64.wrap (3 * s2.1))))) x3.Stored)).length from p24, arC_put p24, (show (Int.toNat (IntKind.i64.wrap (3 + (IntKind.i64.wrap (3 * s2.1))))) + 1 ≤ (s2.2).length from Nat.succ_le_of_lt (by simpa using p24)), p21', p23', show (Int.toNat (IntKind.i64.wrap (2 + (IntKind.i64.wrap (3 * s2.1))))) + 1 ≤ (s2.2).length from p22b, show (Int.toNat (IntKind.i64.wrap (3 + (IntKind.i64.wrap (3 * s2.1))))) + 1 ≤ (s2.2).length from p24b, arC_put p24b, arC_put (l := (s2.2.set (Int.toNat (IntKind.i64.wrap (3 + (IntKind.i64.wrap (3 * s2.1))))) x3.Used)) (i := (Int.toNat (IntKind.i64.wrap (2 + (IntKind.i64.wrap (3 * s2.1)))))) (by simpa using p22b)]; rfl) ?_ ?_
          ·
            refine ao_pure 10 rfl (by decide +kernel) (by decide +kernel) (by simp [pureP, pureB]) (fun c s h => by cases h.1) (by simp [p21, show (Int.toNat (IntKind.i64.wrap (2 + (IntKind.i64.wrap (3 * s2.1))))) + 1 ≤ (s2.2).length from p22, arC_put p22, p23, show (Int.toNat (IntKind.i64.wrap (3 + (IntKind.i64.wrap (3 * s2.1))))) + 1 ≤ ((s2.2.set (Int.toNat (IntKind.i64.wrap (2 + (IntKind.i64.wrap (3 * s2.1))))) x3.Stored)).length from p24, arC_put p24, (show (Int.toNat (IntKind.i64.wrap (3 + (IntKind.i64.wrap (3 * s2.1))))) + 1 ≤ (s2.2).length from Nat.succ_le_of_lt (by simpa using p24)), p21', p23', show (Int.toNat (IntKind.i64.wrap (2 + (IntKind.i64.wrap (3 * s2.1))))) + 1 ≤ (s2.2).length from p22b, show (Int.toNat (IntKind.i64.wrap (3 + (IntKind.i64.wrap (3 * s2.1))))) + 1 ≤ (s2.2).length from p24b, arC_put p24b, arC_put (l := (s2.2.set (Int.toNat (IntKind.i64.wrap (3 + (IntKind.i64.wrap (3 * s2.1))))) x3.Used)) (i := (Int.toNat (IntKind.i64.wrap (2 + (IntKind.i64.wrap (3 * s2.1)))))) (by simpa using p22b)]; rfl) ?_
            refine ao_all [11] (by decide +kernel) (by decide) ?_
            refine aall_cons rfl (by simp [p21, show (Int.toNat (IntKind.i64.wrap (2 + (IntKind.i64.wrap (3 * s2.1))))) + 1 ≤ (s2.2).length from p22, arC_put p22, p23, show (Int.toNat (IntKind.i64.wrap (3 + (IntKind.i64.wrap (3 * s2.1))))) + 1 ≤ ((s2.2.set (Int.toNat (IntKind.i64.wrap (2 + (IntKind.i64.wrap (3 * s2.1))))) x3.Stored)).length from p24, arC_put p24, (show (Int.toNat (IntKind.i64.wrap (3 + (IntKind.i64.wrap (3 * s2.1))))) + 1 ≤ (s2.2).length from Nat.succ_le_of_lt (by simpa using p24)), p21', p23', show (Int.toNat (IntKind.i64.wrap (2 + (IntKind.i64.wrap (3 * s2.1))))) + 1 ≤ (s2.2).length from p22b, show (Int.toNat (IntKind.i64.wrap (3 + (IntKind.i64.wrap (3 * s2.1))))) + 1 ≤ (s2.2).length from p24b, arC_put p24b, arC_put (l := (s2.2.set (Int.toNat (IntKind.i64.wrap (3 + (IntKind.i64.wrap (3 * s2.1))))) x3.Used)) (i := (Int.toNat (IntKind.i64.wrap (2 + (IntKind.i64.wrap (3 * s2.1)))))) (by simpa using p22b)]; rfl) ?_ ?_
            ·
              refine ao_pure 12 rfl (by decide +kernel) (by decide +kernel) (by simp [pureP, pureB]) (fun c s h => by cases h.1) (by simp [p21, show (Int.toNat (IntKind.i64.wrap (2 + (IntKind.i64.wrap (3 * s2.1))))) + 1 ≤ (s2.2).length from p22, arC_put p22, p23, show (Int.toNat (IntKind.i64.wrap (3 + (IntKind.i64.wrap (3 * s2.1))))) + 1 ≤ ((s2.2.set (Int.toNat (IntKind.i64.wrap (2 + (IntKind.i64.wrap (3 * s2.1))))) x3.Stored)).length from p24, arC_put p24, (show (Int.toNat (IntKind.i64.wrap (3 + (IntKind.i64.wrap (3 * s2.1))))) + 1 ≤ (s2.2).length from Nat.succ_le_of_lt (by simpa using p24)), p21', p23', show (Int.toNat (IntKind.i64.wrap (2 + (IntKind.i64.wrap (3 * s2.1))))) + 1 ≤ (s2.2).length from p22b, show (Int.toNat (IntKind.i64.wrap (3 + (IntKind.i64.wrap (3 * s2.1))))) + 1 ≤ (s2.2).length from p24b, arC_put p24b, arC_put (l := (s2.2.set (Int.toNat (IntKind.i64.wrap (3 + (IntKind.i64.wrap (3 * s2.1))))) x3.Used)) (i := (Int.toNat (IntKind.i64.wrap (2 + (IntKind.i64.wrap (3 * s2.1)))))) (by simpa using p22b)]; rfl) ?_
              refine ao_all [13] (by decide +kernel) (by decide) ?_
              refine aall_cons rfl (by simp [p21, show (Int.toNat (IntKind.i64.wrap (2 + (IntKind.i64.wrap (3 * s2.1))))) + 1 ≤ (s2.2).length from p22, arC_put p22, p23, show (Int.toNat (IntKind.i64.wrap (3 + (IntKind.i64.wrap (3 * s2.1))))) + 1 ≤ ((s2.2.set (Int.toNat (IntKind.i64.wrap (2 + (IntKind.i64.wrap (3 * s2.1))))) x3.Stored)).length from p24, arC_put p24, (show (Int.toNat (IntKind.i64.wrap (3 + (IntKind.i64.wrap (3 * s2.1))))) + 1 ≤ (s2.2).length from Nat.succ_le_of_lt (by simpa using p24)), p21', p23', show (Int.toNat (IntKind.i64.wrap (2 + (IntKind.i64.wrap (3 * s2.1))))) + 1 ≤ (s2.2).length from p22b, show (Int.toNat (IntKind.i64.wrap (3 + (IntKind.i64.wrap (3 * s2.1))))) + 1 ≤ (s2.2).length from p24b, arC_put p24b, arC_put (l := (s2.2.set (Int.toNat (IntKind.i64.wrap (3 + (IntKind.i64.wrap (3 * s2.1))))) x3.Used)) (i := (Int.toNat (IntKind.i64.wrap (2 + (IntKind.i64.wrap (3 * s2.1)))))) (by simpa using p22b)]; rfl) ?_ ?_
              ·
                exact ao_end (by decide +kernel) ⟨rfl, weak_iff.2 (by simp [List.set_comm _ _ hcm25])⟩
              exact trivial
            exact trivial
          exact trivial
        exact trivial
      ·
        refine kr [2, 3, 4, 15, 16, 17, 35] (by simp; rfl) ?_
        refine tr_cond (b := x3.Up) (by simp) (fun c6 => ?_) (fun c6 => ?_)
        · rw [if_pos c6] at h1
          replace h1 := bnd h1; obtain ⟨_, p26, h1⟩ := h1
          replace p26 := ck_some p26
          have p26' := p26; try simp at p26'
          replace h1 := bnd h1; obtain ⟨_, p27, h1⟩ := h1
          replace p27 := ck_some p27
          refine lr (by simp [p26, show (Int.toNat (IntKind.i64.wrap (4 + (IntKind.i64.wrap (3 * s2.1))))) + 1 ≤ (((s2.2.set (Int.toNat (IntKind.i64.wrap (2 + (IntKind.i64.wrap (3 * s2.1))))) x3.Stored).set (Int.toNat (IntKind.i64.wrap (3 + (IntKind.i64.wrap (3 * s2.1))))) x3.Used)).length from p27, arC_put p27, (show (Int.toNat (IntKind.i64.wrap (4 + (IntKind.i64.wrap (3 * s2.1))))) + 1 ≤ (s2.2).length from Nat.succ_le_of_lt (by simpa using p27)), p26']; rfl) ?_
          refine lr (by simp; rfl) ?_
          exact ⟨_, hg1 _ (Option.some.inj h1), wk (by simp [weak_iff])⟩
        · rw [if_neg (by rw [c6]; decide)] at h1
          refine tr_skip ?_
          refine lr (by simp; rfl) ?_
          exact ⟨_, hg1 _ (Option.some.inj h1), wk (by simp [weak_iff])⟩
    · rw [if_neg (by rw [c5]; decide)] at h1
      refine tr_exit ?_
      exact ⟨_, he1 _ (Option.some.inj h1), wk (by simp [weak_iff])⟩
set_option maxHeartbeats 1000000 in
theorem fleet_Served_ok {a0 : api_Fleet} {a1 : api_Rotation} {r : (List Int)} (h0 : fleet_Served a0 a1 = some r) : FnOK Try.prog 103 [] [.agg (api_Fleet_av a0), .agg (api_Rotation_av a1)] (.d (.slice (rowsF (iRow .i64) r))) [] := by
  unfold fleet_Served at h0
  refine fn_ok (nt := 40) (rs := [.tmp 4]) Try.func103 rfl Try.ntmps103 rfl (by simp) (by decide) rfl fun K => ?_
  refine kr [2, 3] (by simp; rfl) ?_
  refine tr_seq ?_
  refine kc ?_
  refine ko [2, 3, 8, 9] 2 (by simp; rfl) ?_
  replace h0 := bnd h0; obtain ⟨y1, hy1, h0⟩ := h0
  refine kcall [2, 3, 10] [] (fleet_Right_ok hy1) rfl rfl rfl Try.call49 (by simp) (by simp; rfl) ?_
  refine ko [2, 3, 11] 1 (by simp; rfl) ?_
  refine tops_nil ?_
  refine tr_cond (b := (!y1)) (by simp) (fun c1 => ?_) (fun c1 => ?_)
  · rw [if_pos c1] at h0
    refine kr [4] (by simp; rfl) ?_
    cases h0
    exact tr_ret ⟨[], by simp, rfl, by simp⟩
  · rw [if_neg (by rw [c1]; decide)] at h0
    refine tr_skip ?_
    refine kr [2, 3, 5] (by simp; rfl) ?_
    refine tr_seq ?_
    refine kr [3, 5, 13, 14, 15] (by simp; rfl) ?_
    refine tr_wk (wk_own 5 34 3 1 (by simp) (by simp)) ?_
    replace h0 := bnd h0; obtain ⟨e1, hI1, h0⟩ := h0
    refine tjv (fun v2 : (List Int) => ({ nt := 40, env := [(5, .vec 34)], box := [], vec := [(34, ⟨3, 1, rowsF (iRow .i64) v2⟩)] } : St)) (fun v2 => v2 = e1) (fun v2 hI1e _ W1 => ?_) ?_
    · subst hI1e
      refine tr_wk W1 ?_
      refine kc ?_
      refine ko [5, 36] 1 (by simp; rfl) ?_
      replace h0 := bnd h0; obtain ⟨y3, hy3, h0⟩ := h0
      refine kcallH [5] [] [34] [(5, 34), (36, 34)] (slices_Sort_int_vec0_ok hy3) rfl rfl rfl Try.call63 (by simp) (by simp; rfl) ?_
      refine tops_nil ?_
      refine kc ?_
      refine ko [38] 1 (by simp; rfl) ?_
      replace h0 := bnd h0; obtain ⟨y4, hy4, h0⟩ := h0
      refine kcallV [39] [] [34] [600156] (slices_Compact_int_eat0_own0_ok hy4) rfl rfl rfl Try.call64 (by simp) (by simp; rfl) ?_
      refine ko [4] 1 (by simp; rfl) ?_
      refine tops_nil ?_
      cases h0
      exact tr_ret ⟨[600156], by simp, rfl, by simp⟩
    · refine tr_block (tr_iter (fun s5 : Int × (List Int) => ({ nt := 40, env := [(3, .ptr 3 0), (5, .vec 34), (13, .d (.slice (rowsF api_Consumer_row a0.Consumers))), (14, .d (.int .i64 ((a0.Consumers).length : Int))), (15, .d (.int .i64 s5.1))], box := [(3, [.d (.int .i64 a1.Known), .d (.int .i64 a1.Valid), .d (.slice (rowsF api_Unit_row a1.Units))])], vec := [(34, ⟨3, 1, rowsF (iRow .i64) s5.2⟩)] } : St)) hI1 (wk (by simp [weak_iff])) fun G1 s5 o1 h1 hg1 he1 => ?_)
      unfold fleet_Served_l0 at h1
      refine kr [3, 5, 13, 14, 15, 16] (by simp; rfl) ?_
      refine tr_seq ?_
      refine tr_cond (b := (decide (s5.1 < ((a0.Consumers).length : Int)))) (by simp) (fun c8 => ?_) (fun c8 => ?_)
      · rw [if_pos c8] at h1
        refine tr_skip ?_
        refine tr_seq ?_
        refine tr_block ?_
        replace h1 := bnd h1; obtain ⟨x6, p15, h1⟩ := h1
        replace p15 := idx_some p15
        have p15' := p15; try simp at p15'
        refine kr [3, 5, 6, 7, 13, 14, 15] (by simp [p15, p15']; rfl) ?_
        refine kd [[], [0], [], [1, 2], [3], [4], [], [6], [5, 7], [8]] [] [] none [] 10 fol (by decide +kernel) (by simp) ?_
        replace h1 := bnd h1; obtain ⟨x7, p18, h1⟩ := h1
        replace p18 := idx_some p18
        have p18' := p18; try simp at p18'
        refine dr_go 0 2 rfl (by simp (maxSteps := 1000000) [p18, p18']; rfl) ?_
        refine dr_go 2 2 rfl (by simp (maxSteps := 1000000) [p18, p18']; rfl) ?_
        refine dr_go 4 2 rfl (by simp (maxSteps := 1000000) [p18, p18']; rfl) ?_
        refine dr_go 6 2 rfl (by simp (maxSteps := 1000000) [p18, p18']; rfl) ?_
        refine dr_go 8 2 rfl (by simp (maxSteps := 1000000) [p18, p18']; rfl) ?_
        refine dr_end rfl (tops_nil ?_)
        refine tr_cond (b := ((bAnd .i64 x7.Used a1.Valid) != 0)) (by simp) (fun c9 => ?_) (fun c9 => ?_)
        · rw [if_pos c9] at h1
          replace h1 := bnd h1; obtain ⟨_, p19, h1⟩ := h1
          replace p19 := ck_some p19
          have p19' := p19; try simp at p19'
          refine lr (by simp [p19, p19']; rfl) ?_
          refine lr (by simp; rfl) ?_
          exact ⟨_, hg1 _ (Option.some.inj h1), wk (by simp [weak_iff])⟩
        · rw [if_neg (by rw [c9]; decide)] at h1
          refine tr_skip ?_
          refine lr (by simp; rfl) ?_
          exact ⟨_, hg1 _ (Option.some.inj h1), wk (by simp [weak_iff])⟩
      · rw [if_neg (by rw [c8]; decide)] at h1
        refine tr_exit ?_
        exact ⟨_, he1 _ (Option.some.inj h1), wk (by simp [weak_iff])⟩
set_option maxHeartbeats 1000000 in
theorem slices_Index_int_ok {a0 : List Int} {a1 : Int} {r : Int} (h0 : slices_Index_int a0 a1 = some r) : FnOK Try.prog 115 [] [.d (.slice (rowsF (iRow .i64) a0)), .d (.int .i64 a1)] (.d (.int .i64 r)) [] := by
  unfold slices_Index_int at h0
  refine fn_ok (nt := 19) (rs := [.tmp 4]) Try.func115 rfl Try.ntmps115 rfl (by simp) (by decide) rfl fun K => ?_
  refine kr [0, 1] (by simp; rfl) ?_
  refine tr_seq ?_
  refine kr [0, 1, 7, 8] (by simp; rfl) ?_
  replace h0 := bnd h0; obtain ⟨e1, hI1, h0⟩ := h0
  refine tjv (fun v1 : Unit => ({ nt := 19, env := [], box := [], vec := [] } : St)) (fun v1 => .inl v1 = e1) (fun v1 hI1e _ W1 => ?_) ?_
  · subst hI1e
    dsimp only at h0
    refine tr_wk W1 ?_
    refine kr [4] (by simp; rfl) ?_
    cases h0
    exact tr_ret ⟨[], by simp, rfl, by simp⟩
  · refine tr_block (tr_iter (fun s2 : Int => ({ nt := 19, env := [(0, .d (.slice (rowsF (iRow .i64) a0))), (1, .d (.int .i64 a1)), (7, .d (.int .i64 ((a0).length : Int))), (8, .d (.int .i64 s2))], box := [], vec := [] } : St)) hI1 (wk (by simp [weak_iff])) fun G1 s2 o1 h1 hg1 he1 => ?_)
    unfold slices_Index_int_l0 at h1
    refine kr [0, 1, 7, 8, 9] (by simp; rfl) ?_
    refine tr_seq ?_
    refine tr_cond (b := (decide (s2 < ((a0).length : Int)))) (by simp) (fun c5 => ?_) (fun c5 => ?_)
    · rw [if_pos c5] at h1
      refine tr_skip ?_
      refine tr_seq ?_
      refine tr_block ?_
      refine kr [0, 1, 5, 7, 8] (by simp; rfl) ?_
      replace h1 := bnd h1; obtain ⟨x3, p3, h1⟩ := h1
      replace p3 := idx_some p3
      have p3' := p3; try simp at p3'
      refine kr [0, 1, 5, 7, 8, 16] (by simp [p3, p3']; rfl) ?_
      refine tr_cond (b := (a1 == x3)) (by simp) (fun c6 => ?_) (fun c6 => ?_)
      · rw [if_pos c6] at h1
        refine kr [4] (by simp; rfl) ?_
        have k1 := he1 _ (Option.some.inj h1)
        subst k1
        dsimp only at h0
        cases h0
        exact tr_ret ⟨[], by simp, rfl, by simp⟩
      · rw [if_neg (by rw [c6]; decide)] at h1
        refine tr_skip ?_
        refine lr (by simp; rfl) ?_
        exact ⟨_, hg1 _ (Option.some.inj h1), wk (by simp [weak_iff])⟩
    · rw [if_neg (by rw [c5]; decide)] at h1
      refine tr_exit ?_
      exact ⟨_, he1 _ (Option.some.inj h1), wk (by simp [weak_iff])⟩
set_option maxHeartbeats 1000000 in
theorem slices_Contains_int_ok {a0 : List Int} {a1 : Int} {r : Bool} (h0 : slices_Contains_int a0 a1 = some r) : FnOK Try.prog 106 [] [.d (.slice (rowsF (iRow .i64) a0)), .d (.int .i64 a1)] (.d (.bool r)) [] := by
  unfold slices_Contains_int at h0
  refine fn_ok (nt := 9) (rs := [.tmp 4]) Try.func106 rfl Try.ntmps106 rfl (by simp) (by decide) rfl fun K => ?_
  refine kr [0, 1] (by simp; rfl) ?_
  refine kc ?_
  refine ko [5, 6] 2 (by simp; rfl) ?_
  replace h0 := bnd h0; obtain ⟨y1, hy1, h0⟩ := h0
  refine kcall [7] [] (slices_Index_int_ok hy1) rfl rfl rfl Try.call115 (by simp) (by simp; rfl) ?_
  refine ko [4] 2 (by simp; rfl) ?_
  refine tops_nil ?_
  cases h0
  exact tr_ret ⟨[], by simp, rfl, by simp⟩
set_option maxHeartbeats 1000000 in
theorem steps_holds_1_cb_ok {a0 : Int} {a1 : List Int} {r : Bool × (List Int)} (h0 : steps_holds_1_cb a0 a1 = some r) : FnOK Try.prog 105 [[.d (.slice (rowsF (iRow .i64) a1))]] [.d (.int .i64 a0), .ptr (InO 0) 0] (.d (.bool r.1)) [[.d (.slice (rowsF (iRow .i64) r.2))]] := by
  unfold steps_holds_1_cb at h0
  refine fn_ok (nt := 8) (rs := [.tmp 3]) Try.func105 rfl Try.ntmps105 rfl (by simp) (by decide) rfl fun K => ?_
  refine kr [0, 1] (by simp; rfl) ?_
  refine kc ?_
  refine ko [4, 5] 2 (by simp; rfl) ?_
  replace h0 := bnd h0; obtain ⟨y1, hy1, h0⟩ := h0
  refine kcall [6] [] (slices_Contains_int_ok hy1) rfl rfl rfl Try.call106 (by simp) (by simp; rfl) ?_
  refine ko [3] 2 (by simp; rfl) ?_
  refine tops_nil ?_
  cases h0
  exact tr_ret ⟨[], by simp, rfl, by simp⟩
set_option maxHeartbeats 1000000 in
theorem slices_IndexFunc_int_at_steps_holds_1_b_ok {a0 : List Int} {b10 : List Int} {r : Int × (List Int)} (h0 : slices_IndexFunc_int_at_steps_holds_1_b a0 b10 = some r) : FnOK Try.prog 88 [[.d (.slice (rowsF (iRow .i64) b10))]] [.d (.slice (rowsF (iRow .i64) a0)), .fn 105 [.ptr (InO 0) 0]] (.d (.int .i64 r.1)) [[.d (.slice (rowsF (iRow .i64) r.2))]] := by
  unfold slices_IndexFunc_int_at_steps_holds_1_b at h0
  refine fn_ok (nt := 19) (rs := [.tmp 4]) Try.func88 rfl Try.ntmps88 rfl (by simp) (by decide) rfl fun K => ?_
  refine kr [0, 1] (by simp; rfl) ?_
  refine tr_seq ?_
  refine kr [0, 1, 7, 8] (by simp; rfl) ?_
  replace h0 := bnd h0; obtain ⟨e1, hI1, h0⟩ := h0
  refine tjv (fun v1 : (List Int) => ({ nt := 19, env := [], box := [(1000000, [.d (.slice (rowsF (iRow .i64) v1))])], vec := [] } : St)) (fun v1 => .inl v1 = e1) (fun v1 hI1e _ W1 => ?_) ?_
  · subst hI1e
    dsimp only at h0
    refine tr_wk W1 ?_
    refine kr [4] (by simp; rfl) ?_
    cases h0
    exact tr_ret ⟨[], by simp, rfl, by simp⟩
  · refine tr_block (tr_iter (fun s2 : Int × (List Int) => ({ nt := 19, env := [(0, .d (.slice (rowsF (iRow .i64) a0))), (1, .fn 105 [.ptr 1000000 0]), (7, .d (.int .i64 ((a0).length : Int))), (8, .d (.int .i64 s2.1))], box := [(1000000, [.d (.slice (rowsF (iRow .i64) s2.2))])], vec := [] } : St)) hI1 (wk (by simp [weak_iff])) fun G1 s2 o1 h1 hg1 he1 => ?_)
    unfold slices_IndexFunc_int_at_steps_holds_1_b_l0 at h1
    refine kr [0, 1, 7, 8, 9] (by simp; rfl) ?_
    refine tr_seq ?_
    refine tr_cond (b := (decide (s2.1 < ((a0).length : Int)))) (by simp) (fun c5 => ?_) (fun c5 => ?_)
    · rw [if_pos c5] at h1
      refine tr_skip ?_
      refine tr_seq ?_
      refine tr_block ?_
      refine kr [0, 1, 5, 7, 8] (by simp; rfl) ?_
      refine kc ?_
      replace h1 := bnd h1; obtain ⟨x3, p3, h1⟩ := h1
      replace p3 := idx_some p3
      have p3' := p3; try simp at p3'
      refine ko [0, 1, 5, 7, 8, 11, 15] 5 (by simp [p3, p3']; rfl) ?_
      replace h1 := bnd h1; obtain ⟨y4, hy4, h1⟩ := h1
      refine kcallV [0, 1, 5, 7, 8, 16] [1000000] [] [] (steps_holds_1_cb_ok hy4) rfl rfl rfl Try.call105 (by simp) (by simp; rfl) ?_
      refine tops_nil ?_
      refine tr_cond (b := y4.1) (by simp) (fun c6 => ?_) (fun c6 => ?_)
      · rw [if_pos c6] at h1
        refine kr [4] (by simp; rfl) ?_
        have k1 := he1 _ (Option.some.inj h1)
        subst k1
        dsimp only at h0
        cases h0
        exact tr_ret ⟨[], by simp, rfl, by simp⟩
      · rw [if_neg (by rw [c6]; decide)] at h1
        refine tr_skip ?_
        refine lr (by simp; rfl) ?_
        exact ⟨_, hg1 _ (Option.some.inj h1), wk (by simp [weak_iff])⟩
    · rw [if_neg (by rw [c5]; decide)] at h1
      refine tr_exit ?_
      exact ⟨_, he1 _ (Option.some.inj h1), wk (by simp [weak_iff])⟩
set_option maxHeartbeats 1000000 in
theorem slices_ContainsFunc_int_at_steps_holds_1_b_ok {a0 : List Int} {b10 : List Int} {r : Bool × (List Int)} (h0 : slices_ContainsFunc_int_at_steps_holds_1_b a0 b10 = some r) : FnOK Try.prog 104 [[.d (.slice (rowsF (iRow .i64) b10))]] [.d (.slice (rowsF (iRow .i64) a0)), .fn 105 [.ptr (InO 0) 0]] (.d (.bool r.1)) [[.d (.slice (rowsF (iRow .i64) r.2))]] := by
  unfold slices_ContainsFunc_int_at_steps_holds_1_b at h0
  refine fn_ok (nt := 9) (rs := [.tmp 4]) Try.func104 rfl Try.ntmps104 rfl (by simp) (by decide) rfl fun K => ?_
  refine kr [0, 1] (by simp; rfl) ?_
  refine kc ?_
  refine ko [5, 6] 2 (by simp; rfl) ?_
  replace h0 := bnd h0; obtain ⟨y1, hy1, h0⟩ := h0
  refine kcall [7] [1000000] (slices_IndexFunc_int_at_steps_holds_1_b_ok hy1) rfl rfl rfl Try.call88 (by simp) (by simp; rfl) ?_
  refine ko [4] 2 (by simp; rfl) ?_
  refine tops_nil ?_
  cases h0
  exact tr_ret ⟨[], by simp, rfl, by simp⟩
set_option maxHeartbeats 1000000 in
theorem steps_holds_ok {a0 : api_Fleet} {a1 : api_Rotation} {a2 : api_Rotation} {r : Bool} (h0 : steps_holds a0 a1 a2 = some r) : FnOK Try.prog 82 [] [.agg (api_Fleet_av a0), .agg (api_Rotation_av a1), .agg (api_Rotation_av a2)] (.d (.bool r)) [] := by
  unfold steps_holds at h0
  refine fn_ok (nt := 17) (rs := [.tmp 6]) Try.func82 rfl Try.ntmps82 rfl (by simp) (by decide) rfl fun K => ?_
  refine kr [3, 4, 5] (by simp; rfl) ?_
  refine kc ?_
  refine ko [3, 4, 8, 9] 2 (by simp; rfl) ?_
  replace h0 := bnd h0; obtain ⟨y1, hy1, h0⟩ := h0
  refine kcall [3, 4, 10] [] (fleet_Served_ok hy1) rfl rfl rfl Try.call103 (by simp) (by simp; rfl) ?_
  refine ko [3, 4, 7] 2 (by simp; rfl) ?_
  refine tops_nil ?_
  refine kc ?_
  refine ko [7, 11, 12] 2 (by simp; rfl) ?_
  replace h0 := bnd h0; obtain ⟨y2, hy2, h0⟩ := h0
  refine kcall [7, 13] [] (fleet_Served_ok hy2) rfl rfl rfl Try.call103 (by simp) (by simp; rfl) ?_
  refine ko [13, 14] 1 (by simp; rfl) ?_
  replace h0 := bnd h0; obtain ⟨y3, hy3, h0⟩ := h0
  refine kcall [15] [7] (slices_ContainsFunc_int_at_steps_holds_1_b_ok hy3) rfl rfl rfl Try.call104 (by simp) (by simp; rfl) ?_
  refine ko [6] 2 (by simp; rfl) ?_
  refine tops_nil ?_
  cases h0
  exact tr_ret ⟨[], by simp, rfl, by simp⟩
set_option maxHeartbeats 1000000 in
theorem steps_Safe_ok {a0 : api_Fleet} {a1 : api_Rotation} {a2 : api_Step} {r : Bool} (h0 : steps_Safe a0 a1 a2 = some r) : FnOK Try.prog 67 [] [.agg (api_Fleet_av a0), .agg (api_Rotation_av a1), .agg (api_Step_av a2)] (.d (.bool r)) [] := by
  unfold steps_Safe at h0
  refine fn_ok (nt := 24) (rs := [.tmp 6]) Try.func67 rfl Try.ntmps67 rfl (by simp) (by decide) rfl fun K => ?_
  refine kr [3, 4, 5] (by simp; rfl) ?_
  refine kc ?_
  refine ko [3, 4, 10, 11, 12] 3 (by simp; rfl) ?_
  replace h0 := bnd h0; obtain ⟨y1, hy1, h0⟩ := h0
  refine kcall [3, 4, 13] [] (steps_Apply_ok hy1) rfl rfl rfl Try.call52 (by simp) (by simp; rfl) ?_
  refine ko [3, 4, 7, 8] 6 (by simp; rfl) ?_
  refine tops_nil ?_
  replace h0 := bnd h0; obtain ⟨v2, hvv2, h0⟩ := h0
  refine sjv (fun v2_ : Bool => ({ nt := 24, env := [(6, .d (.bool v2_))], box := [], vec := [] } : St)) (fun v2_ => v2 = v2_) (fun v2_ e => ?_) ?_
  · subst e
    cases h0
    exact tr_ret ⟨[], by simp, rfl, by simp⟩
  · refine kc1 ?_
    refine ko [3, 4, 7, 18] 3 (by simp; rfl) ?_
    refine tops_split 18 (y1.2 == 0) (by simp) (fun c3 => ?_) (fun c3 => ?_)
    · rw [if_pos c3] at hvv2
      refine ko [18, 19, 20, 21] 3 (by simp; rfl) ?_
      replace hvv2 := bnd hvv2; obtain ⟨y3, hy3, hvv2⟩ := hvv2
      refine kcall [18, 22] [] (steps_holds_ok hy3) rfl rfl rfl Try.call82 (by simp) (by simp; rfl) ?_
      refine ko [6] 2 (by simp; rfl) ?_
      refine tops_nil ?_
      cases hvv2
      exact ⟨_, rfl, wk (by simp [weak_iff])⟩
    · rw [if_neg (by rw [c3]; decide)] at hvv2
      refine kskip 4 [] (by kernel_rfl) ?_
      refine ko [6] 2 (by simp; rfl) ?_
      refine tops_nil ?_
      cases hvv2
      exact ⟨_, rfl, wk (by simp [weak_iff])⟩
set_option maxHeartbeats 1000000 in
theorem steps_Choices_ok {a0 : api_Fleet} {a1 : api_Rotation} {r : (List api_Step)} (h0 : steps_Choices a0 a1 = some r) : FnOK Try.prog 51 [] [.agg (api_Fleet_av a0), .agg (api_Rotation_av a1)] (.d (.slice (rowsF api_Step_row r))) [] := by
  unfold steps_Choices at h0
  refine fn_ok (nt := 32) (rs := [.tmp 4]) Try.func51 rfl Try.ntmps51 rfl (by simp) (by decide) rfl fun K => ?_
  refine kr [2, 3] (by simp; rfl) ?_
  refine kr [2, 3, 5] (by simp; rfl) ?_
  refine tr_seq ?_
  refine kr [2, 3, 5, 6] (by simp; rfl) ?_
  refine tr_wk (wk_own 5 29 43 2 (by simp) (by simp)) ?_
  replace h0 := bnd h0; obtain ⟨e1, hI1, h0⟩ := h0
  refine tjv (fun v1 : (List api_Step) => ({ nt := 32, env := [(5, .vec 29)], box := [], vec := [(29, ⟨43, 2, rowsF api_Step_row v1⟩)] } : St)) (fun v1 => v1 = e1) (fun v1 hI1e _ W1 => ?_) ?_
  · subst hI1e
    refine tr_wk W1 ?_
    refine kr [4] (by simp; rfl) ?_
    cases h0
    exact tr_ret ⟨[29], by simp, rfl, by simp⟩
  · refine tr_block (tr_iter (fun s2 : Int × (List api_Step) => ({ nt := 32, env := [(2, .ptr 2 0), (3, .ptr 3 0), (5, .vec 29), (6, .d (.int .i64 s2.1))], box := [(2, [.d (.int .i64 a0.Slots), .d (.slice (rowsF api_Consumer_row a0.Consumers))]), (3, [.d (.int .i64 a1.Known), .d (.int .i64 a1.Valid), .d (.slice (rowsF api_Unit_row a1.Units))])], vec := [(29, ⟨43, 2, rowsF api_Step_row s2.2⟩)] } : St)) hI1 (wk (by simp [weak_iff])) fun G1 s2 o1 h1 hg1 he1 => ?_)
    unfold steps_Choices_l0 at h1
    refine tr_seq ?_
    refine kr [2, 3, 5, 6, 10] (by simp; rfl) ?_
    refine tr_cond (b := (decide (s2.1 ≤ 8))) (by simp) (fun c18 => ?_) (fun c18 => ?_)
    · rw [if_pos c18] at h1
      refine tr_skip ?_
      refine tr_seq ?_
      refine tr_block ?_
      refine kr [2, 3, 5, 6, 15, 16] (by simp; rfl) ?_
      replace h1 := bnd h1; obtain ⟨e2, hI2, h1⟩ := h1
      refine tjv (fun v3 : (List api_Step) => ({ nt := 32, env := [(2, .ptr 2 0), (3, .ptr 3 0), (5, .vec 29), (6, .d (.int .i64 s2.1))], box := [(2, [.d (.int .i64 a0.Slots), .d (.slice (rowsF api_Consumer_row a0.Consumers))]), (3, [.d (.int .i64 a1.Known), .d (.int .i64 a1.Valid), .d (.slice (rowsF api_Unit_row a1.Units))])], vec := [(29, ⟨43, 2, rowsF api_Step_row v3⟩)] } : St)) (fun v3 => v3 = e2) (fun v3 hI2e _ W2 => ?_) ?_
      · subst hI2e
        refine tr_wk W2 ?_
        refine lr (by simp; rfl) ?_
        exact ⟨_, hg1 _ (Option.some.inj h1), wk (by simp [weak_iff])⟩
      · refine tr_block (tr_iter (fun s4 : Int × (List api_Step) => ({ nt := 32, env := [(2, .ptr 2 0), (3, .ptr 3 0), (5, .vec 29), (6, .d (.int .i64 s2.1)), (15, .d (.int .i64 ((a1.Units).length : Int))), (16, .d (.int .i64 s4.1))], box := [(2, [.d (.int .i64 a0.Slots), .d (.slice (rowsF api_Consumer_row a0.Consumers))]), (3, [.d (.int .i64 a1.Known), .d (.int .i64 a1.Valid), .d (.slice (rowsF api_Unit_row a1.Units))])], vec := [(29, ⟨43, 2, rowsF api_Step_row s4.2⟩)] } : St)) hI2 (wk (by simp [weak_iff])) fun G2 s4 o2 h2 hg2 he2 => ?_)
        unfold steps_Choices_l1 at h2
        refine kr [2, 3, 5, 6, 15, 16, 17] (by simp; rfl) ?_
        refine tr_seq ?_
        refine tr_cond (b := (decide (s4.1 < ((a1.Units).length : Int)))) (by simp) (fun c23 => ?_) (fun c23 => ?_)
        · rw [if_pos c23] at h2
          refine tr_skip ?_
          refine tr_seq ?_
          refine tr_block ?_
          refine kr [2, 3, 5, 6, 7, 15, 16] (by simp; rfl) ?_
          refine kr [2, 3, 5, 6, 8, 15, 16] (by simp; rfl) ?_
          refine kc ?_
          refine ko [2, 3, 5, 6, 8, 15, 16, 22, 23, 24] 3 (by simp; rfl) ?_
          replace h2 := bnd h2; obtain ⟨y5, hy5, h2⟩ := h2
          refine kcall [2, 3, 5, 6, 8, 15, 16, 25] [] (steps_Safe_ok hy5) rfl rfl rfl Try.call67 (by simp) (by simp; rfl) ?_
          refine tops_nil ?_
          refine tr_cond (b := y5) (by simp) (fun c24 => ?_) (fun c24 => ?_)
          · rw [if_pos c24] at h2
            replace h2 := bnd h2; obtain ⟨_, p9, h2⟩ := h2
            replace p9 := ck_some p9
            have p9' := p9; try simp at p9'
            refine lr (by simp [p9, p9']; rfl) ?_
            refine lr (by simp; rfl) ?_
            exact ⟨_, hg2 _ (Option.some.inj h2), wk (by simp [weak_iff])⟩
          · rw [if_neg (by rw [c24]; decide)] at h2
            refine tr_skip ?_
            refine lr (by simp; rfl) ?_
            exact ⟨_, hg2 _ (Option.some.inj h2), wk (by simp [weak_iff])⟩
        · rw [if_neg (by rw [c23]; decide)] at h2
          refine tr_exit ?_
          exact ⟨_, he2 _ (Option.some.inj h2), wk (by simp [weak_iff])⟩
    · rw [if_neg (by rw [c18]; decide)] at h1
      refine tr_exit ?_
      exact ⟨_, he1 _ (Option.some.inj h1), wk (by simp [weak_iff])⟩
set_option maxHeartbeats 1000000 in
theorem search_all_ok {a0 : api_Fleet} {a1 : api_Rotation} {r : (List search_found)} (h0 : search_all a0 a1 = some r) : FnOK Try.prog 32 [] [.agg (api_Fleet_av a0), .agg (api_Rotation_av a1)] (.d (.slice (rowsF search_found_row r))) [] := by
  unfold search_all at h0
  refine fn_ok (nt := 71) (rs := [.tmp 4]) Try.func32 rfl Try.ntmps32 rfl (by simp) (by decide) rfl fun K => ?_
  refine kr [2, 3] (by simp; rfl) ?_
  refine kr [2, 5] (by simp; rfl) ?_
  refine kc ?_
  replace h0 := bnd h0; obtain ⟨_, p1, h0⟩ := h0
  replace p1 := ck_some p1
  have p1' := p1; try simp at p1'
  have p1o : 0 < ((([(⟨a1, 0, (⟨0, 0⟩ : api_Step), (-1)⟩ : search_found)])).length : Int) := by omega
  replace h0 := bnd h0; obtain ⟨x1, p2, h0⟩ := h0
  replace p2 := idx_some p2
  have p2' := p2; try simp at p2'
  have p2q : (rowsF search_found_row [(⟨a1, 0, (⟨0, 0⟩ : api_Step), (-1)⟩ : search_found)])[0]? = some (search_found_row x1) := by (first | (rw [rowsF_get, p2.2]; rfl) | (have q := p2.2; simp at q; subst q; rfl))
  try simp [-getElem?_pos] at p2q
  refine ko [2, 5, 17, 20] 4 (by simp [-getElem?_pos, List.getElem?_cons_zero, List.getElem?_cons_succ, p1, p1o, p2, p2q, p1', p2']; rfl) ?_
  replace h0 := bnd h0; obtain ⟨y2, hy2, h0⟩ := h0
  refine kcall [2, 5, 17, 21] [] (search_found_key_ok hy2) rfl rfl rfl Try.call50 (by simp) (by simp; rfl) ?_
  replace h0 := bnd h0; obtain ⟨_, p3, h0⟩ := h0
  replace p3 := ck_some p3
  have p3' := p3; try simp at p3'
  refine ko [2, 5, 6] 3 (by simp [p3, p3']; rfl) ?_
  refine tops_nil ?_
  refine tr_seq ?_
  refine kr [2, 5, 6, 7] (by simp; rfl) ?_
  replace h0 := bnd h0; obtain ⟨l3, hl3, h0⟩ := h0
  replace hl3 := Option.some.inj hl3
  replace h0 := bnd h0; obtain ⟨e1, hI1, h0⟩ := h0
  refine tjv (fun v4 : (List search_found) => ({ nt := 71, env := [(5, .vec 16)], box := [], vec := [(16, ⟨79, 7, rowsF search_found_row v4⟩)] } : St)) (fun v4 => v4 = e1) (fun v4 hI1e _ W1 => ?_) ?_
  · subst hI1e
    refine tr_wk W1 ?_
    refine kr [4] (by simp; rfl) ?_
    cases h0
    exact tr_ret ⟨[16], by simp, rfl, by simp⟩
  · refine tr_block (tr_iter (fun s5 : Int × (List search_found) × (List ((List Int) × Bool)) => ({ nt := 71, env := [(2, .ptr 2 0), (5, .vec 16), (6, .vec 17), (7, .d (.int .i64 s5.1))], box := [(2, [.d (.int .i64 a0.Slots), .d (.slice (rowsF api_Consumer_row a0.Consumers))])], vec := [(16, ⟨79, 7, rowsF search_found_row s5.2.1⟩), (17, ⟨mTag 95 11 true false, 12, rowsF (mRow (arRow 11 (iRow .i64)) bRow) s5.2.2⟩)] } : St)) hI1 (wk (by subst hl3; simp [weak_iff])) fun G1 s5 o1 h1 hg1 he1 => ?_)
    unfold search_all_l0 at h1
    refine tr_seq ?_
    refine kr [2, 5, 6, 7, 26] (by simp; rfl) ?_
    refine tr_cond (b := (decide (s5.1 < ((s5.2.1).length : Int)))) (by simp) (fun c11 => ?_) (fun c11 => ?_)
    · rw [if_pos c11] at h1
      refine tr_skip ?_
      refine tr_seq ?_
      refine tr_block ?_
      replace h1 := bnd h1; obtain ⟨_, p24, h1⟩ := h1
      replace p24 := ck_some p24
      have p24' := p24; try simp at p24'
      have p24o : s5.1 < (((s5.2.1)).length : Int) := by omega
      replace h1 := bnd h1; obtain ⟨x6, p25, h1⟩ := h1
      replace p25 := idx_some p25
      have p25' := p25; try simp at p25'
      refine kr [2, 5, 6, 7, 8] (by simp [-getElem?_pos, List.getElem?_cons_zero, List.getElem?_cons_succ, p24, p24o, p25, p24', p25']; rfl) ?_
      refine kc ?_
      refine ko [2, 5, 6, 7, 8, 33, 35] 3 (by simp; rfl) ?_
      replace h1 := bnd h1; obtain ⟨y7, hy7, h1⟩ := h1
      refine kcall [2, 5, 6, 7, 8, 36] [] (steps_Choices_ok hy7) rfl rfl rfl Try.call51 (by simp) (by simp; rfl) ?_
      refine ko [2, 5, 6, 7, 8, 36, 37, 38] 2 (by simp; rfl) ?_
      refine tops_nil ?_
      replace h1 := bnd h1; obtain ⟨e2, hI2, h1⟩ := h1
      refine tjv (fun v8 : (List search_found) × (List ((List Int) × Bool)) => ({ nt := 71, env := [(2, .ptr 2 0), (5, .vec 16), (6, .vec 17), (7, .d (.int .i64 s5.1))], box := [(2, [.d (.int .i64 a0.Slots), .d (.slice (rowsF api_Consumer_row a0.Consumers))])], vec := [(16, ⟨79, 7, rowsF search_found_row v8.1⟩), (17, ⟨mTag 95 11 true false, 12, rowsF (mRow (arRow 11 (iRow .i64)) bRow) v8.2⟩)] } : St)) (fun v8 => v8 = e2) (fun v8 hI2e _ W2 => ?_) ?_
      · subst hI2e
        refine tr_wk W2 ?_
        refine lr (by simp; rfl) ?_
        exact ⟨_, hg1 _ (Option.some.inj h1), wk (by simp [weak_iff])⟩
      · refine tr_block (tr_iter (fun s9 : Int × (List search_found) × (List ((List Int) × Bool)) => ({ nt := 71, env := [(2, .ptr 2 0), (5, .vec 16), (6, .vec 17), (7, .d (.int .i64 s5.1)), (8, .ptr 8 0), (36, .d (.slice (rowsF api_Step_row y7))), (37, .d (.int .i64 ((y7).length : Int))), (38, .d (.int .i64 s9.1))], box := [(2, [.d (.int .i64 a0.Slots), .d (.slice (rowsF api_Consumer_row a0.Consumers))]), (8, [.d (.int .i64 x6.Rotation.Known), .d (.int .i64 x6.Rotation.Valid), .d (.slice (rowsF api_Unit_row x6.Rotation.Units)), .d (.int .i64 x6.far), .d (.int .i64 x6.step.Kind), .d (.int .i64 x6.step.Unit), .d (.int .i64 x6.before)])], vec := [(16, ⟨79, 7, rowsF search_found_row s9.2.1⟩), (17, ⟨mTag 95 11 true false, 12, rowsF (mRow (arRow 11 (iRow .i64)) bRow) s9.2.2⟩)] } : St)) hI2 (wk (by simp [weak_iff])) fun G2 s9 o2 h2 hg2 he2 => ?_)
        unfold search_all_l1 at h2
        refine kr [2, 5, 6, 7, 8, 36, 37, 38, 39] (by simp; rfl) ?_
        refine tr_seq ?_
        refine tr_cond (b := (decide (s9.1 < ((y7).length : Int)))) (by simp) (fun c16 => ?_) (fun c16 => ?_)
        · rw [if_pos c16] at h2
          refine tr_skip ?_
          refine tr_seq ?_
          refine tr_block ?_
          replace h2 := bnd h2; obtain ⟨x10, p34, h2⟩ := h2
          replace p34 := idx_some p34
          have p34' := p34; try simp at p34'
          refine kr [2, 5, 6, 7, 8, 10, 36, 37, 38] (by simp [p34, p34']; rfl) ?_
          refine kc ?_
          refine ko [2, 5, 6, 7, 8, 10, 36, 37, 38, 43, 45, 46] 4 (by simp; rfl) ?_
          replace h2 := bnd h2; obtain ⟨y11, hy11, h2⟩ := h2
          refine kcall [2, 5, 6, 7, 8, 10, 36, 37, 38, 47] [] (steps_Apply_ok hy11) rfl rfl rfl Try.call52 (by simp) (by simp; rfl) ?_
          refine ko [2, 5, 6, 7, 8, 10, 11, 36, 37, 38] 6 (by simp; rfl) ?_
          refine tops_nil ?_
          refine kr [2, 5, 6, 7, 8, 13, 36, 37, 38] (by simp; rfl) ?_
          refine kc ?_
          refine ko [2, 5, 6, 7, 8, 13, 36, 37, 38, 57, 58] 2 (by simp; rfl) ?_
          replace h2 := bnd h2; obtain ⟨y12, hy12, h2⟩ := h2
          refine kcall [2, 5, 6, 7, 8, 13, 36, 37, 38, 57, 59] [] (search_found_key_ok hy12) rfl rfl rfl Try.call50 (by simp) (by simp; rfl) ?_
          replace h2 := bnd h2; obtain ⟨_, p35, h2⟩ := h2
          replace p35 := ck_some p35
          have p35' := p35; try simp at p35'
          refine ko [2, 5, 6, 7, 8, 13, 36, 37, 38, 61] 2 (by simp [p35, p35']; rfl) ?_
          refine tops_nil ?_
          refine tr_cond (b := (!((mget (arE 11) s9.2.2 y12).getD false))) (by simp) (fun c17 => ?_) (fun c17 => ?_)
          · rw [if_pos c17] at h2
            refine kc ?_
            refine ko [2, 5, 6, 7, 8, 13, 36, 37, 38, 62, 63] 2 (by simp; rfl) ?_
            replace h2 := bnd h2; obtain ⟨y13, hy13, h2⟩ := h2
            refine kcall [2, 5, 6, 7, 8, 13, 36, 37, 38, 62, 64] [] (search_found_key_ok hy13) rfl rfl rfl Try.call50 (by simp) (by simp; rfl) ?_
            replace h2 := bnd h2; obtain ⟨_, p36, h2⟩ := h2
            replace p36 := ck_some p36
            have p36' := p36; try simp at p36'
            refine ko [2, 5, 6, 7, 8, 13, 36, 37, 38] 1 (by simp [p36, p36']; rfl) ?_
            refine tops_nil ?_
            replace h2 := bnd h2; obtain ⟨_, p37, h2⟩ := h2
            replace p37 := ck_some p37
            have p37' := p37; try simp at p37'
            refine lr (by simp [p37, p37']; rfl) ?_
            refine lr (by simp; rfl) ?_
            exact ⟨_, hg2 _ (Option.some.inj h2), (wk_ren 68 16).trans (wk (by simp [weak_iff]))⟩
          · rw [if_neg (by rw [c17]; decide)] at h2
            refine tr_skip ?_
            refine lr (by simp; rfl) ?_
            exact ⟨_, hg2 _ (Option.some.inj h2), wk (by simp [weak_iff])⟩
        · rw [if_neg (by rw [c16]; decide)] at h2
          refine tr_exit ?_
          exact ⟨_, he2 _ (Option.some.inj h2), wk (by simp [weak_iff])⟩
    · rw [if_neg (by rw [c11]; decide)] at h1
      refine tr_exit ?_
      exact ⟨_, he1 _ (Option.some.inj h1), wk (by simp [weak_iff])⟩
set_option maxHeartbeats 1000000 in
theorem fleet_Ended_1_cb_ok {a0 : api_Unit} {a1 : api_Unit} {r : Bool × api_Unit} (h0 : fleet_Ended_1_cb a0 a1 = some r) : FnOK Try.prog 71 [api_Unit_av a1] [.agg (api_Unit_av a0), .ptr (InO 0) 0] (.d (.bool r.1)) [api_Unit_av r.2] := by
  unfold fleet_Ended_1_cb at h0
  refine fn_ok (nt := 7) (rs := [.tmp 3]) Try.func71 rfl Try.ntmps71 rfl (by simp) (by decide) rfl fun K => ?_
  refine kr [1, 2] (by simp; rfl) ?_
  refine kr [3] (by simp; rfl) ?_
  cases h0
  exact tr_ret ⟨[], by simp, rfl, by simp⟩
set_option maxHeartbeats 1000000 in
theorem slices_IndexFunc_api_Unit_at_fleet_Ended_1_b_ok {a0 : List api_Unit} {b10 : api_Unit} {r : Int × api_Unit} (h0 : slices_IndexFunc_api_Unit_at_fleet_Ended_1_b a0 b10 = some r) : FnOK Try.prog 85 [api_Unit_av b10] [.d (.slice (rowsF api_Unit_row a0)), .fn 71 [.ptr (InO 0) 0]] (.d (.int .i64 r.1)) [api_Unit_av r.2] := by
  unfold slices_IndexFunc_api_Unit_at_fleet_Ended_1_b at h0
  refine fn_ok (nt := 19) (rs := [.tmp 4]) Try.func85 rfl Try.ntmps85 rfl (by simp) (by decide) rfl fun K => ?_
  refine kr [0, 1] (by simp; rfl) ?_
  refine tr_seq ?_
  refine kr [0, 1, 7, 8] (by simp; rfl) ?_
  replace h0 := bnd h0; obtain ⟨e1, hI1, h0⟩ := h0
  refine tjv (fun v1 : Bool × Int × Int => ({ nt := 19, env := [], box := [(1000000, [.d (.bool v1.1), .d (.int .i64 v1.2.1), .d (.int .i64 v1.2.2)])], vec := [] } : St)) (fun v1 => .inl v1 = e1) (fun v1 hI1e _ W1 => ?_) ?_
  · subst hI1e
    dsimp only at h0
    refine tr_wk W1 ?_
    refine kr [4] (by simp; rfl) ?_
    cases h0
    exact tr_ret ⟨[], by simp, rfl, by simp⟩
  · refine tr_block (tr_iter (fun s2 : Int × Bool × Int × Int => ({ nt := 19, env := [(0, .d (.slice (rowsF api_Unit_row a0))), (1, .fn 71 [.ptr 1000000 0]), (7, .d (.int .i64 ((a0).length : Int))), (8, .d (.int .i64 s2.1))], box := [(1000000, [.d (.bool s2.2.1), .d (.int .i64 s2.2.2.1), .d (.int .i64 s2.2.2.2)])], vec := [] } : St)) hI1 (wk (by simp [weak_iff])) fun G1 s2 o1 h1 hg1 he1 => ?_)
    unfold slices_IndexFunc_api_Unit_at_fleet_Ended_1_b_l0 at h1
    refine kr [0, 1, 7, 8, 9] (by simp; rfl) ?_
    refine tr_seq ?_
    refine tr_cond (b := (decide (s2.1 < ((a0).length : Int)))) (by simp) (fun c5 => ?_) (fun c5 => ?_)
    · rw [if_pos c5] at h1
      refine tr_skip ?_
      refine tr_seq ?_
      refine tr_block ?_
      refine kr [0, 1, 5, 7, 8] (by simp; rfl) ?_
      refine kc ?_
      replace h1 := bnd h1; obtain ⟨x3, p3, h1⟩ := h1
      replace p3 := idx_some p3
      have p3' := p3; try simp at p3'
      refine ko [0, 1, 5, 7, 8, 11, 15] 5 (by simp [p3, p3']; rfl) ?_
      replace h1 := bnd h1; obtain ⟨y4, hy4, h1⟩ := h1
      refine kcallV [0, 1, 5, 7, 8, 16] [1000000] [] [] (fleet_Ended_1_cb_ok hy4) rfl rfl rfl Try.call71 (by simp) (by simp; rfl) ?_
      refine tops_nil ?_
      refine tr_cond (b := y4.1) (by simp) (fun c6 => ?_) (fun c6 => ?_)
      · rw [if_pos c6] at h1
        refine kr [4] (by simp; rfl) ?_
        have k1 := he1 _ (Option.some.inj h1)
        subst k1
        dsimp only at h0
        cases h0
        exact tr_ret ⟨[], by simp, rfl, by simp⟩
      · rw [if_neg (by rw [c6]; decide)] at h1
        refine tr_skip ?_
        refine lr (by simp; rfl) ?_
        exact ⟨_, hg1 _ (Option.some.inj h1), wk (by simp [weak_iff])⟩
    · rw [if_neg (by rw [c5]; decide)] at h1
      refine tr_exit ?_
      exact ⟨_, he1 _ (Option.some.inj h1), wk (by simp [weak_iff])⟩
set_option maxHeartbeats 1000000 in
theorem slices_ContainsFunc_api_Unit_at_fleet_Ended_1_b_ok {a0 : List api_Unit} {b10 : api_Unit} {r : Bool × api_Unit} (h0 : slices_ContainsFunc_api_Unit_at_fleet_Ended_1_b a0 b10 = some r) : FnOK Try.prog 70 [api_Unit_av b10] [.d (.slice (rowsF api_Unit_row a0)), .fn 71 [.ptr (InO 0) 0]] (.d (.bool r.1)) [api_Unit_av r.2] := by
  unfold slices_ContainsFunc_api_Unit_at_fleet_Ended_1_b at h0
  refine fn_ok (nt := 9) (rs := [.tmp 4]) Try.func70 rfl Try.ntmps70 rfl (by simp) (by decide) rfl fun K => ?_
  refine kr [0, 1] (by simp; rfl) ?_
  refine kc ?_
  refine ko [5, 6] 2 (by simp; rfl) ?_
  replace h0 := bnd h0; obtain ⟨y1, hy1, h0⟩ := h0
  refine kcall [7] [1000000] (slices_IndexFunc_api_Unit_at_fleet_Ended_1_b_ok hy1) rfl rfl rfl Try.call85 (by simp) (by simp; rfl) ?_
  refine ko [4] 2 (by simp; rfl) ?_
  refine tops_nil ?_
  cases h0
  exact tr_ret ⟨[], by simp, rfl, by simp⟩
set_option maxHeartbeats 1000000 in
theorem fleet_Ended_ok {a0 : api_Fleet} {a1 : api_Rotation} {r : Bool} (h0 : fleet_Ended a0 a1 = some r) : FnOK Try.prog 57 [] [.agg (api_Fleet_av a0), .agg (api_Rotation_av a1)] (.d (.bool r)) [] := by
  unfold fleet_Ended at h0
  refine fn_ok (nt := 22) (rs := [.tmp 4]) Try.func57 rfl Try.ntmps57 rfl (by simp) (by decide) rfl fun K => ?_
  refine kr [2, 3] (by simp; rfl) ?_
  refine kr [2, 3, 5] (by simp; rfl) ?_
  replace h0 := bnd h0; obtain ⟨v1, hvv1, h0⟩ := h0
  refine sjv (fun v1_ : Bool => ({ nt := 22, env := [(4, .d (.bool v1_))], box := [], vec := [] } : St)) (fun v1_ => v1 = v1_) (fun v1_ e => ?_) ?_
  · subst e
    cases h0
    exact tr_ret ⟨[], by simp, rfl, by simp⟩
  · refine kc1 ?_
    refine ko [3, 5, 7, 8] 2 (by simp; rfl) ?_
    replace hvv1 := bnd hvv1; obtain ⟨y2, hy2, hvv1⟩ := hvv1
    refine kcall [3, 5, 9] [] (fleet_Right_ok hy2) rfl rfl rfl Try.call49 (by simp) (by simp; rfl) ?_
    refine ko [3, 5, 10] 1 (by simp; rfl) ?_
    refine tops_split 10 y2 (by simp) (fun c5 => ?_) (fun c5 => ?_)
    · rw [if_pos c5] at hvv1
      refine ko [3, 5, 15] 5 (by simp; rfl) ?_
      refine tops_split 15 (a1.Valid == 2) (by simp) (fun c6 => ?_) (fun c6 => ?_)
      · rw [if_pos c6] at hvv1
        refine ko [15, 17, 18] 3 (by simp; rfl) ?_
        replace hvv1 := bnd hvv1; obtain ⟨y3, hy3, hvv1⟩ := hvv1
        refine kcall [15, 19] [5] (slices_ContainsFunc_api_Unit_at_fleet_Ended_1_b_ok hy3) rfl rfl rfl Try.call70 (by simp) (by simp; rfl) ?_
        refine ko [4] 3 (by simp; rfl) ?_
        refine tops_nil ?_
        cases hvv1
        exact ⟨_, rfl, wk (by simp [weak_iff])⟩
      · rw [if_neg (by rw [c6]; decide)] at hvv1
        refine kskip 5 [] (by kernel_rfl) ?_
        refine ko [4] 2 (by simp; rfl) ?_
        refine tops_nil ?_
        cases hvv1
        exact ⟨_, rfl, wk (by simp [weak_iff])⟩
    · rw [if_neg (by rw [c5]; decide)] at hvv1
      refine kskip 3 [] (by kernel_rfl) ?_
      refine ko [3, 5, 15] 2 (by simp; rfl) ?_
      refine kskip 5 [] (by kernel_rfl) ?_
      refine ko [4] 2 (by simp; rfl) ?_
      refine tops_nil ?_
      cases hvv1
      exact ⟨_, rfl, wk (by simp [weak_iff])⟩
set_option maxHeartbeats 1000000 in
theorem search_end_1_cb_ok {a0 : search_found} {a1 : api_Fleet} {r : Bool × api_Fleet} (h0 : search_end_1_cb a0 a1 = some r) : FnOK Try.prog 56 [api_Fleet_av a1] [.agg (search_found_av a0), .ptr (InO 0) 0] (.d (.bool r.1)) [api_Fleet_av r.2] := by
  unfold search_end_1_cb at h0
  refine fn_ok (nt := 8) (rs := [.tmp 3]) Try.func56 rfl Try.ntmps56 rfl (by simp) (by decide) rfl fun K => ?_
  refine kr [1, 2] (by simp; rfl) ?_
  refine kc ?_
  refine ko [4, 6] 3 (by simp; rfl) ?_
  replace h0 := bnd h0; obtain ⟨y1, hy1, h0⟩ := h0
  refine kcall [7] [] (fleet_Ended_ok hy1) rfl rfl rfl Try.call57 (by simp) (by simp; rfl) ?_
  refine ko [3] 1 (by simp; rfl) ?_
  refine tops_nil ?_
  cases h0
  exact tr_ret ⟨[], by simp, rfl, by simp⟩
end Go.Vl
