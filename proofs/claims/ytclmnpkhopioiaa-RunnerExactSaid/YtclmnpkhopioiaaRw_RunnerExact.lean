/- Walks: each function of the given program computes what its mirror says. Conditions: none. -/
import Derived.Test.YtclmnpkhopioiaaRw3
set_option linter.unusedSimpArgs false
set_option linter.unusedVariables false
namespace Go.Vl
open Go Go.Proofs
set_option maxHeartbeats 1000000 in
theorem ref37_right_ok {a0 : Int} {r : Bool} (h0 : ref37_right a0 = some r) : FnOK Try.prog 95 [] [.d (.int .i64 a0)] (.d (.bool r)) [] := by
  unfold ref37_right at h0
  refine fn_ok (nt := 9) (rs := [.tmp 2]) Try.func95 rfl Try.ntmps95 rfl (by simp) (by decide) rfl fun K => ?_
  refine kr [0] (by simp; rfl) ?_
  replace h0 := bnd h0; obtain ⟨v1, hvv1, h0⟩ := h0
  refine sjv (fun v1_ : Bool => ({ nt := 9, env := [(2, .d (.bool v1_))], box := [], vec := [] } : St)) (fun v1_ => v1 = v1_) (fun v1_ e => ?_) ?_
  · subst e
    cases h0
    exact tr_ret ⟨[], by simp, rfl, by simp⟩
  · refine kc1 ?_
    refine ko [0, 5] 3 (by simp; rfl) ?_
    refine tops_split 5 (decide (0 ≤ a0)) (by simp) (fun c3 => ?_) (fun c3 => ?_)
    · rw [c3] at hvv1
      refine ko [2] 4 (by simp; rfl) ?_
      refine tops_nil ?_
      cases hvv1
      exact ⟨_, rfl, wk (by simp [weak_iff])⟩
    · rw [c3] at hvv1
      refine ko [2] 4 (by simp; rfl) ?_
      refine tops_nil ?_
      cases hvv1
      exact ⟨_, rfl, wk (by simp [weak_iff])⟩
set_option maxHeartbeats 1000000 in
theorem ref37_there_ok {a0 : Int} {r : Bool} (h0 : ref37_there a0 = some r) : FnOK Try.prog 96 [] [.d (.int .i64 a0)] (.d (.bool r)) [] := by
  unfold ref37_there at h0
  refine fn_ok (nt := 13) (rs := [.tmp 2]) Try.func96 rfl Try.ntmps96 rfl (by simp) (by decide) rfl fun K => ?_
  refine kr [0] (by simp; rfl) ?_
  replace h0 := bnd h0; obtain ⟨v1, hvv1, h0⟩ := h0
  refine sjv (fun v1_ : Bool => ({ nt := 13, env := [(2, .d (.bool v1_))], box := [], vec := [] } : St)) (fun v1_ => v1 = v1_) (fun v1_ e => ?_) ?_
  · subst e
    cases h0
    exact tr_ret ⟨[], by simp, rfl, by simp⟩
  · refine kc1 ?_
    refine ko [0, 5] 3 (by simp; rfl) ?_
    refine tops_split 5 (a0 == 0) (by simp) (fun c5 => ?_) (fun c5 => ?_)
    · rw [c5] at hvv1
      refine ko [2] 8 (by simp; rfl) ?_
      refine tops_nil ?_
      cases hvv1
      exact ⟨_, rfl, wk (by simp [weak_iff])⟩
    · rw [c5] at hvv1
      refine ko [0, 9] 4 (by simp; rfl) ?_
      refine tops_split 9 (a0 == 2) (by simp) (fun c6 => ?_) (fun c6 => ?_)
      · rw [c6] at hvv1
        refine ko [2] 4 (by simp; rfl) ?_
        refine tops_nil ?_
        cases hvv1
        exact ⟨_, rfl, wk (by simp [weak_iff])⟩
      · rw [c6] at hvv1
        refine ko [2] 4 (by simp; rfl) ?_
        refine tops_nil ?_
        cases hvv1
        exact ⟨_, rfl, wk (by simp [weak_iff])⟩
set_option maxHeartbeats 1000000 in
theorem ref37_run_ok {a0 : api_Fleet} {a1 : api_Rotation} {a2 : List api_Step} {a3 : List Int} {r : api_Rotation × (List api_Attempt) × (List api_Rotation) × Int} (h0 : ref37_run a0 a1 a2 a3 = some r) : FnOK Try.prog 94 [] [.agg (api_Fleet_av a0), .agg (api_Rotation_av a1), .d (.slice (rowsF api_Step_row a2)), .d (.slice (rowsF (iRow .i64) a3))] (.tup [.agg (api_Rotation_av r.1), .d (.slice (rowsF api_Attempt_row r.2.1)), .d (.slice (rowsF api_Rotation_row r.2.2.1)), .d (.int .i64 r.2.2.2)]) [] := by
  unfold ref37_run at h0
  refine fn_ok (nt := 114) (rs := [.cell 8 33, .tmp 9, .tmp 10, .tmp 11]) Try.func94 rfl Try.ntmps94 rfl (by simp) (by decide) rfl fun K => ?_
  refine kr [2, 3, 4, 5, 8] (by simp; rfl) ?_
  refine tr_seq ?_
  refine kc ?_
  refine ko [2, 3, 4, 5, 8, 24, 25] 2 (by simp; rfl) ?_
  replace h0 := bnd h0; obtain ⟨y1, hy1, h0⟩ := h0
  refine kcall [2, 3, 4, 5, 8, 26] [] (ref32_Right_ok hy1) rfl rfl rfl Try.call22 (by simp) (by simp; rfl) ?_
  refine ko [2, 3, 4, 5, 8, 27] 1 (by simp; rfl) ?_
  refine tops_nil ?_
  refine tr_cond (b := (!y1)) (by simp) (fun c1 => ?_) (fun c1 => ?_)
  · rw [if_pos c1] at h0
    refine kr [8, 9, 10, 11] (by simp; rfl) ?_
    cases h0
    exact tr_ret ⟨[], by simp, rfl, by simp⟩
  · rw [if_neg (by rw [c1]; decide)] at h0
    refine tr_skip ?_
    refine tr_seq ?_
    refine kr [2, 3, 4, 5, 8, 31] (by simp; rfl) ?_
    refine tr_cond (b := (decide (120 < ((a2).length : Int)))) (by simp) (fun c2 => ?_) (fun c2 => ?_)
    · rw [if_pos c2] at h0
      refine kr [8, 9, 10, 11] (by simp; rfl) ?_
      cases h0
      exact tr_ret ⟨[], by simp, rfl, by simp⟩
    · rw [if_neg (by rw [c2]; decide)] at h0
      refine tr_skip ?_
      refine tr_seq ?_
      refine kr [2, 3, 4, 5, 8, 33, 34, 35] (by simp; rfl) ?_
      replace h0 := bnd h0; obtain ⟨e1, hI1, h0⟩ := h0
      refine tjv (fun v2 : Unit => ({ nt := 114, env := [(2, .d (.slice (rowsF api_Step_row a2))), (3, .d (.slice (rowsF (iRow .i64) a3))), (4, .ptr 4 0), (5, .ptr 5 0), (8, .ptr 8 0)], box := [(4, [.d (.int .i64 a0.Slots), .d (.slice (rowsF api_Consumer_row a0.Consumers))]), (5, [.d (.int .i64 a1.Known), .d (.int .i64 a1.Valid), .d (.slice (rowsF api_Unit_row a1.Units))]), (8, [.d (.int .i64 0), .d (.int .i64 0), .nilS])], vec := [] } : St)) (fun v2 => .inl v2 = e1) (fun v2 hI1e _ W1 => ?_) ?_
      · subst hI1e
        dsimp only at h0
        refine tr_wk W1 ?_
        refine kr [2, 3, 4, 5, 8, 14] (by simp; rfl) ?_
        refine kr [2, 3, 4, 5, 8, 14, 15] (by simp; rfl) ?_
        refine kr [2, 3, 4, 5, 8, 14, 15, 16] (by simp; rfl) ?_
        refine tr_seq ?_
        refine kr [3, 4, 5, 8, 14, 15, 16, 46, 47, 48] (by simp; rfl) ?_
        replace h0 := bnd h0; obtain ⟨l3, hl3, h0⟩ := h0
        replace hl3 := Option.some.inj hl3
        refine tr_wk (wk_own 14 91 87 4 (by simp) (by simp)) ?_
        replace h0 := bnd h0; obtain ⟨e2, hI2, h0⟩ := h0
        refine tjv (fun v4 : Int × Int × (List api_Unit) × (List api_Rotation) × (List api_Attempt) => ({ nt := 114, env := [(5, .ptr 5 0), (8, .ptr 8 0), (14, .vec 91), (15, .vec 45)], box := [(5, [.d (.int .i64 v4.1), .d (.int .i64 v4.2.1), .d (.slice (rowsF api_Unit_row v4.2.2.1))]), (8, [.d (.int .i64 0), .d (.int .i64 0), .nilS])], vec := [(45, ⟨33, 3, rowsF api_Rotation_row v4.2.2.2.1⟩), (91, ⟨87, 4, rowsF api_Attempt_row v4.2.2.2.2⟩)] } : St)) (fun v4 => .inl v4 = e2) (fun v4 hI2e _ W2 => ?_) ?_
        · subst hI2e
          dsimp only at h0
          refine tr_wk W2 ?_
          refine kr [8, 9, 10, 11] (by simp; rfl) ?_
          cases h0
          exact tr_ret ⟨[45, 91], by simp, rfl, by simp⟩
        · refine tr_block (tr_iter (fun s5 : Int × Int × Int × Int × (List api_Unit) × (List api_Rotation) × (List api_Attempt) => ({ nt := 114, env := [(3, .d (.slice (rowsF (iRow .i64) a3))), (4, .ptr 4 0), (5, .ptr 5 0), (8, .ptr 8 0), (14, .vec 91), (15, .vec 45), (16, .d (.int .i64 s5.1)), (46, .d (.slice (rowsF api_Step_row a2))), (47, .d (.int .i64 ((a2).length : Int))), (48, .d (.int .i64 s5.2.1))], box := [(4, [.d (.int .i64 a0.Slots), .d (.slice (rowsF api_Consumer_row a0.Consumers))]), (5, [.d (.int .i64 s5.2.2.1), .d (.int .i64 s5.2.2.2.1), .d (.slice (rowsF api_Unit_row s5.2.2.2.2.1))]), (8, [.d (.int .i64 0), .d (.int .i64 0), .nilS])], vec := [(45, ⟨33, 3, rowsF api_Rotation_row s5.2.2.2.2.2.1⟩), (91, ⟨87, 4, rowsF api_Attempt_row s5.2.2.2.2.2.2⟩)] } : St)) hI2 (wk (by subst hl3; simp [weak_iff])) fun G2 s5 o2 h2 hg2 he2 => ?_)
          unfold ref37_run_l1 at h2
          refine kr [3, 4, 5, 8, 14, 15, 16, 46, 47, 48, 49] (by simp; rfl) ?_
          refine tr_seq ?_
          refine tr_cond (b := (decide (s5.2.1 < ((a2).length : Int)))) (by simp) (fun c51 => ?_) (fun c51 => ?_)
          · rw [if_pos c51] at h2
            refine tr_skip ?_
            refine tr_seq ?_
            refine tr_block ?_
            replace h2 := bnd h2; obtain ⟨x6, p33, h2⟩ := h2
            replace p33 := idx_some p33
            have p33' := p33; try simp at p33'
            refine kr [3, 4, 5, 8, 14, 15, 16, 18, 46, 47, 48] (by simp [p33, p33']; rfl) ?_
            refine kc ?_
            refine ko [3, 4, 5, 8, 14, 15, 16, 18, 46, 47, 48, 53, 54, 55] 3 (by simp; rfl) ?_
            replace h2 := bnd h2; obtain ⟨y7, hy7, h2⟩ := h2
            refine kcall [3, 4, 5, 8, 14, 15, 16, 18, 46, 47, 48, 56] [] (ref33_Apply_ok hy7) rfl rfl rfl Try.call54 (by simp) (by simp; rfl) ?_
            refine ko [3, 4, 5, 8, 14, 15, 16, 18, 19, 20, 46, 47, 48] 6 (by simp; rfl) ?_
            refine tops_nil ?_
            refine tr_seq ?_
            refine kr [3, 4, 5, 8, 14, 15, 16, 18, 19, 20, 46, 47, 48, 60] (by simp; rfl) ?_
            refine tr_cond (b := (y7.2 != 0)) (by simp) (fun c52 => ?_) (fun c52 => ?_)
            · rw [if_pos c52] at h2
              refine kr [8, 9, 10, 11] (by simp; rfl) ?_
              have k1 := he2 _ (Option.some.inj h2)
              subst k1
              dsimp only at h0
              cases h0
              exact tr_ret ⟨[45, 91], by simp, rfl, by simp⟩
            · rw [if_neg (by rw [c52]; decide)] at h2
              refine tr_skip ?_
              refine kr [3, 4, 5, 8, 14, 15, 16, 18, 19, 21, 46, 47, 48] (by simp; rfl) ?_
              refine tr_seq ?_
              refine kr [3, 4, 5, 8, 14, 15, 16, 18, 19, 21, 22, 46, 47, 48] (by simp; rfl) ?_
              replace h2 := bnd h2; obtain ⟨e3, hI3, h2⟩ := h2
              refine tjv (fun v8 : Int × Bool × (List api_Rotation) × (List api_Attempt) => ({ nt := 114, env := [(3, .d (.slice (rowsF (iRow .i64) a3))), (4, .ptr 4 0), (5, .ptr 5 0), (8, .ptr 8 0), (14, .vec 91), (15, .vec 45), (16, .d (.int .i64 v8.1)), (19, .ptr 19 0), (21, .d (.bool v8.2.1)), (46, .d (.slice (rowsF api_Step_row a2))), (47, .d (.int .i64 ((a2).length : Int))), (48, .d (.int .i64 s5.2.1))], box := [(4, [.d (.int .i64 a0.Slots), .d (.slice (rowsF api_Consumer_row a0.Consumers))]), (5, [.d (.int .i64 s5.2.2.1), .d (.int .i64 s5.2.2.2.1), .d (.slice (rowsF api_Unit_row s5.2.2.2.2.1))]), (8, [.d (.int .i64 0), .d (.int .i64 0), .nilS]), (19, [.d (.int .i64 y7.1.Known), .d (.int .i64 y7.1.Valid), .d (.slice (rowsF api_Unit_row y7.1.Units))])], vec := [(45, ⟨33, 3, rowsF api_Rotation_row v8.2.2.1⟩), (91, ⟨87, 4, rowsF api_Attempt_row v8.2.2.2⟩)] } : St)) (fun v8 => v8 = e3) (fun v8 hI3e _ W3 => ?_) ?_
              · subst hI3e
                refine tr_wk W3 ?_
                refine tr_seq ?_
                refine kr [3, 4, 5, 8, 14, 15, 16, 19, 46, 47, 48, 105] (by simp; rfl) ?_
                refine tr_cond (b := (!v8.2.1)) (by simp) (fun c63 => ?_) (fun c63 => ?_)
                · rw [if_pos c63] at h2
                  refine kr [8, 9, 10, 11] (by simp; rfl) ?_
                  have k1 := he2 _ (Option.some.inj h2)
                  subst k1
                  dsimp only at h0
                  cases h0
                  exact tr_ret ⟨[45, 91], by simp, rfl, by simp⟩
                · rw [if_neg (by rw [c63]; decide)] at h2
                  refine tr_skip ?_
                  refine lr (by simp; rfl) ?_
                  refine lr (by simp; rfl) ?_
                  exact ⟨_, hg2 _ (Option.some.inj h2), wk (by simp [weak_iff])⟩
              · refine tr_block (tr_iter (fun s9 : Int × Bool × Int × (List api_Rotation) × (List api_Attempt) => ({ nt := 114, env := [(3, .d (.slice (rowsF (iRow .i64) a3))), (4, .ptr 4 0), (5, .ptr 5 0), (8, .ptr 8 0), (14, .vec 91), (15, .vec 45), (16, .d (.int .i64 s9.1)), (18, .ptr 18 0), (19, .ptr 19 0), (21, .d (.bool s9.2.1)), (22, .d (.int .i64 s9.2.2.1)), (46, .d (.slice (rowsF api_Step_row a2))), (47, .d (.int .i64 ((a2).length : Int))), (48, .d (.int .i64 s5.2.1))], box := [(4, [.d (.int .i64 a0.Slots), .d (.slice (rowsF api_Consumer_row a0.Consumers))]), (5, [.d (.int .i64 s5.2.2.1), .d (.int .i64 s5.2.2.2.1), .d (.slice (rowsF api_Unit_row s5.2.2.2.2.1))]), (8, [.d (.int .i64 0), .d (.int .i64 0), .nilS]), (18, [.d (.int .i64 x6.Kind), .d (.int .i64 x6.Unit)]), (19, [.d (.int .i64 y7.1.Known), .d (.int .i64 y7.1.Valid), .d (.slice (rowsF api_Unit_row y7.1.Units))])], vec := [(45, ⟨33, 3, rowsF api_Rotation_row s9.2.2.2.1⟩), (91, ⟨87, 4, rowsF api_Attempt_row s9.2.2.2.2⟩)] } : St)) hI3 (wk (by simp [weak_iff])) fun G3 s9 o3 h3 hg3 he3 => ?_)
                unfold ref37_run_l2 at h3
                refine tr_seq ?_
                replace h3 := bnd h3; obtain ⟨v10, hvv10, h3⟩ := h3
                refine sjv (fun v10_ : Bool => ({ nt := 114, env := [(3, .d (.slice (rowsF (iRow .i64) a3))), (4, .ptr 4 0), (5, .ptr 5 0), (8, .ptr 8 0), (14, .vec 91), (15, .vec 45), (16, .d (.int .i64 s9.1)), (18, .ptr 18 0), (19, .ptr 19 0), (21, .d (.bool s9.2.1)), (22, .d (.int .i64 s9.2.2.1)), (46, .d (.slice (rowsF api_Step_row a2))), (47, .d (.int .i64 ((a2).length : Int))), (48, .d (.int .i64 s5.2.1)), (70, .d (.bool v10_))], box := [(4, [.d (.int .i64 a0.Slots), .d (.slice (rowsF api_Consumer_row a0.Consumers))]), (5, [.d (.int .i64 s5.2.2.1), .d (.int .i64 s5.2.2.2.1), .d (.slice (rowsF api_Unit_row s5.2.2.2.2.1))]), (8, [.d (.int .i64 0), .d (.int .i64 0), .nilS]), (18, [.d (.int .i64 x6.Kind), .d (.int .i64 x6.Unit)]), (19, [.d (.int .i64 y7.1.Known), .d (.int .i64 y7.1.Valid), .d (.slice (rowsF api_Unit_row y7.1.Units))])], vec := [(45, ⟨33, 3, rowsF api_Rotation_row s9.2.2.2.1⟩), (91, ⟨87, 4, rowsF api_Attempt_row s9.2.2.2.2⟩)] } : St)) (fun v10_ => v10 = v10_) (fun v10_ e => ?_) ?_
                · subst e
                  refine tr_cond (b := v10) (by simp) (fun c66 => ?_) (fun c66 => ?_)
                  · rw [if_pos c66] at h3
                    refine tr_skip ?_
                    refine tr_seq ?_
                    refine tr_block ?_
                    refine kr [3, 4, 5, 8, 14, 15, 16, 18, 19, 22, 23, 46, 47, 48] (by simp; rfl) ?_
                    refine sjv (fun v11 : Int => ({ nt := 114, env := [(3, .d (.slice (rowsF (iRow .i64) a3))), (4, .ptr 4 0), (5, .ptr 5 0), (8, .ptr 8 0), (14, .vec 91), (15, .vec 45), (16, .d (.int .i64 s9.1)), (18, .ptr 18 0), (19, .ptr 19 0), (22, .d (.int .i64 s9.2.2.1)), (23, .d (.int .i64 v11)), (46, .d (.slice (rowsF api_Step_row a2))), (47, .d (.int .i64 ((a2).length : Int))), (48, .d (.int .i64 s5.2.1))], box := [(4, [.d (.int .i64 a0.Slots), .d (.slice (rowsF api_Consumer_row a0.Consumers))]), (5, [.d (.int .i64 s5.2.2.1), .d (.int .i64 s5.2.2.2.1), .d (.slice (rowsF api_Unit_row s5.2.2.2.2.1))]), (8, [.d (.int .i64 0), .d (.int .i64 0), .nilS]), (18, [.d (.int .i64 x6.Kind), .d (.int .i64 x6.Unit)]), (19, [.d (.int .i64 y7.1.Known), .d (.int .i64 y7.1.Valid), .d (.slice (rowsF api_Unit_row y7.1.Units))])], vec := [(45, ⟨33, 3, rowsF api_Rotation_row s9.2.2.2.1⟩), (91, ⟨87, 4, rowsF api_Attempt_row s9.2.2.2.2⟩)] } : St)) (fun v11 => ref37_run_j3 s9 x6 y7 s5 v11 = some o3) (fun v11 h3 => ?_) ?_
                    · unfold ref37_run_j3 at h3
                      refine kr [3, 4, 5, 8, 14, 15, 16, 18, 19, 22, 23, 46, 47, 48] (by simp; rfl) ?_
                      refine kc ?_
                      refine ko [3, 4, 5, 8, 14, 15, 16, 18, 19, 22, 23, 46, 47, 48, 83] 1 (by simp; rfl) ?_
                      replace h3 := bnd h3; obtain ⟨y12, hy12, h3⟩ := h3
                      refine kcall [3, 4, 5, 8, 14, 15, 16, 18, 19, 22, 23, 46, 47, 48, 84] [] (ref37_there_ok hy12) rfl rfl rfl Try.call96 (by simp) (by simp; rfl) ?_
                      refine ko [3, 4, 5, 8, 14, 15, 16, 18, 19, 21, 22, 23, 46, 47, 48] 1 (by simp; rfl) ?_
                      refine tops_nil ?_
                      replace h3 := bnd h3; obtain ⟨_, p43, h3⟩ := h3
                      replace p43 := ck_some p43
                      have p43' := p43; try simp at p43'
                      refine kr [3, 4, 5, 8, 14, 15, 16, 18, 19, 21, 22, 23, 46, 47, 48] (by simp [p43, p43']; rfl) ?_
                      refine sjv (fun v13 : (List api_Rotation) => ({ nt := 114, env := [(3, .d (.slice (rowsF (iRow .i64) a3))), (4, .ptr 4 0), (5, .ptr 5 0), (8, .ptr 8 0), (14, .vec 91), (15, .vec 97), (16, .d (.int .i64 (IntKind.i64.wrap (s9.1 + 1)))), (18, .ptr 18 0), (19, .ptr 19 0), (21, .d (.bool y12)), (22, .d (.int .i64 s9.2.2.1)), (46, .d (.slice (rowsF api_Step_row a2))), (47, .d (.int .i64 ((a2).length : Int))), (48, .d (.int .i64 s5.2.1))], box := [(4, [.d (.int .i64 a0.Slots), .d (.slice (rowsF api_Consumer_row a0.Consumers))]), (5, [.d (.int .i64 s5.2.2.1), .d (.int .i64 s5.2.2.2.1), .d (.slice (rowsF api_Unit_row s5.2.2.2.2.1))]), (8, [.d (.int .i64 0), .d (.int .i64 0), .nilS]), (18, [.d (.int .i64 x6.Kind), .d (.int .i64 x6.Unit)]), (19, [.d (.int .i64 y7.1.Known), .d (.int .i64 y7.1.Valid), .d (.slice (rowsF api_Unit_row y7.1.Units))])], vec := [(91, ⟨87, 4, rowsF api_Attempt_row (s9.2.2.2.2 ++ [(⟨x6, v11, y12⟩ : api_Attempt)])⟩), (97, ⟨33, 3, rowsF api_Rotation_row v13⟩)] } : St)) (fun v13 => ref37_run_j4 y12 s5 s9 x6 v11 v13 = some o3) (fun v13 h3 => ?_) ?_
                      · unfold ref37_run_j4 at h3
                        refine kr [3, 4, 5, 8, 14, 15, 16, 18, 19, 21, 22, 46, 47, 48, 99] (by simp; rfl) ?_
                        refine tr_cond (b := (!y12)) (by simp) (fun c69 => ?_) (fun c69 => ?_)
                        · rw [if_pos c69] at h3
                          replace h3 := bnd h3; obtain ⟨_, p45, h3⟩ := h3
                          replace p45 := ck_some p45
                          have p45' := p45; try simp at p45'
                          refine lr (by simp [p45, p45']; rfl) ?_
                          refine lr (by simp; rfl) ?_
                          exact ⟨_, hg3 _ (Option.some.inj h3), (wk_ren 103 45).trans (wk (by simp [weak_iff]))⟩
                        · rw [if_neg (by rw [c69]; decide)] at h3
                          refine tr_skip ?_
                          refine lr (by simp; rfl) ?_
                          exact ⟨_, hg3 _ (Option.some.inj h3), (wk_ren 97 45).trans (wk (by simp [weak_iff]))⟩
                      · refine kr [3, 4, 5, 8, 14, 15, 16, 18, 19, 21, 22, 46, 47, 48, 93] (by simp; rfl) ?_
                        refine tr_cond (b := (v11 != 1)) (by simp) (fun c70 => ?_) (fun c70 => ?_)
                        · rw [if_pos c70] at h3
                          replace h3 := bnd h3; obtain ⟨_, p46, h3⟩ := h3
                          replace p46 := ck_some p46
                          have p46' := p46; try simp at p46'
                          refine lr (by simp [p46, p46']; rfl) ?_
                          exact ⟨_, h3, wk (by simp [weak_iff])⟩
                        · rw [if_neg (by rw [c70]; decide)] at h3
                          refine tr_skip ?_
                          exact ⟨_, h3, (wk_ren 45 97).trans (wk (by simp [weak_iff]))⟩
                    · refine kr [3, 4, 5, 8, 14, 15, 16, 18, 19, 22, 23, 46, 47, 48, 76] (by simp; rfl) ?_
                      refine tr_cond (b := (decide (s9.1 < ((a3).length : Int)))) (by simp) (fun c71 => ?_) (fun c71 => ?_)
                      · rw [if_pos c71] at h3
                        replace h3 := bnd h3; obtain ⟨x14, p47, h3⟩ := h3
                        replace p47 := idx_some p47
                        have p47' := p47; try simp at p47'
                        refine lr (by simp [p47, p47']; rfl) ?_
                        exact ⟨_, h3, wk (by simp [weak_iff])⟩
                      · rw [if_neg (by rw [c71]; decide)] at h3
                        refine tr_skip ?_
                        exact ⟨_, h3, wk (by simp [weak_iff])⟩
                  · rw [if_neg (by rw [c66]; decide)] at h3
                    refine tr_exit ?_
                    exact ⟨_, he3 _ (Option.some.inj h3), wk (by simp [weak_iff])⟩
                · refine kc1 ?_
                  refine ko [3, 4, 5, 8, 14, 15, 16, 18, 19, 21, 22, 46, 47, 48, 67] 3 (by simp; rfl) ?_
                  refine tops_split 67 (decide (s9.2.2.1 < 6)) (by simp) (fun c72 => ?_) (fun c72 => ?_)
                  · rw [c72] at hvv10
                    refine ko [3, 4, 5, 8, 14, 15, 16, 18, 19, 21, 22, 46, 47, 48, 68, 69, 70] 3 (by simp; rfl) ?_
                    refine tops_nil ?_
                    cases hvv10
                    exact ⟨_, rfl, wk (by simp [weak_iff])⟩
                  · rw [c72] at hvv10
                    refine ko [3, 4, 5, 8, 14, 15, 16, 18, 19, 21, 22, 46, 47, 48, 68, 69, 70] 3 (by simp; rfl) ?_
                    refine tops_nil ?_
                    cases hvv10
                    exact ⟨_, rfl, wk (by simp [weak_iff])⟩
          · rw [if_neg (by rw [c51]; decide)] at h2
            refine tr_exit ?_
            exact ⟨_, he2 _ (Option.some.inj h2), wk (by simp [weak_iff])⟩
      · refine tr_block (tr_iter (fun s17 : Int => ({ nt := 114, env := [(2, .d (.slice (rowsF api_Step_row a2))), (3, .d (.slice (rowsF (iRow .i64) a3))), (4, .ptr 4 0), (5, .ptr 5 0), (8, .ptr 8 0), (33, .d (.slice (rowsF (iRow .i64) a3))), (34, .d (.int .i64 ((a3).length : Int))), (35, .d (.int .i64 s17))], box := [(4, [.d (.int .i64 a0.Slots), .d (.slice (rowsF api_Consumer_row a0.Consumers))]), (5, [.d (.int .i64 a1.Known), .d (.int .i64 a1.Valid), .d (.slice (rowsF api_Unit_row a1.Units))]), (8, [.d (.int .i64 0), .d (.int .i64 0), .nilS])], vec := [] } : St)) hI1 (wk (by simp [weak_iff])) fun G3 s17 o3 h3 hg3 he3 => ?_)
        unfold ref37_run_l0 at h3
        refine kr [2, 3, 4, 5, 8, 33, 34, 35, 36] (by simp; rfl) ?_
        refine tr_seq ?_
        refine tr_cond (b := (decide (s17 < ((a3).length : Int)))) (by simp) (fun c73 => ?_) (fun c73 => ?_)
        · rw [if_pos c73] at h3
          refine tr_skip ?_
          refine tr_seq ?_
          refine tr_block ?_
          replace h3 := bnd h3; obtain ⟨x18, p48, h3⟩ := h3
          replace p48 := idx_some p48
          have p48' := p48; try simp at p48'
          refine kr [2, 3, 4, 5, 8, 13, 33, 34, 35] (by simp [p48, p48']; rfl) ?_
          refine kc ?_
          refine ko [2, 3, 4, 5, 8, 33, 34, 35, 39] 1 (by simp; rfl) ?_
          replace h3 := bnd h3; obtain ⟨y19, hy19, h3⟩ := h3
          refine kcall [2, 3, 4, 5, 8, 33, 34, 35, 40] [] (ref37_right_ok hy19) rfl rfl rfl Try.call95 (by simp) (by simp; rfl) ?_
          refine ko [2, 3, 4, 5, 8, 33, 34, 35, 41] 1 (by simp; rfl) ?_
          refine tops_nil ?_
          refine tr_cond (b := (!y19)) (by simp) (fun c74 => ?_) (fun c74 => ?_)
          · rw [if_pos c74] at h3
            refine kr [8, 9, 10, 11] (by simp; rfl) ?_
            have k1 := he3 _ (Option.some.inj h3)
            subst k1
            dsimp only at h0
            cases h0
            exact tr_ret ⟨[], by simp, rfl, by simp⟩
          · rw [if_neg (by rw [c74]; decide)] at h3
            refine tr_skip ?_
            refine lr (by simp; rfl) ?_
            exact ⟨_, hg3 _ (Option.some.inj h3), wk (by simp [weak_iff])⟩
        · rw [if_neg (by rw [c73]; decide)] at h3
          refine tr_exit ?_
          exact ⟨_, he3 _ (Option.some.inj h3), wk (by simp [weak_iff])⟩
set_option maxHeartbeats 1000000 in
theorem ref37_Run_ok {a0 : api_Fleet} {a1 : api_Rotation} {a2 : List api_Step} {a3 : List Int} {r : api_Rotation × (List api_Attempt) × Int} (h0 : ref37_Run a0 a1 a2 a3 = some r) : FnOK Try.prog 67 [] [.agg (api_Fleet_av a0), .agg (api_Rotation_av a1), .d (.slice (rowsF api_Step_row a2)), .d (.slice (rowsF (iRow .i64) a3))] (.tup [.agg (api_Rotation_av r.1), .d (.slice (rowsF api_Attempt_row r.2.1)), .d (.int .i64 r.2.2)]) [] := by
  unfold ref37_Run at h0
  refine fn_ok (nt := 28) (rs := [.cell 8 33, .tmp 9, .tmp 10]) Try.func67 rfl Try.ntmps67 rfl (by simp) (by decide) rfl fun K => ?_
  refine kr [2, 3, 4, 5, 8] (by simp; rfl) ?_
  refine kc ?_
  refine ko [8, 16, 17, 18, 19] 4 (by simp; rfl) ?_
  replace h0 := bnd h0; obtain ⟨y1, hy1, h0⟩ := h0
  refine kcall [8, 20] [] (ref37_run_ok hy1) rfl rfl rfl Try.call94 (by simp) (by simp; rfl) ?_
  refine ko [8, 11, 12, 14] 10 (by simp; rfl) ?_
  refine tops_nil ?_
  refine kr [8, 9, 10] (by simp; rfl) ?_
  cases h0
  exact tr_ret ⟨[], by simp, rfl, by simp⟩
set_option maxHeartbeats 1000000 in
theorem ref37_States_ok {a0 : api_Fleet} {a1 : api_Rotation} {a2 : List api_Step} {a3 : List Int} {r : (List api_Rotation) × Int} (h0 : ref37_States a0 a1 a2 a3 = some r) : FnOK Try.prog 68 [] [.agg (api_Fleet_av a0), .agg (api_Rotation_av a1), .d (.slice (rowsF api_Step_row a2)), .d (.slice (rowsF (iRow .i64) a3))] (.tup [.d (.slice (rowsF api_Rotation_row r.1)), .d (.int .i64 r.2)]) [] := by
  unfold ref37_States at h0
  refine fn_ok (nt := 26) (rs := [.tmp 8, .tmp 9]) Try.func68 rfl Try.ntmps68 rfl (by simp) (by decide) rfl fun K => ?_
  refine kr [2, 3, 4, 5] (by simp; rfl) ?_
  refine kc ?_
  refine ko [15, 16, 17, 18] 4 (by simp; rfl) ?_
  replace h0 := bnd h0; obtain ⟨y1, hy1, h0⟩ := h0
  refine kcall [19] [] (ref37_run_ok hy1) rfl rfl rfl Try.call94 (by simp) (by simp; rfl) ?_
  refine ko [12, 13] 10 (by simp; rfl) ?_
  refine tops_nil ?_
  refine kr [8, 9] (by simp; rfl) ?_
  cases h0
  exact tr_ret ⟨[], by simp, rfl, by simp⟩
set_option maxHeartbeats 1000000 in
theorem ref37_Same_ok {a0 : List api_Attempt} {a1 : List api_Attempt} {r : Bool} (h0 : ref37_Same a0 a1 = some r) : FnOK Try.prog 69 [] [.d (.slice (rowsF api_Attempt_row a0)), .d (.slice (rowsF api_Attempt_row a1))] (.d (.bool r)) [] := by
  unfold ref37_Same at h0
  refine fn_ok (nt := 26) (rs := [.tmp 4]) Try.func69 rfl Try.ntmps69 rfl (by simp) (by decide) rfl fun K => ?_
  refine kr [0, 1] (by simp; rfl) ?_
  refine tr_seq ?_
  refine kr [0, 1, 10] (by simp; rfl) ?_
  refine tr_cond (b := (((a0).length : Int) != ((a1).length : Int))) (by simp) (fun c1 => ?_) (fun c1 => ?_)
  · rw [if_pos c1] at h0
    refine kr [4] (by simp; rfl) ?_
    cases h0
    exact tr_ret ⟨[], by simp, rfl, by simp⟩
  · rw [if_neg (by rw [c1]; decide)] at h0
    refine tr_skip ?_
    refine tr_seq ?_
    refine kr [0, 1, 12, 13] (by simp; rfl) ?_
    replace h0 := bnd h0; obtain ⟨e1, hI1, h0⟩ := h0
    refine tjv (fun v1 : Unit => ({ nt := 26, env := [], box := [], vec := [] } : St)) (fun v1 => .inl v1 = e1) (fun v1 hI1e _ W1 => ?_) ?_
    · subst hI1e
      dsimp only at h0
      refine tr_wk W1 ?_
      refine kr [4] (by simp; rfl) ?_
      cases h0
      exact tr_ret ⟨[], by simp, rfl, by simp⟩
    · refine tr_block (tr_iter (fun s2 : Int => ({ nt := 26, env := [(0, .d (.slice (rowsF api_Attempt_row a0))), (1, .d (.slice (rowsF api_Attempt_row a1))), (12, .d (.int .i64 ((a0).length : Int))), (13, .d (.int .i64 s2))], box := [], vec := [] } : St)) hI1 (wk (by simp [weak_iff])) fun G1 s2 o1 h1 hg1 he1 => ?_)
      unfold ref37_Same_l0 at h1
      refine kr [0, 1, 12, 13, 14] (by simp; rfl) ?_
      refine tr_seq ?_
      refine tr_cond (b := (decide (s2 < ((a0).length : Int)))) (by simp) (fun c6 => ?_) (fun c6 => ?_)
      · rw [if_pos c6] at h1
        refine tr_skip ?_
        refine tr_seq ?_
        refine tr_block ?_
        refine kr [0, 1, 5, 12, 13] (by simp; rfl) ?_
        refine kd [[], [], [0, 1], [2], [], [], [4, 5], [6], [3, 7]] [] [] none [] 9 fol (by decide +kernel) (by simp) ?_
        replace h1 := bnd h1; obtain ⟨x3, p11, h1⟩ := h1
        replace p11 := idx_some p11
        have p11' := p11; try simp at p11'
        replace h1 := bnd h1; obtain ⟨x4, p12, h1⟩ := h1
        replace p12 := idx_some p12
        have p12' := p12; try simp at p12'
        refine dr_go 0 2 rfl (by simp (maxSteps := 1000000) [p11, p12, p11', p12']; rfl) ?_
        refine dr_go 2 2 rfl (by simp (maxSteps := 1000000) [p11, p12, p11', p12']; rfl) ?_
        refine dr_go 4 2 rfl (by simp (maxSteps := 1000000) [p11, p12, p11', p12']; rfl) ?_
        refine dr_go 6 2 rfl (by simp (maxSteps := 1000000) [p11, p12, p11', p12']; rfl) ?_
        refine dr_go 8 1 rfl (by simp (maxSteps := 1000000) [p11, p12, p11', p12']; rfl) ?_
        refine dr_end rfl (tops_nil ?_)
        refine tr_cond (b := (!(((x3.Step.Kind == x4.Step.Kind) && (x3.Step.Unit == x4.Step.Unit)) && ((x3.Outcome == x4.Outcome) && (x3.There == x4.There))))) (by simp) (fun c7 => ?_) (fun c7 => ?_)
        · rw [if_pos c7] at h1
          refine kr [4] (by simp; rfl) ?_
          have k1 := he1 _ (Option.some.inj h1)
          subst k1
          dsimp only at h0
          cases h0
          exact tr_ret ⟨[], by simp, rfl, by simp⟩
        · rw [if_neg (by rw [c7]; decide)] at h1
          refine tr_skip ?_
          refine lr (by simp; rfl) ?_
          exact ⟨_, hg1 _ (Option.some.inj h1), wk (by simp [weak_iff])⟩
      · rw [if_neg (by rw [c6]; decide)] at h1
        refine tr_exit ?_
        exact ⟨_, he1 _ (Option.some.inj h1), wk (by simp [weak_iff])⟩
set_option maxHeartbeats 1000000 in
theorem ref37_Left_ok {a0 : List api_Step} {a1 : List api_Attempt} {r : (List api_Step) × Int} (h0 : ref37_Left a0 a1 = some r) : FnOK Try.prog 70 [] [.d (.slice (rowsF api_Step_row a0)), .d (.slice (rowsF api_Attempt_row a1))] (.tup [.d (.slice (rowsF api_Step_row r.1)), .d (.int .i64 r.2)]) [] := by
  unfold ref37_Left at h0
  refine fn_ok (nt := 58) (rs := [.tmp 4, .tmp 5]) Try.func70 rfl Try.ntmps70 rfl (by simp) (by decide) rfl fun K => ?_
  refine kr [0, 1] (by simp; rfl) ?_
  refine tr_seq ?_
  refine kr [0, 1, 11, 12, 13] (by simp; rfl) ?_
  replace h0 := bnd h0; obtain ⟨e1, hI1, h0⟩ := h0
  refine tjv (fun v1 : Unit => ({ nt := 58, env := [(0, .d (.slice (rowsF api_Step_row a0))), (1, .d (.slice (rowsF api_Attempt_row a1)))], box := [], vec := [] } : St)) (fun v1 => .inl v1 = e1) (fun v1 hI1e _ W1 => ?_) ?_
  · subst hI1e
    dsimp only at h0
    refine tr_wk W1 ?_
    refine kr [0, 1, 8] (by simp; rfl) ?_
    refine tr_seq ?_
    refine kr [0, 8, 30, 31, 32] (by simp; rfl) ?_
    replace h0 := bnd h0; obtain ⟨e2, hI2, h0⟩ := h0
    refine tjv (fun v2 : Int => ({ nt := 58, env := [(0, .d (.slice (rowsF api_Step_row a0))), (8, .d (.int .i64 v2))], box := [], vec := [] } : St)) (fun v2 => .inl v2 = e2) (fun v2 hI2e _ W2 => ?_) ?_
    · subst hI2e
      dsimp only at h0
      refine tr_wk W2 ?_
      replace h0 := bnd h0; obtain ⟨_, p9, h0⟩ := h0
      replace p9 := ck_some p9
      have p9' := p9; try simp at p9'
      replace h0 := bnd h0; obtain ⟨_, p10, h0⟩ := h0
      replace p10 := ck_some p10
      have p10' := p10; try simp at p10'
      refine kr [4, 5] (by simp [p9, p10, p9', p10']; rfl) ?_
      cases h0
      exact tr_ret ⟨[57], by simp, rfl, by simp⟩
    · refine tr_block (tr_iter (fun s3 : Int × Int => ({ nt := 58, env := [(0, .d (.slice (rowsF api_Step_row a0))), (8, .d (.int .i64 s3.1)), (30, .d (.slice (rowsF api_Attempt_row a1))), (31, .d (.int .i64 ((a1).length : Int))), (32, .d (.int .i64 s3.2))], box := [], vec := [] } : St)) hI2 (wk (by simp [weak_iff])) fun G2 s3 o2 h2 hg2 he2 => ?_)
      unfold ref37_Left_l1 at h2
      refine kr [0, 8, 30, 31, 32, 33] (by simp; rfl) ?_
      refine tr_seq ?_
      refine tr_cond (b := (decide (s3.2 < ((a1).length : Int)))) (by simp) (fun c19 => ?_) (fun c19 => ?_)
      · rw [if_pos c19] at h2
        refine tr_skip ?_
        refine tr_seq ?_
        refine tr_block ?_
        replace h2 := bnd h2; obtain ⟨x4, p11, h2⟩ := h2
        replace p11 := idx_some p11
        have p11' := p11; try simp at p11'
        refine kr [0, 8, 10, 30, 31, 32] (by simp [p11, p11']; rfl) ?_
        refine tr_seq ?_
        replace h2 := bnd h2; obtain ⟨v5, hvv5, h2⟩ := h2
        refine sjv (fun v5_ : Bool => ({ nt := 58, env := [(0, .d (.slice (rowsF api_Step_row a0))), (8, .d (.int .i64 s3.1)), (10, .ptr 10 0), (30, .d (.slice (rowsF api_Attempt_row a1))), (31, .d (.int .i64 ((a1).length : Int))), (32, .d (.int .i64 s3.2)), (48, .d (.bool v5_))], box := [(10, [.d (.int .i64 x4.Step.Kind), .d (.int .i64 x4.Step.Unit), .d (.int .i64 x4.Outcome), .d (.bool x4.There)])], vec := [] } : St)) (fun v5_ => v5 = v5_) (fun v5_ e => ?_) ?_
        · subst e
          refine tr_cond (b := v5) (by simp) (fun c24 => ?_) (fun c24 => ?_)
          · rw [if_pos c24] at h2
            refine kr [4, 5] (by simp; rfl) ?_
            have k1 := he2 _ (Option.some.inj h2)
            subst k1
            dsimp only at h0
            cases h0
            exact tr_ret ⟨[], by simp, rfl, by simp⟩
          · rw [if_neg (by rw [c24]; decide)] at h2
            refine tr_skip ?_
            refine kr [0, 8, 30, 31, 32, 50] (by simp; rfl) ?_
            refine tr_cond (b := x4.There) (by simp) (fun c25 => ?_) (fun c25 => ?_)
            · rw [if_pos c25] at h2
              refine lr (by simp; rfl) ?_
              refine lr (by simp; rfl) ?_
              exact ⟨_, hg2 _ (Option.some.inj h2), wk (by simp [weak_iff])⟩
            · rw [if_neg (by rw [c25]; decide)] at h2
              refine tr_skip ?_
              refine lr (by simp; rfl) ?_
              exact ⟨_, hg2 _ (Option.some.inj h2), wk (by simp [weak_iff])⟩
        · refine kd1 [[], [], [1], [0, 2], [2, 3], [2, 4], [2, 4, 5], [2, 4], [2, 4], [2, 4, 7, 8], [2, 4, 9], [2, 4, 6, 10], [2, 4, 11]] [] [] none [] 13 fol (by decide +kernel) (by simp) ?_
          refine dr_go 0 2 rfl (by simp (maxSteps := 1000000); rfl) ?_
          refine dr_go 2 2 rfl (by simp (maxSteps := 1000000); rfl) ?_
          refine dr_go 4 1 rfl (by simp (maxSteps := 1000000); rfl) ?_
          refine dr_split 4 40 (decide (((a0).length : Int) ≤ s3.1)) (by simp) (fun c27 => ?_) (fun c27 => ?_)
          · rw [if_pos c27] at hvv5
            refine dr_skip 5 58 [some 41, some 42, some 43, some 44, some 45, some 46, some 47] rfl rfl (by decide) (by kernel_rfl) (by simp only [skEf, List.map_cons, List.map_nil, List.cons_append, List.nil_append]; rfl) ?_
            refine dr_go 12 1 rfl (by simp (maxSteps := 1000000); rfl) ?_
            refine dr_end rfl (tops_nil ?_)
            cases hvv5
            exact ⟨_, rfl, wk (by simp [weak_iff])⟩
          · rw [if_neg (by rw [c27]; decide)] at hvv5
            replace hvv5 := bnd hvv5; obtain ⟨x6, p17, hvv5⟩ := hvv5
            replace p17 := idx_some p17
            have p17' := p17; try simp at p17'
            refine dr_go 5 2 rfl (by simp (maxSteps := 1000000) [p17, p17']; rfl) ?_
            refine dr_go 7 2 rfl (by simp (maxSteps := 1000000) [p17, p17']; rfl) ?_
            refine dr_go 9 2 rfl (by simp (maxSteps := 1000000) [p17, p17']; rfl) ?_
            refine dr_go 11 2 rfl (by simp (maxSteps := 1000000) [p17, p17']; rfl) ?_
            refine dr_end rfl (tops_nil ?_)
            cases hvv5
            exact ⟨_, rfl, wk (by simp [weak_iff])⟩
      · rw [if_neg (by rw [c19]; decide)] at h2
        refine tr_exit ?_
        exact ⟨_, he2 _ (Option.some.inj h2), wk (by simp [weak_iff])⟩
  · refine tr_block (tr_iter (fun s9 : Int => ({ nt := 58, env := [(0, .d (.slice (rowsF api_Step_row a0))), (1, .d (.slice (rowsF api_Attempt_row a1))), (11, .d (.slice (rowsF api_Attempt_row a1))), (12, .d (.int .i64 ((a1).length : Int))), (13, .d (.int .i64 s9))], box := [], vec := [] } : St)) hI1 (wk (by simp [weak_iff])) fun G2 s9 o2 h2 hg2 he2 => ?_)
    unfold ref37_Left_l0 at h2
    refine kr [0, 1, 11, 12, 13, 14] (by simp; rfl) ?_
    refine tr_seq ?_
    refine tr_cond (b := (decide (s9 < ((a1).length : Int)))) (by simp) (fun c28 => ?_) (fun c28 => ?_)
    · rw [if_pos c28] at h2
      refine tr_skip ?_
      refine tr_seq ?_
      refine tr_block ?_
      replace h2 := bnd h2; obtain ⟨x10, p18, h2⟩ := h2
      replace p18 := idx_some p18
      have p18' := p18; try simp at p18'
      refine kr [0, 1, 7, 11, 12, 13] (by simp [p18, p18']; rfl) ?_
      replace h2 := bnd h2; obtain ⟨v11, hvv11, h2⟩ := h2
      refine sjv (fun v11_ : Bool => ({ nt := 58, env := [(0, .d (.slice (rowsF api_Step_row a0))), (1, .d (.slice (rowsF api_Attempt_row a1))), (11, .d (.slice (rowsF api_Attempt_row a1))), (12, .d (.int .i64 ((a1).length : Int))), (13, .d (.int .i64 s9)), (28, .d (.bool v11_))], box := [], vec := [] } : St)) (fun v11_ => v11 = v11_) (fun v11_ e => ?_) ?_
      · subst e
        refine tr_cond (b := v11) (by simp) (fun c33 => ?_) (fun c33 => ?_)
        · rw [if_pos c33] at h2
          refine kr [4, 5] (by simp; rfl) ?_
          have k1 := he2 _ (Option.some.inj h2)
          subst k1
          dsimp only at h0
          cases h0
          exact tr_ret ⟨[], by simp, rfl, by simp⟩
        · rw [if_neg (by rw [c33]; decide)] at h2
          refine tr_skip ?_
          refine lr (by simp; rfl) ?_
          exact ⟨_, hg2 _ (Option.some.inj h2), wk (by simp [weak_iff])⟩
      · refine kd1 [[], [0], [1], [2], [3], [4], [4, 5], [4], [4, 7], [4, 8], [4, 6, 9], [4, 10]] [] [] none [] 12 fol (by decide +kernel) (by simp) ?_
        refine dr_go 0 2 rfl (by simp (maxSteps := 1000000); rfl) ?_
        replace hvv11 := bnd hvv11; obtain ⟨y12, hy12, hvv11⟩ := hvv11
        refine dr_call 2 [] (ref37_right_ok hy12) rfl rfl rfl rfl rfl Try.call95 (by simp) ?_
        refine dr_go 3 2 rfl (by simp (maxSteps := 1000000); rfl) ?_
        refine dr_split 4 21 (!y12) (by simp) (fun c35 => ?_) (fun c35 => ?_)
        · rw [if_pos c35] at hvv11
          refine dr_skip 5 58 [some 22, some 23, some 24, some 25, some 26, some 27] rfl rfl (by decide) (by kernel_rfl) (by simp only [skEf, List.map_cons, List.map_nil, List.cons_append, List.nil_append]; rfl) ?_
          refine dr_go 11 1 rfl (by simp (maxSteps := 1000000); rfl) ?_
          refine dr_end rfl (tops_nil ?_)
          cases hvv11
          exact ⟨_, rfl, wk (by simp [weak_iff])⟩
        · rw [if_neg (by rw [c35]; decide)] at hvv11
          refine dr_go 5 2 rfl (by simp (maxSteps := 1000000); rfl) ?_
          refine dr_go 7 2 rfl (by simp (maxSteps := 1000000); rfl) ?_
          replace hvv11 := bnd hvv11; obtain ⟨y13, hy13, hvv11⟩ := hvv11
          refine dr_call 9 [] (ref37_there_ok hy13) rfl rfl rfl rfl rfl Try.call96 (by simp) ?_
          refine dr_go 10 2 rfl (by simp (maxSteps := 1000000); rfl) ?_
          refine dr_end rfl (tops_nil ?_)
          cases hvv11
          exact ⟨_, rfl, wk (by simp [weak_iff])⟩
    · rw [if_neg (by rw [c28]; decide)] at h2
      refine tr_exit ?_
      exact ⟨_, he2 _ (Option.some.inj h2), wk (by simp [weak_iff])⟩
set_option maxHeartbeats 1000000 in
theorem law37_RunnerExact_ok {a0 : List Int} {a1 : api_Fleet} {a2 : api_Rotation} {a3 : List api_Step} {a4 : List Int} {a5 : List api_Attempt} {r : Bool} (h0 : law37_RunnerExact a0 a1 a2 a3 a4 a5 = some r) : FnOK Try.prog 16 [] [.d (.slice (rowsF (iRow .i64) a0)), .agg (api_Fleet_av a1), .agg (api_Rotation_av a2), .d (.slice (rowsF api_Step_row a3)), .d (.slice (rowsF (iRow .i64) a4)), .d (.slice (rowsF api_Attempt_row a5))] (.d (.bool r)) [] := by
  unfold law37_RunnerExact at h0
  refine fn_ok (nt := 242) (rs := [.tmp 12]) Try.func16 rfl Try.ntmps16 rfl (by simp) (by decide) rfl fun K => ?_
  refine kr [0, 3, 4, 5, 7, 8] (by simp; rfl) ?_
  refine tr_seq ?_
  replace h0 := bnd h0; obtain ⟨v1, hvv1, h0⟩ := h0
  refine sjv (fun v1_ : Bool => ({ nt := 242, env := [(0, .d (.slice (rowsF (iRow .i64) a0))), (3, .d (.slice (rowsF api_Step_row a3))), (4, .d (.slice (rowsF (iRow .i64) a4))), (5, .d (.slice (rowsF api_Attempt_row a5))), (7, .ptr 7 0), (8, .ptr 8 0), (71, .d (.bool v1_))], box := [(7, [.d (.int .i64 a1.Slots), .d (.slice (rowsF api_Consumer_row a1.Consumers))]), (8, [.d (.int .i64 a2.Known), .d (.int .i64 a2.Valid), .d (.slice (rowsF api_Unit_row a2.Units))])], vec := [] } : St)) (fun v1_ => v1 = v1_) (fun v1_ e => ?_) ?_
  · subst e
    refine tr_cond (b := v1) (by simp) (fun c11 => ?_) (fun c11 => ?_)
    · rw [if_pos c11] at h0
      refine kc ?_
      replace h0 := bnd h0; obtain ⟨y2, hy2, h0⟩ := h0
      refine kcall [72] [] (law37_awake_ok hy2) rfl rfl rfl Try.call61 (by simp) (by simp; rfl) ?_
      refine ko [12] 1 (by simp; rfl) ?_
      refine tops_nil ?_
      cases h0
      exact tr_ret ⟨[], by simp, rfl, by simp⟩
    · rw [if_neg (by rw [c11]; decide)] at h0
      refine tr_skip ?_
      refine kr [3, 4, 5, 7, 8, 13] (by simp; rfl) ?_
      refine kc ?_
      refine ko [3, 4, 5, 7, 8, 13, 76] 1 (by simp; rfl) ?_
      replace h0 := bnd h0; obtain ⟨y3, hy3, h0⟩ := h0
      refine kcall [3, 4, 5, 7, 8, 13, 77] [75] (make_Fleet_ok hy3) rfl rfl rfl Try.call18 (by simp) (by simp; rfl) ?_
      refine ko [3, 4, 5, 7, 8, 13, 14] 2 (by simp; rfl) ?_
      refine tops_nil ?_
      refine kc ?_
      refine ko [3, 4, 5, 7, 8, 13, 14, 78, 79] 2 (by simp; rfl) ?_
      replace h0 := bnd h0; obtain ⟨y4, hy4, h0⟩ := h0
      refine kcall [3, 4, 5, 7, 8, 13, 14, 80] [75] (make_State_ok hy4) rfl rfl rfl Try.call19 (by simp) (by simp; rfl) ?_
      refine ko [3, 4, 5, 7, 8, 13, 14, 15] 2 (by simp; rfl) ?_
      refine tops_nil ?_
      refine kc ?_
      refine ko [3, 4, 5, 7, 8, 13, 14, 15, 81, 82, 83] 3 (by simp; rfl) ?_
      replace h0 := bnd h0; obtain ⟨y5, hy5, h0⟩ := h0
      refine kcall [3, 4, 5, 7, 8, 13, 14, 15, 84] [75] (make_Steps_ok hy5) rfl rfl rfl Try.call49 (by simp) (by simp; rfl) ?_
      refine ko [3, 4, 5, 7, 8, 13, 14, 15, 16] 1 (by simp; rfl) ?_
      refine tops_nil ?_
      refine tr_seq ?_
      refine kr [3, 4, 5, 8, 13, 14, 15, 16, 88, 89] (by simp; rfl) ?_
      replace h0 := bnd h0; obtain ⟨l6, hl6, h0⟩ := h0
      replace hl6 := Option.some.inj hl6
      replace h0 := bnd h0; obtain ⟨e1, hI1, h0⟩ := h0
      refine tjv (fun v7 : Unit => ({ nt := 242, env := [], box := [], vec := [] } : St)) (fun v7 => .inl v7 = e1) (fun v7 hI1e _ W1 => ?_) ?_
      · subst hI1e
        dsimp only at h0
        refine tr_wk W1 ?_
        refine kc ?_
        replace h0 := bnd h0; obtain ⟨y8, hy8, h0⟩ := h0
        refine kcall [241] [] (law37_awake_ok hy8) rfl rfl rfl Try.call61 (by simp) (by simp; rfl) ?_
        refine ko [12] 1 (by simp; rfl) ?_
        refine tops_nil ?_
        cases h0
        exact tr_ret ⟨[], by simp, rfl, by simp⟩
      · refine tr_block (tr_iter (fun s9 : Int × (List Int) × Int => ({ nt := 242, env := [(3, .d (.slice (rowsF api_Step_row a3))), (4, .d (.slice (rowsF (iRow .i64) a4))), (5, .d (.slice (rowsF api_Attempt_row a5))), (8, .ptr 8 0), (13, .ptr 75 0), (14, .ptr 14 0), (15, .ptr 15 0), (16, .d (.slice (rowsF api_Step_row y5.1))), (88, .agg (arC api_Fleet_row l6)), (89, .d (.int .i64 s9.1))], box := [(8, [.d (.int .i64 a2.Known), .d (.int .i64 a2.Valid), .d (.slice (rowsF api_Unit_row a2.Units))]), (14, [.d (.int .i64 y3.1.Slots), .d (.slice (rowsF api_Consumer_row y3.1.Consumers))]), (15, [.d (.int .i64 y4.1.Known), .d (.int .i64 y4.1.Valid), .d (.slice (rowsF api_Unit_row y4.1.Units))]), (75, [.d (.slice (rowsF (iRow .i64) s9.2.1)), .d (.int .i64 s9.2.2)])], vec := [] } : St)) hI1 (wk (by subst hl6; simp [weak_iff])) fun G1 s9 o1 h1 hg1 he1 => ?_)
        unfold law37_RunnerExact_l0 at h1
        refine kr [3, 4, 5, 8, 13, 14, 15, 16, 88, 89, 90] (by simp; rfl) ?_
        refine tr_seq ?_
        refine tr_cond (b := (decide (s9.1 < 3))) (by simp) (fun c138 => ?_) (fun c138 => ?_)
        · rw [if_pos c138] at h1
          refine tr_skip ?_
          refine tr_seq ?_
          refine tr_block ?_
          replace h1 := bnd h1; obtain ⟨_, p135, h1⟩ := h1
          replace p135 := ck_some p135
          have p135' := p135; try simp at p135'
          replace h1 := bnd h1; obtain ⟨x10, p136, h1⟩ := h1
          replace p136 := idx_some p136
          have p136' := p136; try simp at p136'
          have ix137 : indexVA Try.prog 43 (.agg (arC api_Fleet_row l6)) s9.1 = some (.agg [.d (.int .i64 x10.Slots), .d (.slice (rowsF api_Consumer_row x10.Consumers))]) := indexVA_arC Try.underlying43 sz29 p136.1 p135 p136.2 (by simp) (by simp)
          refine kr [3, 4, 5, 8, 13, 14, 15, 16, 17, 18, 88, 89] (by simp [p135, p136, ix137, -indexVA, p135', p136']; rfl) ?_
          replace h1 := bnd h1; obtain ⟨l11, p138, h1⟩ := h1
          replace p138 := Option.some.inj p138
          replace h1 := bnd h1; obtain ⟨_, p139, h1⟩ := h1
          replace p139 := ck_some p139
          have p139' := p139; try simp at p139'
          replace h1 := bnd h1; obtain ⟨x12, p140, h1⟩ := h1
          replace p140 := idx_some p140
          have p140' := p140; try simp at p140'
          have ix141 : indexVA Try.prog 92 (.agg [.d (.int .i64 y4.1.Known), .d (.int .i64 y4.1.Valid), .d (.slice (rowsF api_Unit_row y4.1.Units)), .d (.int .i64 a2.Known), .d (.int .i64 a2.Valid), .d (.slice (rowsF api_Unit_row a2.Units)), .d (.int .i64 a2.Known), .d (.int .i64 a2.Valid), .d (.slice (rowsF api_Unit_row a2.Units))]) s9.1 = some (.agg [.d (.int .i64 x12.Known), .d (.int .i64 x12.Valid), .d (.slice (rowsF api_Unit_row x12.Units))]) := by subst p138; exact indexVA_arC (f := api_Rotation_row) (l := [y4.1, a2, a2]) Try.underlying92 sz33 p140.1 p139 p140.2 (by simp) (by simp)
          refine kr [3, 4, 5, 8, 13, 14, 15, 16, 18, 19, 88, 89] (by simp [p139, p140, ix141, -indexVA, p139', p140']; rfl) ?_
          refine kr [3, 4, 5, 8, 13, 14, 15, 16, 18, 19, 88, 89, 101, 102] (by simp; rfl) ?_
          replace h1 := bnd h1; obtain ⟨l13, hl13, h1⟩ := h1
          replace hl13 := Option.some.inj hl13
          replace h1 := bnd h1; obtain ⟨e2, hI2, h1⟩ := h1
          refine tjv (fun v14 : (List Int) × Int => ({ nt := 242, env := [(3, .d (.slice (rowsF api_Step_row a3))), (4, .d (.slice (rowsF (iRow .i64) a4))), (5, .d (.slice (rowsF api_Attempt_row a5))), (8, .ptr 8 0), (13, .ptr 75 0), (14, .ptr 14 0), (15, .ptr 15 0), (16, .d (.slice (rowsF api_Step_row y5.1))), (88, .agg (arC api_Fleet_row l6)), (89, .d (.int .i64 s9.1))], box := [(8, [.d (.int .i64 a2.Known), .d (.int .i64 a2.Valid), .d (.slice (rowsF api_Unit_row a2.Units))]), (14, [.d (.int .i64 y3.1.Slots), .d (.slice (rowsF api_Consumer_row y3.1.Consumers))]), (15, [.d (.int .i64 y4.1.Known), .d (.int .i64 y4.1.Valid), .d (.slice (rowsF api_Unit_row y4.1.Units))]), (75, [.d (.slice (rowsF (iRow .i64) v14.1)), .d (.int .i64 v14.2)])], vec := [] } : St)) (fun v14 => .inl v14 = e2) (fun v14 hI2e _ W2 => ?_) ?_
          · subst hI2e
            dsimp only at h1
            refine tr_wk W2 ?_
            refine lr (by simp; rfl) ?_
            exact ⟨_, hg1 _ (Option.some.inj h1), wk (by simp [weak_iff])⟩
          · refine tr_block (tr_iter (fun s15 : Int × (List Int) × Int => ({ nt := 242, env := [(3, .d (.slice (rowsF api_Step_row a3))), (4, .d (.slice (rowsF (iRow .i64) a4))), (5, .d (.slice (rowsF api_Attempt_row a5))), (8, .ptr 8 0), (13, .ptr 75 0), (14, .ptr 14 0), (15, .ptr 15 0), (16, .d (.slice (rowsF api_Step_row y5.1))), (18, .ptr 18 0), (19, .ptr 19 0), (88, .agg (arC api_Fleet_row l6)), (89, .d (.int .i64 s9.1)), (101, .agg (arC (slRow api_Step_row) l13)), (102, .d (.int .i64 s15.1))], box := [(8, [.d (.int .i64 a2.Known), .d (.int .i64 a2.Valid), .d (.slice (rowsF api_Unit_row a2.Units))]), (14, [.d (.int .i64 y3.1.Slots), .d (.slice (rowsF api_Consumer_row y3.1.Consumers))]), (15, [.d (.int .i64 y4.1.Known), .d (.int .i64 y4.1.Valid), .d (.slice (rowsF api_Unit_row y4.1.Units))]), (18, [.d (.int .i64 x10.Slots), .d (.slice (rowsF api_Consumer_row x10.Consumers))]), (19, [.d (.int .i64 x12.Known), .d (.int .i64 x12.Valid), .d (.slice (rowsF api_Unit_row x12.Units))]), (75, [.d (.slice (rowsF (iRow .i64) s15.2.1)), .d (.int .i64 s15.2.2)])], vec := [] } : St)) hI2 (wk (by subst hl13; simp [weak_iff])) fun G2 s15 o2 h2 hg2 he2 => ?_)
            unfold law37_RunnerExact_l1 at h2
            refine kr [3, 4, 5, 8, 13, 14, 15, 16, 18, 19, 88, 89, 101, 102, 103] (by simp; rfl) ?_
            refine tr_seq ?_
            refine tr_cond (b := (decide (s15.1 < 2))) (by simp) (fun c201 => ?_) (fun c201 => ?_)
            · rw [if_pos c201] at h2
              refine tr_skip ?_
              refine tr_seq ?_
              refine tr_block ?_
              replace h2 := bnd h2; obtain ⟨_, p204, h2⟩ := h2
              replace p204 := ck_some p204
              have p204' := p204; try simp at p204'
              replace h2 := bnd h2; obtain ⟨x16, p205, h2⟩ := h2
              replace p205 := idx_some p205
              have p205' := p205; try simp at p205'
              have ix206 : indexVA Try.prog 93 (.agg (arC (slRow api_Step_row) l13)) s15.1 = some (.d (.slice (rowsF api_Step_row x16))) := indexVA_arC Try.underlying93 sz67 p205.1 p204 p205.2 (by simp) (by simp)
              refine kr [3, 4, 5, 8, 13, 14, 15, 16, 18, 19, 21, 88, 89, 101, 102] (by simp [p204, p205, ix206, -indexVA, p204', p205']; rfl) ?_
              refine kc ?_
              refine ko [3, 4, 5, 8, 13, 14, 15, 16, 18, 19, 21, 88, 89, 101, 102, 105, 106] 2 (by simp; rfl) ?_
              replace h2 := bnd h2; obtain ⟨y17, hy17, h2⟩ := h2
              refine kcall [3, 4, 5, 8, 13, 14, 15, 16, 18, 19, 21, 88, 89, 101, 102, 105, 107] [75] (make_Outcomes_ok hy17) rfl rfl rfl Try.call63 (by simp) (by simp; rfl) ?_
              refine ko [3, 4, 5, 8, 13, 14, 15, 16, 18, 19, 21, 88, 89, 101, 102, 109, 110] 3 (by simp; rfl) ?_
              refine tops_nil ?_
              refine tr_wk (wk_frz 108) ?_
              replace h2 := bnd h2; obtain ⟨l18, hl18, h2⟩ := h2
              replace hl18 := Option.some.inj hl18
              replace h2 := bnd h2; obtain ⟨e3, hI3, h2⟩ := h2
              refine tjv (fun v19 : (List Int) × Int => ({ nt := 242, env := [(3, .d (.slice (rowsF api_Step_row a3))), (4, .d (.slice (rowsF (iRow .i64) a4))), (5, .d (.slice (rowsF api_Attempt_row a5))), (8, .ptr 8 0), (13, .ptr 75 0), (14, .ptr 14 0), (15, .ptr 15 0), (16, .d (.slice (rowsF api_Step_row y5.1))), (18, .ptr 18 0), (19, .ptr 19 0), (88, .agg (arC api_Fleet_row l6)), (89, .d (.int .i64 s9.1)), (101, .agg (arC (slRow api_Step_row) l13)), (102, .d (.int .i64 s15.1))], box := [(8, [.d (.int .i64 a2.Known), .d (.int .i64 a2.Valid), .d (.slice (rowsF api_Unit_row a2.Units))]), (14, [.d (.int .i64 y3.1.Slots), .d (.slice (rowsF api_Consumer_row y3.1.Consumers))]), (15, [.d (.int .i64 y4.1.Known), .d (.int .i64 y4.1.Valid), .d (.slice (rowsF api_Unit_row y4.1.Units))]), (18, [.d (.int .i64 x10.Slots), .d (.slice (rowsF api_Consumer_row x10.Consumers))]), (19, [.d (.int .i64 x12.Known), .d (.int .i64 x12.Valid), .d (.slice (rowsF api_Unit_row x12.Units))]), (75, [.d (.slice (rowsF (iRow .i64) v19.1)), .d (.int .i64 v19.2)])], vec := [] } : St)) (fun v19 => .inl v19 = e3) (fun v19 hI3e _ W3 => ?_) ?_
              · subst hI3e
                dsimp only at h2
                refine tr_wk W3 ?_
                refine lr (by simp; rfl) ?_
                exact ⟨_, hg2 _ (Option.some.inj h2), wk (by simp [weak_iff])⟩
              · refine tr_block (tr_iter (fun s20 : Int × (List Int) × Int => ({ nt := 242, env := [(3, .d (.slice (rowsF api_Step_row a3))), (4, .d (.slice (rowsF (iRow .i64) a4))), (5, .d (.slice (rowsF api_Attempt_row a5))), (8, .ptr 8 0), (13, .ptr 75 0), (14, .ptr 14 0), (15, .ptr 15 0), (16, .d (.slice (rowsF api_Step_row y5.1))), (18, .ptr 18 0), (19, .ptr 19 0), (21, .d (.slice (rowsF api_Step_row x16))), (88, .agg (arC api_Fleet_row l6)), (89, .d (.int .i64 s9.1)), (101, .agg (arC (slRow api_Step_row) l13)), (102, .d (.int .i64 s15.1)), (109, .agg (arC (slRow (iRow .i64)) l18)), (110, .d (.int .i64 s20.1))], box := [(8, [.d (.int .i64 a2.Known), .d (.int .i64 a2.Valid), .d (.slice (rowsF api_Unit_row a2.Units))]), (14, [.d (.int .i64 y3.1.Slots), .d (.slice (rowsF api_Consumer_row y3.1.Consumers))]), (15, [.d (.int .i64 y4.1.Known), .d (.int .i64 y4.1.Valid), .d (.slice (rowsF api_Unit_row y4.1.Units))]), (18, [.d (.int .i64 x10.Slots), .d (.slice (rowsF api_Consumer_row x10.Consumers))]), (19, [.d (.int .i64 x12.Known), .d (.int .i64 x12.Valid), .d (.slice (rowsF api_Unit_row x12.Units))]), (75, [.d (.slice (rowsF (iRow .i64) s20.2.1)), .d (.int .i64 s20.2.2)])], vec := [] } : St)) hI3 (wk (by subst hl18; simp [weak_iff])) fun G3 s20 o3 h3 hg3 he3 => ?_)
                unfold law37_RunnerExact_l2 at h3
                refine kr [3, 4, 5, 8, 13, 14, 15, 16, 18, 19, 21, 88, 89, 101, 102, 109, 110, 111] (by simp; rfl) ?_
                refine tr_seq ?_
                refine tr_cond (b := (decide (s20.1 < 3))) (by simp) (fun c232 => ?_) (fun c232 => ?_)
                · rw [if_pos c232] at h3
                  refine tr_skip ?_
                  refine tr_seq ?_
                  refine tr_block ?_
                  replace h3 := bnd h3; obtain ⟨_, p235, h3⟩ := h3
                  replace p235 := ck_some p235
                  have p235' := p235; try simp at p235'
                  replace h3 := bnd h3; obtain ⟨x21, p236, h3⟩ := h3
                  replace p236 := idx_some p236
                  have p236' := p236; try simp at p236'
                  have ix237 : indexVA Try.prog 94 (.agg (arC (slRow (iRow .i64)) l18)) s20.1 = some (.d (.slice (rowsF (iRow .i64) x21))) := indexVA_arC Try.underlying94 sz22 p236.1 p235 p236.2 (by simp) (by simp)
                  refine kr [3, 4, 5, 8, 13, 14, 15, 16, 18, 19, 21, 23, 88, 89, 101, 102, 109, 110] (by simp [p235, p236, ix237, -indexVA, p235', p236']; rfl) ?_
                  refine kc ?_
                  refine ko [3, 4, 5, 8, 13, 14, 15, 16, 18, 19, 21, 23, 88, 89, 101, 102, 109, 110, 114, 115, 116, 117] 4 (by simp; rfl) ?_
                  replace h3 := bnd h3; obtain ⟨y22, hy22, h3⟩ := h3
                  refine kcall [3, 4, 5, 8, 13, 14, 15, 16, 18, 19, 21, 23, 88, 89, 101, 102, 109, 110, 118] [] (runner_Run_ok hy22) rfl rfl rfl Try.call62 (by simp) (by simp; rfl) ?_
                  refine ko [3, 4, 5, 8, 13, 14, 15, 16, 18, 19, 21, 23, 24, 25, 26, 88, 89, 101, 102, 109, 110] 8 (by simp; rfl) ?_
                  refine tops_nil ?_
                  refine kc ?_
                  refine ko [3, 4, 5, 8, 13, 14, 15, 16, 18, 19, 21, 23, 24, 25, 26, 88, 89, 101, 102, 109, 110, 123, 124, 125, 126] 4 (by simp; rfl) ?_
                  replace h3 := bnd h3; obtain ⟨y23, hy23, h3⟩ := h3
                  refine kcall [3, 4, 5, 8, 13, 14, 15, 16, 18, 19, 21, 23, 24, 25, 26, 88, 89, 101, 102, 109, 110, 127] [] (ref37_Run_ok hy23) rfl rfl rfl Try.call67 (by simp) (by simp; rfl) ?_
                  refine ko [3, 4, 5, 8, 13, 14, 15, 16, 18, 19, 21, 23, 24, 25, 26, 27, 28, 29, 88, 89, 101, 102, 109, 110] 8 (by simp; rfl) ?_
                  refine tops_nil ?_
                  refine kc ?_
                  refine ko [3, 4, 5, 8, 13, 14, 15, 16, 18, 19, 21, 23, 24, 25, 26, 27, 28, 29, 88, 89, 101, 102, 109, 110, 132, 133, 134, 135] 4 (by simp; rfl) ?_
                  replace h3 := bnd h3; obtain ⟨y24, hy24, h3⟩ := h3
                  refine kcall [3, 4, 5, 8, 13, 14, 15, 16, 18, 19, 21, 23, 24, 25, 26, 27, 28, 29, 88, 89, 101, 102, 109, 110, 136] [] (runner_States_ok hy24) rfl rfl rfl Try.call64 (by simp) (by simp; rfl) ?_
                  refine ko [3, 4, 5, 8, 13, 14, 15, 16, 18, 19, 21, 23, 24, 25, 26, 27, 28, 29, 30, 31, 88, 89, 101, 102, 109, 110] 5 (by simp; rfl) ?_
                  refine tops_nil ?_
                  refine kc ?_
                  refine ko [3, 4, 5, 8, 13, 14, 15, 16, 18, 19, 21, 24, 25, 26, 27, 28, 29, 30, 31, 88, 89, 101, 102, 109, 110, 140, 141, 142, 143] 4 (by simp; rfl) ?_
                  replace h3 := bnd h3; obtain ⟨y25, hy25, h3⟩ := h3
                  refine kcall [3, 4, 5, 8, 13, 14, 15, 16, 18, 19, 21, 24, 25, 26, 27, 28, 29, 30, 31, 88, 89, 101, 102, 109, 110, 144] [] (ref37_States_ok hy25) rfl rfl rfl Try.call68 (by simp) (by simp; rfl) ?_
                  refine ko [3, 4, 5, 8, 13, 14, 15, 16, 18, 19, 21, 24, 25, 26, 27, 28, 29, 30, 31, 32, 33, 88, 89, 101, 102, 109, 110] 5 (by simp; rfl) ?_
                  refine tops_nil ?_
                  refine tr_seq ?_
                  replace h3 := bnd h3; obtain ⟨v26, hvv26, h3⟩ := h3
                  refine sjv (fun v26_ : Bool => ({ nt := 242, env := [(3, .d (.slice (rowsF api_Step_row a3))), (4, .d (.slice (rowsF (iRow .i64) a4))), (5, .d (.slice (rowsF api_Attempt_row a5))), (8, .ptr 8 0), (13, .ptr 75 0), (14, .ptr 14 0), (15, .ptr 15 0), (16, .d (.slice (rowsF api_Step_row y5.1))), (18, .ptr 18 0), (19, .ptr 19 0), (21, .d (.slice (rowsF api_Step_row x16))), (28, .d (.slice (rowsF api_Attempt_row y23.2.1))), (88, .agg (arC api_Fleet_row l6)), (89, .d (.int .i64 s9.1)), (101, .agg (arC (slRow api_Step_row) l13)), (102, .d (.int .i64 s15.1)), (109, .agg (arC (slRow (iRow .i64)) l18)), (110, .d (.int .i64 s20.1)), (172, .d (.bool v26_))], box := [(8, [.d (.int .i64 a2.Known), .d (.int .i64 a2.Valid), .d (.slice (rowsF api_Unit_row a2.Units))]), (14, [.d (.int .i64 y3.1.Slots), .d (.slice (rowsF api_Consumer_row y3.1.Consumers))]), (15, [.d (.int .i64 y4.1.Known), .d (.int .i64 y4.1.Valid), .d (.slice (rowsF api_Unit_row y4.1.Units))]), (18, [.d (.int .i64 x10.Slots), .d (.slice (rowsF api_Consumer_row x10.Consumers))]), (19, [.d (.int .i64 x12.Known), .d (.int .i64 x12.Valid), .d (.slice (rowsF api_Unit_row x12.Units))]), (75, [.d (.slice (rowsF (iRow .i64) s20.2.1)), .d (.int .i64 s20.2.2)])], vec := [] } : St)) (fun v26_ => v26 = v26_) (fun v26_ e => ?_) ?_
                  · subst e
                    refine tr_cond (b := v26) (by simp) (fun c241 => ?_) (fun c241 => ?_)
                    · rw [if_pos c241] at h3
                      refine kr [12] (by simp; rfl) ?_
                      have k3 := he3 _ (Option.some.inj h3)
                      subst k3
                      dsimp only at h2
                      have k2 := he2 _ (Option.some.inj h2)
                      subst k2
                      dsimp only at h1
                      have k1 := he1 _ (Option.some.inj h1)
                      subst k1
                      dsimp only at h0
                      cases h0
                      exact tr_ret ⟨[], by simp, rfl, by simp⟩
                    · rw [if_neg (by rw [c241]; decide)] at h3
                      refine tr_skip ?_
                      replace h3 := bnd h3; obtain ⟨_, p238, h3⟩ := h3
                      replace p238 := ck_some p238
                      have p238' := p238; try simp at p238'
                      refine kr [3, 4, 5, 8, 13, 14, 15, 16, 18, 19, 21, 28, 34, 88, 89, 101, 102, 109, 110] (by simp [p238, p238']; rfl) ?_
                      refine sjv (fun v27 : (List Int) × Int × (List api_Attempt) => ({ nt := 242, env := [(3, .d (.slice (rowsF api_Step_row a3))), (4, .d (.slice (rowsF (iRow .i64) a4))), (5, .d (.slice (rowsF api_Attempt_row a5))), (8, .ptr 8 0), (13, .ptr 75 0), (14, .ptr 14 0), (15, .ptr 15 0), (16, .d (.slice (rowsF api_Step_row y5.1))), (18, .ptr 18 0), (19, .ptr 19 0), (21, .d (.slice (rowsF api_Step_row x16))), (28, .d (.slice (rowsF api_Attempt_row y23.2.1))), (34, .vec 174), (88, .agg (arC api_Fleet_row l6)), (89, .d (.int .i64 s9.1)), (101, .agg (arC (slRow api_Step_row) l13)), (102, .d (.int .i64 s15.1)), (109, .agg (arC (slRow (iRow .i64)) l18)), (110, .d (.int .i64 s20.1))], box := [(8, [.d (.int .i64 a2.Known), .d (.int .i64 a2.Valid), .d (.slice (rowsF api_Unit_row a2.Units))]), (14, [.d (.int .i64 y3.1.Slots), .d (.slice (rowsF api_Consumer_row y3.1.Consumers))]), (15, [.d (.int .i64 y4.1.Known), .d (.int .i64 y4.1.Valid), .d (.slice (rowsF api_Unit_row y4.1.Units))]), (18, [.d (.int .i64 x10.Slots), .d (.slice (rowsF api_Consumer_row x10.Consumers))]), (19, [.d (.int .i64 x12.Known), .d (.int .i64 x12.Valid), .d (.slice (rowsF api_Unit_row x12.Units))]), (75, [.d (.slice (rowsF (iRow .i64) v27.1)), .d (.int .i64 v27.2.1)])], vec := [(174, ⟨87, 4, rowsF api_Attempt_row v27.2.2⟩)] } : St)) (fun v27 => law37_RunnerExact_j3 y23 a5 x16 s20 v27 = some o3) (fun v27 h3 => ?_) ?_
                      · unfold law37_RunnerExact_j3 at h3
                        refine kr [3, 4, 5, 8, 13, 14, 15, 16, 18, 19, 21, 88, 89, 101, 102, 109, 110, 212, 213] (by simp; rfl) ?_
                        refine tr_wk (wk_frz 174) ?_
                        replace h3 := bnd h3; obtain ⟨l28, hl28, h3⟩ := h3
                        replace hl28 := Option.some.inj hl28
                        replace h3 := bnd h3; obtain ⟨e4, hI4, h3⟩ := h3
                        refine tjv (fun v29 : Unit => ({ nt := 242, env := [(3, .d (.slice (rowsF api_Step_row a3))), (4, .d (.slice (rowsF (iRow .i64) a4))), (5, .d (.slice (rowsF api_Attempt_row a5))), (8, .ptr 8 0), (13, .ptr 75 0), (14, .ptr 14 0), (15, .ptr 15 0), (16, .d (.slice (rowsF api_Step_row y5.1))), (18, .ptr 18 0), (19, .ptr 19 0), (21, .d (.slice (rowsF api_Step_row x16))), (88, .agg (arC api_Fleet_row l6)), (89, .d (.int .i64 s9.1)), (101, .agg (arC (slRow api_Step_row) l13)), (102, .d (.int .i64 s15.1)), (109, .agg (arC (slRow (iRow .i64)) l18)), (110, .d (.int .i64 s20.1))], box := [(8, [.d (.int .i64 a2.Known), .d (.int .i64 a2.Valid), .d (.slice (rowsF api_Unit_row a2.Units))]), (14, [.d (.int .i64 y3.1.Slots), .d (.slice (rowsF api_Consumer_row y3.1.Consumers))]), (15, [.d (.int .i64 y4.1.Known), .d (.int .i64 y4.1.Valid), .d (.slice (rowsF api_Unit_row y4.1.Units))]), (18, [.d (.int .i64 x10.Slots), .d (.slice (rowsF api_Consumer_row x10.Consumers))]), (19, [.d (.int .i64 x12.Known), .d (.int .i64 x12.Valid), .d (.slice (rowsF api_Unit_row x12.Units))]), (75, [.d (.slice (rowsF (iRow .i64) v27.1)), .d (.int .i64 v27.2.1)])], vec := [] } : St)) (fun v29 => .inl v29 = e4) (fun v29 hI4e _ W4 => ?_) ?_
                        · subst hI4e
                          dsimp only at h3
                          refine tr_wk W4 ?_
                          refine lr (by simp; rfl) ?_
                          exact ⟨_, hg3 _ (Option.some.inj h3), wk (by simp [weak_iff])⟩
                        · refine tr_block (tr_iter (fun s30 : Int => ({ nt := 242, env := [(3, .d (.slice (rowsF api_Step_row a3))), (4, .d (.slice (rowsF (iRow .i64) a4))), (5, .d (.slice (rowsF api_Attempt_row a5))), (8, .ptr 8 0), (13, .ptr 75 0), (14, .ptr 14 0), (15, .ptr 15 0), (16, .d (.slice (rowsF api_Step_row y5.1))), (18, .ptr 18 0), (19, .ptr 19 0), (21, .d (.slice (rowsF api_Step_row x16))), (88, .agg (arC api_Fleet_row l6)), (89, .d (.int .i64 s9.1)), (101, .agg (arC (slRow api_Step_row) l13)), (102, .d (.int .i64 s15.1)), (109, .agg (arC (slRow (iRow .i64)) l18)), (110, .d (.int .i64 s20.1)), (212, .agg (arC (slRow api_Attempt_row) l28)), (213, .d (.int .i64 s30))], box := [(8, [.d (.int .i64 a2.Known), .d (.int .i64 a2.Valid), .d (.slice (rowsF api_Unit_row a2.Units))]), (14, [.d (.int .i64 y3.1.Slots), .d (.slice (rowsF api_Consumer_row y3.1.Consumers))]), (15, [.d (.int .i64 y4.1.Known), .d (.int .i64 y4.1.Valid), .d (.slice (rowsF api_Unit_row y4.1.Units))]), (18, [.d (.int .i64 x10.Slots), .d (.slice (rowsF api_Consumer_row x10.Consumers))]), (19, [.d (.int .i64 x12.Known), .d (.int .i64 x12.Valid), .d (.slice (rowsF api_Unit_row x12.Units))]), (75, [.d (.slice (rowsF (iRow .i64) v27.1)), .d (.int .i64 v27.2.1)])], vec := [] } : St)) hI4 (wk (by subst hl28; simp [weak_iff])) fun G4 s30 o4 h4 hg4 he4 => ?_)
                          unfold law37_RunnerExact_l4 at h4
                          refine kr [3, 4, 5, 8, 13, 14, 15, 16, 18, 19, 21, 88, 89, 101, 102, 109, 110, 212, 213, 214] (by simp; rfl) ?_
                          refine tr_seq ?_
                          refine tr_cond (b := (decide (s30 < 3))) (by simp) (fun c251 => ?_) (fun c251 => ?_)
                          · rw [if_pos c251] at h4
                            refine tr_skip ?_
                            refine tr_seq ?_
                            refine tr_block ?_
                            replace h4 := bnd h4; obtain ⟨_, p249, h4⟩ := h4
                            replace p249 := ck_some p249
                            have p249' := p249; try simp at p249'
                            replace h4 := bnd h4; obtain ⟨x31, p250, h4⟩ := h4
                            replace p250 := idx_some p250
                            have p250' := p250; try simp at p250'
                            have ix251 : indexVA Try.prog 97 (.agg (arC (slRow api_Attempt_row) l28)) s30 = some (.d (.slice (rowsF api_Attempt_row x31))) := indexVA_arC Try.underlying97 sz82 p250.1 p249 p250.2 (by simp) (by simp)
                            refine kr [3, 4, 5, 8, 13, 14, 15, 16, 18, 19, 21, 37, 88, 89, 101, 102, 109, 110, 212, 213] (by simp [p249, p250, ix251, -indexVA, p249', p250']; rfl) ?_
                            refine kc ?_
                            refine ko [3, 4, 5, 8, 13, 14, 15, 16, 18, 19, 21, 37, 88, 89, 101, 102, 109, 110, 212, 213, 217, 218] 2 (by simp; rfl) ?_
                            replace h4 := bnd h4; obtain ⟨y32, hy32, h4⟩ := h4
                            refine kcall [3, 4, 5, 8, 13, 14, 15, 16, 18, 19, 21, 37, 88, 89, 101, 102, 109, 110, 212, 213, 219] [] (runner_Left_ok hy32) rfl rfl rfl Try.call66 (by simp) (by simp; rfl) ?_
                            refine ko [3, 4, 5, 8, 13, 14, 15, 16, 18, 19, 21, 37, 38, 39, 88, 89, 101, 102, 109, 110, 212, 213] 5 (by simp; rfl) ?_
                            refine tops_nil ?_
                            refine kc ?_
                            refine ko [3, 4, 5, 8, 13, 14, 15, 16, 18, 19, 21, 38, 39, 88, 89, 101, 102, 109, 110, 212, 213, 223, 224] 2 (by simp; rfl) ?_
                            replace h4 := bnd h4; obtain ⟨y33, hy33, h4⟩ := h4
                            refine kcall [3, 4, 5, 8, 13, 14, 15, 16, 18, 19, 21, 38, 39, 88, 89, 101, 102, 109, 110, 212, 213, 225] [] (ref37_Left_ok hy33) rfl rfl rfl Try.call70 (by simp) (by simp; rfl) ?_
                            refine ko [3, 4, 5, 8, 13, 14, 15, 16, 18, 19, 21, 38, 39, 40, 41, 88, 89, 101, 102, 109, 110, 212, 213] 5 (by simp; rfl) ?_
                            refine tops_nil ?_
                            replace h4 := bnd h4; obtain ⟨v34, hvv34, h4⟩ := h4
                            refine sjv (fun v34_ : Bool => ({ nt := 242, env := [(3, .d (.slice (rowsF api_Step_row a3))), (4, .d (.slice (rowsF (iRow .i64) a4))), (5, .d (.slice (rowsF api_Attempt_row a5))), (8, .ptr 8 0), (13, .ptr 75 0), (14, .ptr 14 0), (15, .ptr 15 0), (16, .d (.slice (rowsF api_Step_row y5.1))), (18, .ptr 18 0), (19, .ptr 19 0), (21, .d (.slice (rowsF api_Step_row x16))), (88, .agg (arC api_Fleet_row l6)), (89, .d (.int .i64 s9.1)), (101, .agg (arC (slRow api_Step_row) l13)), (102, .d (.int .i64 s15.1)), (109, .agg (arC (slRow (iRow .i64)) l18)), (110, .d (.int .i64 s20.1)), (212, .agg (arC (slRow api_Attempt_row) l28)), (213, .d (.int .i64 s30)), (236, .d (.bool v34_))], box := [(8, [.d (.int .i64 a2.Known), .d (.int .i64 a2.Valid), .d (.slice (rowsF api_Unit_row a2.Units))]), (14, [.d (.int .i64 y3.1.Slots), .d (.slice (rowsF api_Consumer_row y3.1.Consumers))]), (15, [.d (.int .i64 y4.1.Known), .d (.int .i64 y4.1.Valid), .d (.slice (rowsF api_Unit_row y4.1.Units))]), (18, [.d (.int .i64 x10.Slots), .d (.slice (rowsF api_Consumer_row x10.Consumers))]), (19, [.d (.int .i64 x12.Known), .d (.int .i64 x12.Valid), .d (.slice (rowsF api_Unit_row x12.Units))]), (75, [.d (.slice (rowsF (iRow .i64) v27.1)), .d (.int .i64 v27.2.1)])], vec := [] } : St)) (fun v34_ => v34 = v34_) (fun v34_ e => ?_) ?_
                            · subst e
                              refine tr_cond (b := v34) (by simp) (fun c254 => ?_) (fun c254 => ?_)
                              · rw [if_pos c254] at h4
                                refine kr [12] (by simp; rfl) ?_
                                have k4 := he4 _ (Option.some.inj h4)
                                subst k4
                                dsimp only at h3
                                have k3 := he3 _ (Option.some.inj h3)
                                subst k3
                                dsimp only at h2
                                have k2 := he2 _ (Option.some.inj h2)
                                subst k2
                                dsimp only at h1
                                have k1 := he1 _ (Option.some.inj h1)
                                subst k1
                                dsimp only at h0
                                cases h0
                                exact tr_ret ⟨[], by simp, rfl, by simp⟩
                              · rw [if_neg (by rw [c254]; decide)] at h4
                                refine tr_skip ?_
                                refine lr (by simp; rfl) ?_
                                exact ⟨_, hg4 _ (Option.some.inj h4), wk (by simp [weak_iff])⟩
                            · refine kc1 ?_
                              refine ko [3, 4, 5, 8, 13, 14, 15, 16, 18, 19, 21, 38, 40, 88, 89, 101, 102, 109, 110, 212, 213, 231] 4 (by simp; rfl) ?_
                              refine tops_split 231 (y32.2 != y33.2) (by simp) (fun c255 => ?_) (fun c255 => ?_)
                              · rw [if_pos c255] at hvv34
                                refine kskip 4 [] (by kernel_rfl) ?_
                                refine ko [3, 4, 5, 8, 13, 14, 15, 16, 18, 19, 21, 88, 89, 101, 102, 109, 110, 212, 213, 236] 1 (by simp; rfl) ?_
                                refine tops_nil ?_
                                cases hvv34
                                exact ⟨_, rfl, wk (by simp [weak_iff])⟩
                              · rw [if_neg (by rw [c255]; decide)] at hvv34
                                refine ko [3, 4, 5, 8, 13, 14, 15, 16, 18, 19, 21, 88, 89, 101, 102, 109, 110, 212, 213, 231, 232, 233] 2 (by simp; rfl) ?_
                                replace hvv34 := bnd hvv34; obtain ⟨y35, hy35, hvv34⟩ := hvv34
                                refine kcall [3, 4, 5, 8, 13, 14, 15, 16, 18, 19, 21, 88, 89, 101, 102, 109, 110, 212, 213, 231, 232, 233, 234] [] (ref33_Same_ok hy35) rfl rfl rfl Try.call57 (by simp) (by simp; rfl) ?_
                                refine ko [3, 4, 5, 8, 13, 14, 15, 16, 18, 19, 21, 88, 89, 101, 102, 109, 110, 212, 213, 232, 233, 234, 235, 236] 2 (by simp; rfl) ?_
                                refine tops_nil ?_
                                cases hvv34
                                exact ⟨_, rfl, wk (by simp [weak_iff])⟩
                          · rw [if_neg (by rw [c251]; decide)] at h4
                            refine tr_exit ?_
                            exact ⟨_, he4 _ (Option.some.inj h4), wk (by simp [weak_iff])⟩
                      · refine kr [3, 4, 5, 8, 13, 14, 15, 16, 18, 19, 21, 28, 34, 88, 89, 101, 102, 109, 110, 177] (by simp; rfl) ?_
                        refine tr_cond (b := (decide (0 < ((y23.2.1).length : Int)))) (by simp) (fun c256 => ?_) (fun c256 => ?_)
                        · rw [if_pos c256] at h3
                          refine kc ?_
                          refine ko [3, 4, 5, 8, 13, 14, 15, 16, 18, 19, 21, 28, 34, 88, 89, 101, 102, 109, 110, 178, 179, 181] 4 (by simp; rfl) ?_
                          replace h3 := bnd h3; obtain ⟨y38, hy38, h3⟩ := h3
                          refine kcall [3, 4, 5, 8, 13, 14, 15, 16, 18, 19, 21, 28, 34, 88, 89, 101, 102, 109, 110, 178, 182] [75] (make_Tape_Next_ok hy38) rfl rfl rfl Try.call38 (by simp) (by simp; rfl) ?_
                          replace h3 := bnd h3; obtain ⟨_, p252, h3⟩ := h3
                          replace p252 := ck_some p252
                          have p252' := p252; try simp at p252'
                          have p252o : y38.1 < (((y23.2.1)).length : Int) := by omega
                          refine ko [3, 4, 5, 8, 13, 14, 15, 16, 18, 19, 21, 28, 34, 35, 88, 89, 101, 102, 109, 110] 2 (by simp [p252, p252o, p252']; rfl) ?_
                          refine tops_nil ?_
                          refine kc ?_
                          refine ko [3, 4, 5, 8, 13, 14, 15, 16, 18, 19, 21, 28, 34, 35, 88, 89, 101, 102, 109, 110, 184] 1 (by simp; rfl) ?_
                          replace h3 := bnd h3; obtain ⟨y39, hy39, h3⟩ := h3
                          refine kcall [3, 4, 5, 8, 13, 14, 15, 16, 18, 19, 21, 28, 34, 35, 88, 89, 101, 102, 109, 110, 185] [75] (make_Tape_Next_ok hy39) rfl rfl rfl Try.call38 (by simp) (by simp; rfl) ?_
                          refine tops_nil ?_
                          refine tr_block ?_
                          refine kr [3, 4, 5, 8, 13, 14, 15, 16, 18, 19, 21, 28, 34, 35, 88, 89, 101, 102, 109, 110, 185, 192] (by simp; rfl) ?_
                          refine tr_cond (b := (y39.1 == 0)) (by simp) (fun c257 => ?_) (fun c257 => ?_)
                          · rw [if_pos c257] at h3
                            refine kc1 ?_
                            refine ko [3, 4, 5, 8, 13, 14, 15, 16, 18, 19, 21, 28, 34, 88, 89, 101, 102, 109, 110, 194, 195] 2 (by simp; rfl) ?_
                            replace h3 := bnd h3; obtain ⟨y40, hy40, h3⟩ := h3
                            refine kcall [3, 4, 5, 8, 13, 14, 15, 16, 18, 19, 21, 28, 34, 88, 89, 101, 102, 109, 110, 194, 196] [75] (make_Tape_Between_ok hy40) rfl rfl rfl Try.call25 (by simp) (by simp; rfl) ?_
                            replace h3 := bnd h3; obtain ⟨x41, p253, h3⟩ := h3
                            replace p253 := idx_some p253
                            have p253' := p253; try simp at p253'
                            refine ko [3, 4, 5, 8, 13, 14, 15, 16, 18, 19, 21, 28, 34, 88, 89, 101, 102, 109, 110] 3 (by simp [-getElem?_pos, List.getElem?_cons_zero, List.getElem?_cons_succ, p253, (List.getElem?_eq_some_iff.1 p253.2).1, p253']; rfl) ?_
                            refine tops_nil ?_
                            exact ⟨_, h3, wk (by simp [weak_iff])⟩
                          · rw [if_neg (by rw [c257]; decide)] at h3
                            refine kr [3, 4, 5, 8, 13, 14, 15, 16, 18, 19, 21, 28, 34, 35, 88, 89, 101, 102, 109, 110, 199] (by simp; rfl) ?_
                            refine tr_cond (b := (y39.1 == 1)) (by simp) (fun c258 => ?_) (fun c258 => ?_)
                            · rw [if_pos c258] at h3
                              replace h3 := bnd h3; obtain ⟨x42, p254, h3⟩ := h3
                              replace p254 := idx_some p254
                              have p254' := p254; try simp at p254'
                              refine lr (by simp [-getElem?_pos, List.getElem?_cons_zero, List.getElem?_cons_succ, p254, (List.getElem?_eq_some_iff.1 p254.2).1, p254']; rfl) ?_
                              exact ⟨_, h3, wk (by simp [weak_iff])⟩
                            · rw [if_neg (by rw [c258]; decide)] at h3
                              refine kc1 ?_
                              refine ko [3, 4, 5, 8, 13, 14, 15, 16, 18, 19, 21, 28, 34, 88, 89, 101, 102, 109, 110, 186, 187, 188] 3 (by simp; rfl) ?_
                              replace h3 := bnd h3; obtain ⟨y43, hy43, h3⟩ := h3
                              refine kcall [3, 4, 5, 8, 13, 14, 15, 16, 18, 19, 21, 28, 34, 88, 89, 101, 102, 109, 110, 186, 189] [75] (make_Step_ok hy43) rfl rfl rfl Try.call44 (by simp) (by simp; rfl) ?_
                              replace h3 := bnd h3; obtain ⟨x44, p255, h3⟩ := h3
                              replace p255 := idx_some p255
                              have p255' := p255; try simp at p255'
                              refine ko [3, 4, 5, 8, 13, 14, 15, 16, 18, 19, 21, 28, 34, 88, 89, 101, 102, 109, 110] 3 (by simp [-getElem?_pos, List.getElem?_cons_zero, List.getElem?_cons_succ, p255, (List.getElem?_eq_some_iff.1 p255.2).1, p255']; rfl) ?_
                              refine tops_nil ?_
                              exact ⟨_, h3, wk (by simp [weak_iff])⟩
                        · rw [if_neg (by rw [c256]; decide)] at h3
                          refine tr_skip ?_
                          exact ⟨_, h3, wk (by simp [weak_iff])⟩
                  · refine kc1 ?_
                    refine ko [3, 4, 5, 8, 13, 14, 15, 16, 18, 19, 21, 24, 25, 27, 28, 30, 31, 32, 33, 88, 89, 101, 102, 109, 110, 150] 4 (by simp; rfl) ?_
                    refine tops_split 150 (y22.2.2 != y23.2.2) (by simp) (fun c259 => ?_) (fun c259 => ?_)
                    · rw [if_pos c259] at hvv26
                      refine kskip 4 [] (by kernel_rfl) ?_
                      refine ko [3, 4, 5, 8, 13, 14, 15, 16, 18, 19, 21, 25, 28, 30, 31, 32, 33, 88, 89, 101, 102, 109, 110, 156] 2 (by simp; rfl) ?_
                      refine kskip 4 [] (by kernel_rfl) ?_
                      refine ko [3, 4, 5, 8, 13, 14, 15, 16, 18, 19, 21, 28, 30, 31, 32, 33, 88, 89, 101, 102, 109, 110, 162] 2 (by simp; rfl) ?_
                      refine kskip 3 [] (by kernel_rfl) ?_
                      refine ko [3, 4, 5, 8, 13, 14, 15, 16, 18, 19, 21, 28, 30, 32, 88, 89, 101, 102, 109, 110, 167] 2 (by simp; rfl) ?_
                      refine kskip 4 [] (by kernel_rfl) ?_
                      refine ko [3, 4, 5, 8, 13, 14, 15, 16, 18, 19, 21, 28, 88, 89, 101, 102, 109, 110, 172] 1 (by simp; rfl) ?_
                      refine tops_nil ?_
                      cases hvv26
                      exact ⟨_, rfl, wk (by simp [weak_iff])⟩
                    · rw [if_neg (by rw [c259]; decide)] at hvv26
                      refine ko [3, 4, 5, 8, 13, 14, 15, 16, 18, 19, 21, 25, 28, 30, 31, 32, 33, 88, 89, 101, 102, 109, 110, 150, 151, 152] 2 (by simp; rfl) ?_
                      replace hvv26 := bnd hvv26; obtain ⟨y45, hy45, hvv26⟩ := hvv26
                      refine kcall [3, 4, 5, 8, 13, 14, 15, 16, 18, 19, 21, 25, 28, 30, 31, 32, 33, 88, 89, 101, 102, 109, 110, 150, 151, 152, 153] [] (ref32_Same_ok hy45) rfl rfl rfl Try.call30 (by simp) (by simp; rfl) ?_
                      refine ko [3, 4, 5, 8, 13, 14, 15, 16, 18, 19, 21, 25, 28, 30, 31, 32, 33, 88, 89, 101, 102, 109, 110, 151, 152, 153, 154, 156] 3 (by simp; rfl) ?_
                      refine tops_split 156 (!y45) (by simp) (fun c260 => ?_) (fun c260 => ?_)
                      · rw [if_pos c260] at hvv26
                        refine kskip 4 [] (by kernel_rfl) ?_
                        refine ko [3, 4, 5, 8, 13, 14, 15, 16, 18, 19, 21, 28, 30, 31, 32, 33, 88, 89, 101, 102, 109, 110, 151, 152, 153, 154, 162] 2 (by simp; rfl) ?_
                        refine kskip 3 [] (by kernel_rfl) ?_
                        refine ko [3, 4, 5, 8, 13, 14, 15, 16, 18, 19, 21, 28, 30, 32, 88, 89, 101, 102, 109, 110, 151, 152, 153, 154, 167] 2 (by simp; rfl) ?_
                        refine kskip 4 [] (by kernel_rfl) ?_
                        refine ko [3, 4, 5, 8, 13, 14, 15, 16, 18, 19, 21, 28, 88, 89, 101, 102, 109, 110, 151, 152, 153, 154, 172] 1 (by simp; rfl) ?_
                        refine tops_nil ?_
                        cases hvv26
                        exact ⟨_, rfl, wk (by simp [weak_iff])⟩
                      · rw [if_neg (by rw [c260]; decide)] at hvv26
                        refine ko [3, 4, 5, 8, 13, 14, 15, 16, 18, 19, 21, 28, 30, 31, 32, 33, 88, 89, 101, 102, 109, 110, 151, 152, 153, 154, 156, 157, 158] 2 (by simp; rfl) ?_
                        replace hvv26 := bnd hvv26; obtain ⟨y46, hy46, hvv26⟩ := hvv26
                        refine kcall [3, 4, 5, 8, 13, 14, 15, 16, 18, 19, 21, 28, 30, 31, 32, 33, 88, 89, 101, 102, 109, 110, 151, 152, 153, 154, 156, 157, 158, 159] [] (ref37_Same_ok hy46) rfl rfl rfl Try.call69 (by simp) (by simp; rfl) ?_
                        refine ko [3, 4, 5, 8, 13, 14, 15, 16, 18, 19, 21, 28, 30, 31, 32, 33, 88, 89, 101, 102, 109, 110, 151, 152, 153, 154, 157, 158, 159, 160, 162] 3 (by simp; rfl) ?_
                        refine tops_split 162 (!y46) (by simp) (fun c261 => ?_) (fun c261 => ?_)
                        · rw [if_pos c261] at hvv26
                          refine kskip 3 [] (by kernel_rfl) ?_
                          refine ko [3, 4, 5, 8, 13, 14, 15, 16, 18, 19, 21, 28, 30, 32, 88, 89, 101, 102, 109, 110, 151, 152, 153, 154, 157, 158, 159, 160, 167] 2 (by simp; rfl) ?_
                          refine kskip 4 [] (by kernel_rfl) ?_
                          refine ko [3, 4, 5, 8, 13, 14, 15, 16, 18, 19, 21, 28, 88, 89, 101, 102, 109, 110, 151, 152, 153, 154, 157, 158, 159, 160, 172] 1 (by simp; rfl) ?_
                          refine tops_nil ?_
                          cases hvv26
                          exact ⟨_, rfl, wk (by simp [weak_iff])⟩
                        · rw [if_neg (by rw [c261]; decide)] at hvv26
                          refine ko [3, 4, 5, 8, 13, 14, 15, 16, 18, 19, 21, 28, 30, 32, 88, 89, 101, 102, 109, 110, 151, 152, 153, 154, 157, 158, 159, 160, 163, 164, 165, 167] 5 (by simp; rfl) ?_
                          refine tops_split 167 (y24.2 != y25.2) (by simp) (fun c262 => ?_) (fun c262 => ?_)
                          · rw [if_pos c262] at hvv26
                            refine kskip 4 [] (by kernel_rfl) ?_
                            refine ko [3, 4, 5, 8, 13, 14, 15, 16, 18, 19, 21, 28, 88, 89, 101, 102, 109, 110, 151, 152, 153, 154, 157, 158, 159, 160, 163, 164, 165, 172] 1 (by simp; rfl) ?_
                            refine tops_nil ?_
                            cases hvv26
                            exact ⟨_, rfl, wk (by simp [weak_iff])⟩
                          · rw [if_neg (by rw [c262]; decide)] at hvv26
                            refine ko [3, 4, 5, 8, 13, 14, 15, 16, 18, 19, 21, 28, 88, 89, 101, 102, 109, 110, 151, 152, 153, 154, 157, 158, 159, 160, 163, 164, 165, 167, 168, 169] 2 (by simp; rfl) ?_
                            replace hvv26 := bnd hvv26; obtain ⟨y47, hy47, hvv26⟩ := hvv26
                            refine kcall [3, 4, 5, 8, 13, 14, 15, 16, 18, 19, 21, 28, 88, 89, 101, 102, 109, 110, 151, 152, 153, 154, 157, 158, 159, 160, 163, 164, 165, 167, 168, 169, 170] [] (ref32_All_ok hy47) rfl rfl rfl Try.call51 (by simp) (by simp; rfl) ?_
                            refine ko [3, 4, 5, 8, 13, 14, 15, 16, 18, 19, 21, 28, 88, 89, 101, 102, 109, 110, 151, 152, 153, 154, 157, 158, 159, 160, 163, 164, 165, 168, 169, 170, 171, 172] 2 (by simp; rfl) ?_
                            refine tops_nil ?_
                            cases hvv26
                            exact ⟨_, rfl, wk (by simp [weak_iff])⟩
                · rw [if_neg (by rw [c232]; decide)] at h3
                  refine tr_exit ?_
                  exact ⟨_, he3 _ (Option.some.inj h3), wk (by simp [weak_iff])⟩
            · rw [if_neg (by rw [c201]; decide)] at h2
              refine tr_exit ?_
              exact ⟨_, he2 _ (Option.some.inj h2), wk (by simp [weak_iff])⟩
        · rw [if_neg (by rw [c138]; decide)] at h1
          refine tr_exit ?_
          exact ⟨_, he1 _ (Option.some.inj h1), wk (by simp [weak_iff])⟩
  · refine kc1 ?_
    refine ko [0, 3, 4, 5, 7, 8, 45] 4 (by simp; rfl) ?_
    refine tops_split 45 (decide (300 < ((a0).length : Int))) (by simp) (fun c263 => ?_) (fun c263 => ?_)
    · rw [c263] at hvv1
      refine kskip 4 [] (by kernel_rfl) ?_
      refine ko [0, 3, 4, 5, 7, 8, 51] 2 (by simp; rfl) ?_
      refine kskip 4 [] (by kernel_rfl) ?_
      refine ko [0, 3, 4, 5, 7, 8, 57] 2 (by simp; rfl) ?_
      refine kskip 3 [] (by kernel_rfl) ?_
      refine ko [0, 3, 4, 5, 7, 8, 62] 2 (by simp; rfl) ?_
      refine kskip 3 [] (by kernel_rfl) ?_
      refine ko [0, 3, 4, 5, 7, 8, 67] 2 (by simp; rfl) ?_
      refine kskip 3 [] (by kernel_rfl) ?_
      refine ko [0, 3, 4, 5, 7, 8, 71] 1 (by simp; rfl) ?_
      refine tops_nil ?_
      cases hvv1
      exact ⟨_, rfl, wk (by simp [weak_iff])⟩
    · rw [c263] at hvv1
      refine ko [0, 3, 4, 5, 7, 8, 51] 6 (by simp; rfl) ?_
      refine tops_split 51 (decide (10 < ((a1.Consumers).length : Int))) (by simp) (fun c264 => ?_) (fun c264 => ?_)
      · rw [c264] at hvv1
        refine kskip 4 [] (by kernel_rfl) ?_
        refine ko [0, 3, 4, 5, 7, 8, 57] 2 (by simp; rfl) ?_
        refine kskip 3 [] (by kernel_rfl) ?_
        refine ko [0, 3, 4, 5, 7, 8, 62] 2 (by simp; rfl) ?_
        refine kskip 3 [] (by kernel_rfl) ?_
        refine ko [0, 3, 4, 5, 7, 8, 67] 2 (by simp; rfl) ?_
        refine kskip 3 [] (by kernel_rfl) ?_
        refine ko [0, 3, 4, 5, 7, 8, 71] 1 (by simp; rfl) ?_
        refine tops_nil ?_
        cases hvv1
        exact ⟨_, rfl, wk (by simp [weak_iff])⟩
      · rw [c264] at hvv1
        refine ko [0, 3, 4, 5, 7, 8, 57] 6 (by simp; rfl) ?_
        refine tops_split 57 (decide (10 < ((a2.Units).length : Int))) (by simp) (fun c265 => ?_) (fun c265 => ?_)
        · rw [c265] at hvv1
          refine kskip 3 [] (by kernel_rfl) ?_
          refine ko [0, 3, 4, 5, 7, 8, 62] 2 (by simp; rfl) ?_
          refine kskip 3 [] (by kernel_rfl) ?_
          refine ko [0, 3, 4, 5, 7, 8, 67] 2 (by simp; rfl) ?_
          refine kskip 3 [] (by kernel_rfl) ?_
          refine ko [0, 3, 4, 5, 7, 8, 71] 1 (by simp; rfl) ?_
          refine tops_nil ?_
          cases hvv1
          exact ⟨_, rfl, wk (by simp [weak_iff])⟩
        · rw [c265] at hvv1
          refine ko [0, 3, 4, 5, 7, 8, 62] 5 (by simp; rfl) ?_
          refine tops_split 62 (decide (20 < ((a3).length : Int))) (by simp) (fun c266 => ?_) (fun c266 => ?_)
          · rw [c266] at hvv1
            refine kskip 3 [] (by kernel_rfl) ?_
            refine ko [0, 3, 4, 5, 7, 8, 67] 2 (by simp; rfl) ?_
            refine kskip 3 [] (by kernel_rfl) ?_
            refine ko [0, 3, 4, 5, 7, 8, 71] 1 (by simp; rfl) ?_
            refine tops_nil ?_
            cases hvv1
            exact ⟨_, rfl, wk (by simp [weak_iff])⟩
          · rw [c266] at hvv1
            refine ko [0, 3, 4, 5, 7, 8, 67] 5 (by simp; rfl) ?_
            refine tops_split 67 (decide (60 < ((a4).length : Int))) (by simp) (fun c267 => ?_) (fun c267 => ?_)
            · rw [c267] at hvv1
              refine kskip 3 [] (by kernel_rfl) ?_
              refine ko [0, 3, 4, 5, 7, 8, 71] 1 (by simp; rfl) ?_
              refine tops_nil ?_
              cases hvv1
              exact ⟨_, rfl, wk (by simp [weak_iff])⟩
            · rw [c267] at hvv1
              refine ko [0, 3, 4, 5, 7, 8, 71] 4 (by simp; rfl) ?_
              refine tops_nil ?_
              cases hvv1
              exact ⟨_, rfl, wk (by simp [weak_iff])⟩
end Go.Vl
