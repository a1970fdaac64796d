/- Walks: each function of the given program computes what its mirror says. Conditions: none. -/
import Derived.Test.YtjfpmakolbgnhaaUw2
set_option linter.unusedSimpArgs false
set_option linter.unusedVariables false
namespace Go.Vl
open Go Go.Proofs
set_option maxHeartbeats 1000000 in
theorem ref34_check_ok {a0 : api_Fleet} {a1 : api_Rotation} {r : Int} (h0 : ref34_check a0 a1 = some r) : FnOK Try.prog 41 [] [.agg (api_Fleet_av a0), .agg (api_Rotation_av a1)] (.d (.int .i64 r)) [] := by
  unfold ref34_check at h0
  refine fn_ok (nt := 13) (rs := [.tmp 4]) Try.func41 rfl Try.ntmps41 rfl (by simp) (by decide) rfl fun K => ?_
  refine kr [2, 3] (by simp; rfl) ?_
  refine tr_seq ?_
  refine kc ?_
  refine ko [2, 5, 6] 2 (by simp; rfl) ?_
  replace h0 := bnd h0; obtain ⟨y1, hy1, h0⟩ := h0
  refine kcall [2, 7] [] (ref32_Right_ok hy1) rfl rfl rfl Try.call33 (by simp) (by simp; rfl) ?_
  refine ko [2, 8] 1 (by simp; rfl) ?_
  refine tops_nil ?_
  refine tr_cond (b := (!y1)) (by simp) (fun c1 => ?_) (fun c1 => ?_)
  · rw [if_pos c1] at h0
    refine kr [4] (by simp; rfl) ?_
    cases h0
    exact tr_ret ⟨[], by simp, rfl, by simp⟩
  · rw [if_neg (by rw [c1]; decide)] at h0
    refine tr_skip ?_
    refine tr_seq ?_
    refine kr [12] (by simp; rfl) ?_
    refine tr_cond (b := (decide (3 < ((a0.Consumers).length : Int)))) (by simp) (fun c2 => ?_) (fun c2 => ?_)
    · rw [if_pos c2] at h0
      refine kr [4] (by simp; rfl) ?_
      cases h0
      exact tr_ret ⟨[], by simp, rfl, by simp⟩
    · rw [if_neg (by rw [c2]; decide)] at h0
      refine tr_skip ?_
      refine kr [4] (by simp; rfl) ?_
      cases h0
      exact tr_ret ⟨[], by simp, rfl, by simp⟩
set_option maxHeartbeats 1000000 in
theorem ref34_number_ok {a0 : api_Rotation} {r : Int} (h0 : ref34_number a0 = some r) : FnOK Try.prog 59 [] [.agg (api_Rotation_av a0)] (.d (.int .i64 r)) [] := by
  unfold ref34_number at h0
  refine fn_ok (nt := 30) (rs := [.tmp 2]) Try.func59 rfl Try.ntmps59 rfl (by simp) (by decide) rfl fun K => ?_
  refine kr [1] (by simp; rfl) ?_
  refine kr [1, 3] (by simp; rfl) ?_
  refine tr_seq ?_
  refine kr [3, 13, 14, 15] (by simp; rfl) ?_
  replace h0 := bnd h0; obtain ⟨e1, hI1, h0⟩ := h0
  refine tjv (fun v1 : Int => ({ nt := 30, env := [(3, .d (.int .i64 v1))], box := [], vec := [] } : St)) (fun v1 => v1 = e1) (fun v1 hI1e _ W1 => ?_) ?_
  · subst hI1e
    refine tr_wk W1 ?_
    refine kr [2] (by simp; rfl) ?_
    cases h0
    exact tr_ret ⟨[], by simp, rfl, by simp⟩
  · refine tr_block (tr_iter (fun s2 : Int × Int => ({ nt := 30, env := [(3, .d (.int .i64 s2.1)), (13, .d (.slice (rowsF api_Unit_row a0.Units))), (14, .d (.int .i64 ((a0.Units).length : Int))), (15, .d (.int .i64 s2.2))], box := [], vec := [] } : St)) hI1 (wk (by simp [weak_iff])) fun G1 s2 o1 h1 hg1 he1 => ?_)
    unfold ref34_number_l0 at h1
    refine kr [3, 13, 14, 15, 16] (by simp; rfl) ?_
    refine tr_seq ?_
    refine tr_cond (b := (decide (s2.2 < ((a0.Units).length : Int)))) (by simp) (fun c3 => ?_) (fun c3 => ?_)
    · rw [if_pos c3] at h1
      refine tr_skip ?_
      refine tr_seq ?_
      refine tr_block ?_
      replace h1 := bnd h1; obtain ⟨x3, p3, h1⟩ := h1
      replace p3 := idx_some p3
      have p3' := p3; try simp at p3'
      refine kr [3, 5, 13, 14, 15] (by simp [p3, p3']; rfl) ?_
      refine lr (by simp; rfl) ?_
      refine lr (by simp; rfl) ?_
      exact ⟨_, hg1 _ (Option.some.inj h1), wk (by simp [weak_iff])⟩
    · rw [if_neg (by rw [c3]; decide)] at h1
      refine tr_exit ?_
      exact ⟨_, he1 _ (Option.some.inj h1), wk (by simp [weak_iff])⟩
set_option maxHeartbeats 1000000 in
theorem ref34_search_ok {a0 : api_Fleet} {a1 : api_Rotation} {r : Int × Int} (h0 : ref34_search a0 a1 = some r) : FnOK Try.prog 42 [] [.agg (api_Fleet_av a0), .agg (api_Rotation_av a1)] (.tup [.d (.int .i64 r.1), .d (.int .i64 r.2)]) [] := by
  unfold ref34_search at h0
  refine fn_ok (nt := 77) (rs := [.tmp 4, .tmp 5]) Try.func42 rfl Try.ntmps42 rfl (by simp) (by decide) rfl fun K => ?_
  refine kr [2, 3] (by simp; rfl) ?_
  refine kc ?_
  refine ko [2, 3, 18, 19] 2 (by simp; rfl) ?_
  replace h0 := bnd h0; obtain ⟨y1, hy1, h0⟩ := h0
  refine kcall [2, 3, 18, 20] [] (ref34_number_ok hy1) rfl rfl rfl Try.call59 (by simp) (by simp; rfl) ?_
  refine ko [2, 3, 6] 3 (by simp; rfl) ?_
  refine tops_nil ?_
  refine kr [2, 6, 7] (by simp; rfl) ?_
  refine kr [2, 6, 7, 8, 9] (by simp; rfl) ?_
  refine tr_seq ?_
  refine kr [2, 6, 7, 8, 9, 10] (by simp; rfl) ?_
  replace h0 := bnd h0; obtain ⟨l2, hl2, h0⟩ := h0
  replace hl2 := Option.some.inj hl2
  replace h0 := bnd h0; obtain ⟨e1, hI1, h0⟩ := h0
  refine tjv (fun v3 : Int × Int => ({ nt := 77, env := [(8, .d (.int .i64 v3.1)), (9, .d (.int .i64 v3.2))], box := [], vec := [] } : St)) (fun v3 => v3 = e1) (fun v3 hI1e _ W1 => ?_) ?_
  · subst hI1e
    refine tr_wk W1 ?_
    refine kr [4, 5] (by simp; rfl) ?_
    cases h0
    exact tr_ret ⟨[], by simp, rfl, by simp⟩
  · refine tr_block (tr_iter (fun s4 : Int × Int × Int × (List (Int × Bool)) × (List api_Rotation) => ({ nt := 77, env := [(2, .ptr 2 0), (6, .vec 18), (7, .vec 23), (8, .d (.int .i64 s4.1)), (9, .d (.int .i64 s4.2.1)), (10, .d (.int .i64 s4.2.2.1))], box := [(2, [.d (.int .i64 a0.Slots), .d (.slice (rowsF api_Consumer_row a0.Consumers))])], vec := [(18, ⟨mTag 102 1 false false, 2, rowsF (mRow (iRow .i64) bRow) s4.2.2.2.1⟩), (23, ⟨33, 3, rowsF api_Rotation_row s4.2.2.2.2⟩)] } : St)) hI1 (wk (by subst hl2; simp [weak_iff])) fun G1 s4 o1 h1 hg1 he1 => ?_)
    unfold ref34_search_l0 at h1
    refine tr_seq ?_
    refine kr [2, 6, 7, 8, 9, 10, 26] (by simp; rfl) ?_
    refine tr_cond (b := (decide (0 < ((s4.2.2.2.2).length : Int)))) (by simp) (fun c49 => ?_) (fun c49 => ?_)
    · rw [if_pos c49] at h1
      refine tr_skip ?_
      refine tr_seq ?_
      refine tr_block ?_
      refine kr [2, 6, 7, 8, 9, 10, 11] (by simp; rfl) ?_
      refine tr_seq ?_
      refine kr [2, 6, 8, 9, 10, 11, 29, 30, 31] (by simp; rfl) ?_
      refine tr_wk (wk_own 11 71 33 3 (by simp) (by simp)) ?_
      replace h1 := bnd h1; obtain ⟨e2, hI2, h1⟩ := h1
      refine tjv (fun v5 : Int × Int × (List (Int × Bool)) × (List api_Rotation) => ({ nt := 77, env := [(2, .ptr 2 0), (6, .vec 18), (8, .d (.int .i64 v5.1)), (9, .d (.int .i64 v5.2.1)), (10, .d (.int .i64 s4.2.2.1)), (11, .vec 71)], box := [(2, [.d (.int .i64 a0.Slots), .d (.slice (rowsF api_Consumer_row a0.Consumers))])], vec := [(18, ⟨mTag 102 1 false false, 2, rowsF (mRow (iRow .i64) bRow) v5.2.2.1⟩), (71, ⟨33, 3, rowsF api_Rotation_row v5.2.2.2⟩)] } : St)) (fun v5 => v5 = e2) (fun v5 hI2e _ W2 => ?_) ?_
      · subst hI2e
        refine tr_wk W2 ?_
        refine lr (by simp; rfl) ?_
        refine lr (by simp; rfl) ?_
        exact ⟨_, hg1 _ (Option.some.inj h1), (wk_ren 71 23).trans (wk (by simp [weak_iff]))⟩
      · refine tr_block (tr_iter (fun s6 : Int × Int × Int × (List (Int × Bool)) × (List api_Rotation) => ({ nt := 77, env := [(2, .ptr 2 0), (6, .vec 18), (8, .d (.int .i64 s6.1)), (9, .d (.int .i64 s6.2.1)), (10, .d (.int .i64 s4.2.2.1)), (11, .vec 71), (29, .vec 23), (30, .d (.int .i64 ((s4.2.2.2.2).length : Int))), (31, .d (.int .i64 s6.2.2.1))], box := [(2, [.d (.int .i64 a0.Slots), .d (.slice (rowsF api_Consumer_row a0.Consumers))])], vec := [(18, ⟨mTag 102 1 false false, 2, rowsF (mRow (iRow .i64) bRow) s6.2.2.2.1⟩), (23, ⟨33, 3, rowsF api_Rotation_row s4.2.2.2.2⟩), (71, ⟨33, 3, rowsF api_Rotation_row s6.2.2.2.2⟩)] } : St)) hI2 (wk (by simp [weak_iff])) fun G2 s6 o2 h2 hg2 he2 => ?_)
        unfold ref34_search_l1 at h2
        refine kr [2, 6, 8, 9, 10, 11, 29, 30, 31, 32] (by simp; rfl) ?_
        refine tr_seq ?_
        refine tr_cond (b := (decide (s6.2.2.1 < ((s4.2.2.2.2).length : Int)))) (by simp) (fun c73 => ?_) (fun c73 => ?_)
        · rw [if_pos c73] at h2
          refine tr_skip ?_
          refine tr_seq ?_
          refine tr_block ?_
          replace h2 := bnd h2; obtain ⟨_, p58, h2⟩ := h2
          replace p58 := ck_some p58
          have p58' := p58; try simp at p58'
          have p58o : s6.2.2.1 < (((s4.2.2.2.2)).length : Int) := by omega
          replace h2 := bnd h2; obtain ⟨x7, p59, h2⟩ := h2
          replace p59 := idx_some p59
          have p59' := p59; try simp at p59'
          refine kr [2, 6, 8, 9, 10, 11, 13, 29, 30, 31] (by simp [-getElem?_pos, List.getElem?_cons_zero, List.getElem?_cons_succ, p58, p58o, p59, p58', p59']; rfl) ?_
          refine kr [2, 6, 8, 9, 10, 11, 13, 29, 30, 31] (by simp; rfl) ?_
          refine sjv (fun v8 : Int => ({ nt := 77, env := [(2, .ptr 2 0), (6, .vec 18), (8, .d (.int .i64 (IntKind.i64.wrap (s6.1 + 1)))), (9, .d (.int .i64 v8)), (10, .d (.int .i64 s4.2.2.1)), (11, .vec 71), (13, .ptr 13 0), (29, .vec 23), (30, .d (.int .i64 ((s4.2.2.2.2).length : Int))), (31, .d (.int .i64 s6.2.2.1))], box := [(2, [.d (.int .i64 a0.Slots), .d (.slice (rowsF api_Consumer_row a0.Consumers))]), (13, [.d (.int .i64 x7.Known), .d (.int .i64 x7.Valid), .d (.slice (rowsF api_Unit_row x7.Units))])], vec := [(18, ⟨mTag 102 1 false false, 2, rowsF (mRow (iRow .i64) bRow) s6.2.2.2.1⟩), (23, ⟨33, 3, rowsF api_Rotation_row s4.2.2.2.2⟩), (71, ⟨33, 3, rowsF api_Rotation_row s6.2.2.2.2⟩)] } : St)) (fun v8 => ref34_search_j2 a0 x7 s6 v8 = some o2) (fun v8 h2 => ?_) ?_
          · unfold ref34_search_j2 at h2
            refine kc ?_
            refine ko [2, 6, 8, 9, 10, 11, 13, 29, 30, 31, 45, 46] 2 (by simp; rfl) ?_
            replace h2 := bnd h2; obtain ⟨y9, hy9, h2⟩ := h2
            refine kcall [2, 6, 8, 9, 10, 11, 13, 29, 30, 31, 47] [] (ref33_Choices_ok hy9) rfl rfl rfl Try.call12 (by simp) (by simp; rfl) ?_
            refine ko [2, 6, 8, 9, 10, 11, 13, 29, 30, 31, 47, 48, 49] 2 (by simp; rfl) ?_
            refine tops_nil ?_
            replace h2 := bnd h2; obtain ⟨e3, hI3, h2⟩ := h2
            refine tjv (fun v10 : (List (Int × Bool)) × (List api_Rotation) => ({ nt := 77, env := [(2, .ptr 2 0), (6, .vec 18), (8, .d (.int .i64 (IntKind.i64.wrap (s6.1 + 1)))), (9, .d (.int .i64 v8)), (10, .d (.int .i64 s4.2.2.1)), (11, .vec 71), (29, .vec 23), (30, .d (.int .i64 ((s4.2.2.2.2).length : Int))), (31, .d (.int .i64 s6.2.2.1))], box := [(2, [.d (.int .i64 a0.Slots), .d (.slice (rowsF api_Consumer_row a0.Consumers))])], vec := [(18, ⟨mTag 102 1 false false, 2, rowsF (mRow (iRow .i64) bRow) v10.1⟩), (23, ⟨33, 3, rowsF api_Rotation_row s4.2.2.2.2⟩), (71, ⟨33, 3, rowsF api_Rotation_row v10.2⟩)] } : St)) (fun v10 => v10 = e3) (fun v10 hI3e _ W3 => ?_) ?_
            · subst hI3e
              refine tr_wk W3 ?_
              refine lr (by simp; rfl) ?_
              exact ⟨_, hg2 _ (Option.some.inj h2), wk (by simp [weak_iff])⟩
            · refine tr_block (tr_iter (fun s11 : Int × (List (Int × Bool)) × (List api_Rotation) => ({ nt := 77, env := [(2, .ptr 2 0), (6, .vec 18), (8, .d (.int .i64 (IntKind.i64.wrap (s6.1 + 1)))), (9, .d (.int .i64 v8)), (10, .d (.int .i64 s4.2.2.1)), (11, .vec 71), (13, .ptr 13 0), (29, .vec 23), (30, .d (.int .i64 ((s4.2.2.2.2).length : Int))), (31, .d (.int .i64 s6.2.2.1)), (47, .d (.slice (rowsF api_Step_row y9))), (48, .d (.int .i64 ((y9).length : Int))), (49, .d (.int .i64 s11.1))], box := [(2, [.d (.int .i64 a0.Slots), .d (.slice (rowsF api_Consumer_row a0.Consumers))]), (13, [.d (.int .i64 x7.Known), .d (.int .i64 x7.Valid), .d (.slice (rowsF api_Unit_row x7.Units))])], vec := [(18, ⟨mTag 102 1 false false, 2, rowsF (mRow (iRow .i64) bRow) s11.2.1⟩), (23, ⟨33, 3, rowsF api_Rotation_row s4.2.2.2.2⟩), (71, ⟨33, 3, rowsF api_Rotation_row s11.2.2⟩)] } : St)) hI3 (wk (by simp [weak_iff])) fun G3 s11 o3 h3 hg3 he3 => ?_)
              unfold ref34_search_l3 at h3
              refine kr [2, 6, 8, 9, 10, 11, 13, 29, 30, 31, 47, 48, 49, 50] (by simp; rfl) ?_
              refine tr_seq ?_
              refine tr_cond (b := (decide (s11.1 < ((y9).length : Int)))) (by simp) (fun c80 => ?_) (fun c80 => ?_)
              · rw [if_pos c80] at h3
                refine tr_skip ?_
                refine tr_seq ?_
                refine tr_block ?_
                replace h3 := bnd h3; obtain ⟨x12, p64, h3⟩ := h3
                replace p64 := idx_some p64
                have p64' := p64; try simp at p64'
                refine kr [2, 6, 8, 9, 10, 11, 13, 15, 29, 30, 31, 47, 48, 49] (by simp [p64, p64']; rfl) ?_
                refine kc ?_
                refine ko [2, 6, 8, 9, 10, 11, 13, 29, 30, 31, 47, 48, 49, 54, 55, 56] 3 (by simp; rfl) ?_
                replace h3 := bnd h3; obtain ⟨y13, hy13, h3⟩ := h3
                refine kcall [2, 6, 8, 9, 10, 11, 13, 29, 30, 31, 47, 48, 49, 57] [] (ref33_Apply_ok hy13) rfl rfl rfl Try.call13 (by simp) (by simp; rfl) ?_
                refine ko [2, 6, 8, 9, 10, 11, 13, 16, 29, 30, 31, 47, 48, 49] 6 (by simp; rfl) ?_
                refine tops_nil ?_
                refine kc ?_
                refine ko [2, 6, 8, 9, 10, 11, 13, 16, 29, 30, 31, 47, 48, 49, 60, 61] 2 (by simp; rfl) ?_
                replace h3 := bnd h3; obtain ⟨y14, hy14, h3⟩ := h3
                refine kcall [2, 6, 8, 9, 10, 11, 13, 16, 29, 30, 31, 47, 48, 49, 60, 62] [] (ref34_number_ok hy14) rfl rfl rfl Try.call59 (by simp) (by simp; rfl) ?_
                refine ko [2, 6, 8, 9, 10, 11, 13, 16, 29, 30, 31, 47, 48, 49, 64] 2 (by simp; rfl) ?_
                refine tops_nil ?_
                refine tr_cond (b := (!((mget inE s11.2.1 y14).getD false))) (by simp) (fun c81 => ?_) (fun c81 => ?_)
                · rw [if_pos c81] at h3
                  refine kc ?_
                  refine ko [2, 6, 8, 9, 10, 11, 13, 16, 29, 30, 31, 47, 48, 49, 65, 66] 2 (by simp; rfl) ?_
                  replace h3 := bnd h3; obtain ⟨y15, hy15, h3⟩ := h3
                  refine kcall [2, 6, 8, 9, 10, 11, 13, 16, 29, 30, 31, 47, 48, 49, 65, 67] [] (ref34_number_ok hy15) rfl rfl rfl Try.call59 (by simp) (by simp; rfl) ?_
                  refine ko [2, 6, 8, 9, 10, 11, 13, 16, 29, 30, 31, 47, 48, 49] 1 (by simp; rfl) ?_
                  refine tops_nil ?_
                  replace h3 := bnd h3; obtain ⟨_, p65, h3⟩ := h3
                  replace p65 := ck_some p65
                  have p65' := p65; try simp at p65'
                  refine lr (by simp [p65, p65']; rfl) ?_
                  refine lr (by simp; rfl) ?_
                  exact ⟨_, hg3 _ (Option.some.inj h3), wk (by simp [weak_iff])⟩
                · rw [if_neg (by rw [c81]; decide)] at h3
                  refine tr_skip ?_
                  refine lr (by simp; rfl) ?_
                  exact ⟨_, hg3 _ (Option.some.inj h3), wk (by simp [weak_iff])⟩
              · rw [if_neg (by rw [c80]; decide)] at h3
                refine tr_exit ?_
                exact ⟨_, he3 _ (Option.some.inj h3), wk (by simp [weak_iff])⟩
          · replace h2 := bnd h2; obtain ⟨v16, hvv16, h2⟩ := h2
            refine sjv (fun v16_ : Bool => ({ nt := 77, env := [(2, .ptr 2 0), (6, .vec 18), (8, .d (.int .i64 (IntKind.i64.wrap (s6.1 + 1)))), (9, .d (.int .i64 s6.2.1)), (10, .d (.int .i64 s4.2.2.1)), (11, .vec 71), (13, .ptr 13 0), (29, .vec 23), (30, .d (.int .i64 ((s4.2.2.2.2).length : Int))), (31, .d (.int .i64 s6.2.2.1)), (43, .d (.bool v16_))], box := [(2, [.d (.int .i64 a0.Slots), .d (.slice (rowsF api_Consumer_row a0.Consumers))]), (13, [.d (.int .i64 x7.Known), .d (.int .i64 x7.Valid), .d (.slice (rowsF api_Unit_row x7.Units))])], vec := [(18, ⟨mTag 102 1 false false, 2, rowsF (mRow (iRow .i64) bRow) s6.2.2.2.1⟩), (23, ⟨33, 3, rowsF api_Rotation_row s4.2.2.2.2⟩), (71, ⟨33, 3, rowsF api_Rotation_row s6.2.2.2.2⟩)] } : St)) (fun v16_ => v16 = v16_) (fun v16_ e => ?_) ?_
            · subst e
              refine tr_cond (b := v16) (by simp) (fun c84 => ?_) (fun c84 => ?_)
              · rw [if_pos c84] at h2
                refine lr (by simp; rfl) ?_
                exact ⟨_, h2, wk (by simp [weak_iff])⟩
              · rw [if_neg (by rw [c84]; decide)] at h2
                refine tr_skip ?_
                exact ⟨_, h2, wk (by simp [weak_iff])⟩
            · refine kc1 ?_
              refine ko [2, 6, 8, 9, 10, 11, 13, 29, 30, 31, 39] 3 (by simp; rfl) ?_
              refine tops_split 39 (decide (s6.2.1 < 0)) (by simp) (fun c85 => ?_) (fun c85 => ?_)
              · rw [if_pos c85] at hvv16
                refine ko [2, 6, 8, 9, 10, 11, 13, 29, 30, 31, 39, 40, 41] 2 (by simp; rfl) ?_
                replace hvv16 := bnd hvv16; obtain ⟨y17, hy17, hvv16⟩ := hvv16
                refine kcall [2, 6, 8, 9, 10, 11, 13, 29, 30, 31, 39, 40, 41, 42] [] (ref32_Ended_ok hy17) rfl rfl rfl Try.call19 (by simp) (by simp; rfl) ?_
                refine ko [2, 6, 8, 9, 10, 11, 13, 29, 30, 31, 40, 41, 42, 43] 1 (by simp; rfl) ?_
                refine tops_nil ?_
                cases hvv16
                exact ⟨_, rfl, wk (by simp [weak_iff])⟩
              · rw [if_neg (by rw [c85]; decide)] at hvv16
                refine kskip 3 [] (by kernel_rfl) ?_
                refine ko [2, 6, 8, 9, 10, 11, 13, 29, 30, 31, 43] 1 (by simp; rfl) ?_
                refine tops_nil ?_
                cases hvv16
                exact ⟨_, rfl, wk (by simp [weak_iff])⟩
        · rw [if_neg (by rw [c73]; decide)] at h2
          refine tr_exit ?_
          exact ⟨_, he2 _ (Option.some.inj h2), wk (by simp [weak_iff])⟩
    · rw [if_neg (by rw [c49]; decide)] at h1
      refine tr_exit ?_
      exact ⟨_, he1 _ (Option.some.inj h1), wk (by simp [weak_iff])⟩
set_option maxHeartbeats 1000000 in
theorem ref34_Count_ok {a0 : api_Fleet} {a1 : api_Rotation} {r : Int × Int} (h0 : ref34_Count a0 a1 = some r) : FnOK Try.prog 23 [] [.agg (api_Fleet_av a0), .agg (api_Rotation_av a1)] (.tup [.d (.int .i64 r.1), .d (.int .i64 r.2)]) [] := by
  unfold ref34_Count at h0
  refine fn_ok (nt := 22) (rs := [.tmp 4, .tmp 5]) Try.func23 rfl Try.ntmps23 rfl (by simp) (by decide) rfl fun K => ?_
  refine kr [2, 3] (by simp; rfl) ?_
  refine tr_seq ?_
  refine kc ?_
  refine ko [2, 3, 9, 10] 2 (by simp; rfl) ?_
  replace h0 := bnd h0; obtain ⟨y1, hy1, h0⟩ := h0
  refine kcall [2, 3, 11] [] (ref34_check_ok hy1) rfl rfl rfl Try.call41 (by simp) (by simp; rfl) ?_
  refine ko [2, 3, 6] 1 (by simp; rfl) ?_
  refine tops_nil ?_
  refine kr [2, 3, 6, 13] (by simp; rfl) ?_
  refine tr_cond (b := (y1 != 0)) (by simp) (fun c1 => ?_) (fun c1 => ?_)
  · rw [if_pos c1] at h0
    refine kr [4, 5] (by simp; rfl) ?_
    cases h0
    exact tr_ret ⟨[], by simp, rfl, by simp⟩
  · rw [if_neg (by rw [c1]; decide)] at h0
    refine tr_skip ?_
    refine kc ?_
    refine ko [16, 17] 2 (by simp; rfl) ?_
    replace h0 := bnd h0; obtain ⟨y2, hy2, h0⟩ := h0
    refine kcall [18] [] (ref34_search_ok hy2) rfl rfl rfl Try.call42 (by simp) (by simp; rfl) ?_
    refine ko [7] 5 (by simp; rfl) ?_
    refine tops_nil ?_
    refine kr [4, 5] (by simp; rfl) ?_
    cases h0
    exact tr_ret ⟨[], by simp, rfl, by simp⟩
set_option maxHeartbeats 1000000 in
theorem ref34_Distance_ok {a0 : api_Fleet} {a1 : api_Rotation} {r : Int × Bool × Int} (h0 : ref34_Distance a0 a1 = some r) : FnOK Try.prog 24 [] [.agg (api_Fleet_av a0), .agg (api_Rotation_av a1)] (.tup [.d (.int .i64 r.1), .d (.bool r.2.1), .d (.int .i64 r.2.2)]) [] := by
  unfold ref34_Distance at h0
  refine fn_ok (nt := 26) (rs := [.tmp 4, .tmp 5, .tmp 6]) Try.func24 rfl Try.ntmps24 rfl (by simp) (by decide) rfl fun K => ?_
  refine kr [2, 3] (by simp; rfl) ?_
  refine tr_seq ?_
  refine kc ?_
  refine ko [2, 3, 10, 11] 2 (by simp; rfl) ?_
  replace h0 := bnd h0; obtain ⟨y1, hy1, h0⟩ := h0
  refine kcall [2, 3, 12] [] (ref34_check_ok hy1) rfl rfl rfl Try.call41 (by simp) (by simp; rfl) ?_
  refine ko [2, 3, 7] 1 (by simp; rfl) ?_
  refine tops_nil ?_
  refine kr [2, 3, 7, 14] (by simp; rfl) ?_
  refine tr_cond (b := (y1 != 0)) (by simp) (fun c1 => ?_) (fun c1 => ?_)
  · rw [if_pos c1] at h0
    refine kr [4, 5, 6] (by simp; rfl) ?_
    cases h0
    exact tr_ret ⟨[], by simp, rfl, by simp⟩
  · rw [if_neg (by rw [c1]; decide)] at h0
    refine tr_skip ?_
    refine kc ?_
    refine ko [17, 18] 2 (by simp; rfl) ?_
    replace h0 := bnd h0; obtain ⟨y2, hy2, h0⟩ := h0
    refine kcall [19] [] (ref34_search_ok hy2) rfl rfl rfl Try.call42 (by simp) (by simp; rfl) ?_
    refine ko [9] 5 (by simp; rfl) ?_
    refine tops_nil ?_
    refine kr [4, 5, 6] (by simp; rfl) ?_
    cases h0
    exact tr_ret ⟨[], by simp, rfl, by simp⟩
set_option maxHeartbeats 1000000 in
theorem ref34_Leads_ok {a0 : api_Fleet} {a1 : api_Rotation} {a2 : List api_Step} {r : Bool} (h0 : ref34_Leads a0 a1 a2 = some r) : FnOK Try.prog 25 [] [.agg (api_Fleet_av a0), .agg (api_Rotation_av a1), .d (.slice (rowsF api_Step_row a2))] (.d (.bool r)) [] := by
  unfold ref34_Leads at h0
  refine fn_ok (nt := 45) (rs := [.tmp 6]) Try.func25 rfl Try.ntmps25 rfl (by simp) (by decide) rfl fun K => ?_
  refine kr [2, 3, 4] (by simp; rfl) ?_
  refine tr_seq ?_
  refine kc ?_
  refine ko [2, 3, 4, 12, 13, 14] 3 (by simp; rfl) ?_
  replace h0 := bnd h0; obtain ⟨y1, hy1, h0⟩ := h0
  refine kcall [2, 3, 4, 15] [] (ref33_Fault_ok hy1) rfl rfl rfl Try.call43 (by simp) (by simp; rfl) ?_
  refine ko [2, 3, 4, 7, 8] 5 (by simp; rfl) ?_
  refine tops_nil ?_
  replace h0 := bnd h0; obtain ⟨v2, hvv2, h0⟩ := h0
  refine sjv (fun v2_ : Bool => ({ nt := 45, env := [(2, .d (.slice (rowsF api_Step_row a2))), (3, .ptr 3 0), (4, .ptr 4 0), (25, .d (.bool v2_))], box := [(3, [.d (.int .i64 a0.Slots), .d (.slice (rowsF api_Consumer_row a0.Consumers))]), (4, [.d (.int .i64 a1.Known), .d (.int .i64 a1.Valid), .d (.slice (rowsF api_Unit_row a1.Units))])], vec := [] } : St)) (fun v2_ => v2 = v2_) (fun v2_ e => ?_) ?_
  · subst e
    refine tr_cond (b := v2) (by simp) (fun c3 => ?_) (fun c3 => ?_)
    · rw [if_pos c3] at h0
      refine kr [6] (by simp; rfl) ?_
      cases h0
      exact tr_ret ⟨[], by simp, rfl, by simp⟩
    · rw [if_neg (by rw [c3]; decide)] at h0
      refine tr_skip ?_
      refine kc ?_
      refine ko [3, 4, 27, 28, 29] 3 (by simp; rfl) ?_
      replace h0 := bnd h0; obtain ⟨y3, hy3, h0⟩ := h0
      refine kcall [3, 4, 30] [] (ref33_Run_ok hy3) rfl rfl rfl Try.call44 (by simp) (by simp; rfl) ?_
      refine ko [3, 4, 9] 5 (by simp; rfl) ?_
      refine tops_nil ?_
      refine sjv (fun v4 : Int × Int × (List api_Unit) => ({ nt := 45, env := [(3, .ptr 3 0), (4, .ptr 4 0)], box := [(3, [.d (.int .i64 a0.Slots), .d (.slice (rowsF api_Consumer_row a0.Consumers))]), (4, [.d (.int .i64 v4.1), .d (.int .i64 v4.2.1), .d (.slice (rowsF api_Unit_row v4.2.2))])], vec := [] } : St)) (fun v4 => ref34_Leads_j0 a0 v4 = some r) (fun v4 h0 => ?_) ?_
      · unfold ref34_Leads_j0 at h0
        refine kc ?_
        refine ko [42, 43] 2 (by simp; rfl) ?_
        replace h0 := bnd h0; obtain ⟨y5, hy5, h0⟩ := h0
        refine kcall [44] [] (ref32_Ended_ok hy5) rfl rfl rfl Try.call19 (by simp) (by simp; rfl) ?_
        refine ko [6] 1 (by simp; rfl) ?_
        refine tops_nil ?_
        cases h0
        exact tr_ret ⟨[], by simp, rfl, by simp⟩
      · refine kr [3, 4, 9, 35] (by simp; rfl) ?_
        refine tr_cond (b := (decide (0 < ((y3.1).length : Int)))) (by simp) (fun c5 => ?_) (fun c5 => ?_)
        · rw [if_pos c5] at h0
          replace h0 := bnd h0; obtain ⟨x6, p2, h0⟩ := h0
          replace p2 := idx_some p2
          have p2' := p2; try simp at p2'
          refine lr (by simp [p2, p2']; rfl) ?_
          exact ⟨_, h0, wk (by simp [weak_iff])⟩
        · rw [if_neg (by rw [c5]; decide)] at h0
          refine tr_skip ?_
          exact ⟨_, h0, wk (by simp [weak_iff])⟩
  · refine kc1 ?_
    refine ko [2, 3, 4, 7, 20] 3 (by simp; rfl) ?_
    refine tops_split 20 (y1.2 != 0) (by simp) (fun c6 => ?_) (fun c6 => ?_)
    · rw [c6] at hvv2
      refine kskip 4 [] (by kernel_rfl) ?_
      refine ko [2, 3, 4, 25] 1 (by simp; rfl) ?_
      refine tops_nil ?_
      cases hvv2
      exact ⟨_, rfl, wk (by simp [weak_iff])⟩
    · rw [c6] at hvv2
      refine ko [2, 3, 4, 25] 5 (by simp; rfl) ?_
      refine tops_nil ?_
      cases hvv2
      exact ⟨_, rfl, wk (by simp [weak_iff])⟩
set_option maxHeartbeats 1000000 in
theorem law34_SearchExact_ok {a0 : List Int} {a1 : api_Fleet} {a2 : api_Rotation} {r : Bool} (h0 : law34_SearchExact a0 a1 a2 = some r) : FnOK Try.prog 6 [] [.d (.slice (rowsF (iRow .i64) a0)), .agg (api_Fleet_av a1), .agg (api_Rotation_av a2)] (.d (.bool r)) [] := by
  unfold law34_SearchExact at h0
  refine fn_ok (nt := 171) (rs := [.tmp 6]) Try.func6 rfl Try.ntmps6 rfl (by simp) (by decide) rfl fun K => ?_
  refine kr [0, 4, 5] (by simp; rfl) ?_
  refine tr_seq ?_
  replace h0 := bnd h0; obtain ⟨v1, hvv1, h0⟩ := h0
  refine sjv (fun v1_ : Bool => ({ nt := 171, env := [(0, .d (.slice (rowsF (iRow .i64) a0))), (4, .ptr 4 0), (5, .ptr 5 0), (52, .d (.bool v1_))], box := [(4, [.d (.int .i64 a1.Slots), .d (.slice (rowsF api_Consumer_row a1.Consumers))]), (5, [.d (.int .i64 a2.Known), .d (.int .i64 a2.Valid), .d (.slice (rowsF api_Unit_row a2.Units))])], vec := [] } : St)) (fun v1_ => v1 = v1_) (fun v1_ e => ?_) ?_
  · subst e
    refine tr_cond (b := v1) (by simp) (fun c11 => ?_) (fun c11 => ?_)
    · rw [if_pos c11] at h0
      refine kc ?_
      replace h0 := bnd h0; obtain ⟨y2, hy2, h0⟩ := h0
      refine kcall [53] [] (law34_awake_ok hy2) rfl rfl rfl Try.call8 (by simp) (by simp; rfl) ?_
      refine ko [6] 1 (by simp; rfl) ?_
      refine tops_nil ?_
      cases h0
      exact tr_ret ⟨[], by simp, rfl, by simp⟩
    · rw [if_neg (by rw [c11]; decide)] at h0
      refine tr_skip ?_
      refine kr [4, 5, 7] (by simp; rfl) ?_
      refine kc ?_
      refine ko [4, 5, 7, 57] 1 (by simp; rfl) ?_
      replace h0 := bnd h0; obtain ⟨y3, hy3, h0⟩ := h0
      refine kcall [4, 5, 7, 58] [56] (make_Fleet_ok hy3) rfl rfl rfl Try.call9 (by simp) (by simp; rfl) ?_
      refine ko [4, 5, 7, 8] 2 (by simp; rfl) ?_
      refine tops_nil ?_
      replace h0 := bnd h0; obtain ⟨_, p1, h0⟩ := h0
      replace p1 := ck_some p1
      replace h0 := bnd h0; obtain ⟨l4, p2, h0⟩ := h0
      replace p2 := Option.some.inj p2
      refine kr [4, 5, 7, 8, 9] (by simp [p1, (show List.replicate 4 ([.int .i64 0, .bool false, .bool false] : List D) = rowsF api_Consumer_row l4 from by subst p2; simp [rowsF])]; rfl) ?_
      refine kc ?_
      refine ko [4, 5, 7, 8, 9, 62] 1 (by simp; rfl) ?_
      refine tops_wk (wk_frz 59) ?_
      replace h0 := bnd h0; obtain ⟨y5, hy5, h0⟩ := h0
      refine kcall [4, 5, 7, 8, 9, 63] [] (ref32_Start_ok hy5) rfl rfl rfl Try.call22 (by simp) (by simp; rfl) ?_
      refine ko [4, 5, 7, 8, 9, 10] 6 (by simp; rfl) ?_
      refine tops_nil ?_
      refine tr_seq ?_
      refine kr [5, 7, 8, 10, 69, 70] (by simp; rfl) ?_
      replace h0 := bnd h0; obtain ⟨l6, hl6, h0⟩ := h0
      replace hl6 := Option.some.inj hl6
      replace h0 := bnd h0; obtain ⟨e1, hI1, h0⟩ := h0
      refine tjv (fun v7 : Unit => ({ nt := 171, env := [], box := [], vec := [] } : St)) (fun v7 => .inl v7 = e1) (fun v7 hI1e _ W1 => ?_) ?_
      · subst hI1e
        dsimp only at h0
        refine tr_wk W1 ?_
        refine kc ?_
        replace h0 := bnd h0; obtain ⟨y8, hy8, h0⟩ := h0
        refine kcall [170] [] (law34_awake_ok hy8) rfl rfl rfl Try.call8 (by simp) (by simp; rfl) ?_
        refine ko [6] 1 (by simp; rfl) ?_
        refine tops_nil ?_
        cases h0
        exact tr_ret ⟨[], by simp, rfl, by simp⟩
      · refine tr_block (tr_iter (fun s9 : Int × (List Int) × Int => ({ nt := 171, env := [(5, .ptr 5 0), (7, .ptr 56 0), (8, .ptr 8 0), (10, .ptr 10 0), (69, .agg (arC api_Fleet_row l6)), (70, .d (.int .i64 s9.1))], box := [(5, [.d (.int .i64 a2.Known), .d (.int .i64 a2.Valid), .d (.slice (rowsF api_Unit_row a2.Units))]), (8, [.d (.int .i64 y3.1.Slots), .d (.slice (rowsF api_Consumer_row y3.1.Consumers))]), (10, [.d (.int .i64 y5.1.Known), .d (.int .i64 y5.1.Valid), .d (.slice (rowsF api_Unit_row y5.1.Units))]), (56, [.d (.slice (rowsF (iRow .i64) s9.2.1)), .d (.int .i64 s9.2.2)])], vec := [] } : St)) hI1 (wk (by subst hl6; simp [weak_iff])) fun G1 s9 o1 h1 hg1 he1 => ?_)
        unfold law34_SearchExact_l0 at h1
        refine kr [5, 7, 8, 10, 69, 70, 71] (by simp; rfl) ?_
        refine tr_seq ?_
        refine tr_cond (b := (decide (s9.1 < 3))) (by simp) (fun c40 => ?_) (fun c40 => ?_)
        · rw [if_pos c40] at h1
          refine tr_skip ?_
          refine tr_seq ?_
          refine tr_block ?_
          replace h1 := bnd h1; obtain ⟨_, p21, h1⟩ := h1
          replace p21 := ck_some p21
          have p21' := p21; try simp at p21'
          replace h1 := bnd h1; obtain ⟨x10, p22, h1⟩ := h1
          replace p22 := idx_some p22
          have p22' := p22; try simp at p22'
          have ix23 : indexVA Try.prog 56 (.agg (arC api_Fleet_row l6)) s9.1 = some (.agg [.d (.int .i64 x10.Slots), .d (.slice (rowsF api_Consumer_row x10.Consumers))]) := indexVA_arC Try.underlying56 sz29 p22.1 p21 p22.2 (by simp) (by simp)
          refine kr [5, 7, 8, 10, 12, 13, 69, 70] (by simp [p21, p22, ix23, -indexVA, p21', p22']; rfl) ?_
          refine kd [[], [], [0, 1], [], [], [2, 3, 4], [], [5, 6], [], [7, 8]] [2, 8, 9] [(14, [8, 9]), (56, [2])] none [] 10 fol (by decide +kernel) (by simp) ?_
          refine dr_go 0 2 rfl (by simp (maxSteps := 1000000); rfl) ?_
          replace h1 := bnd h1; obtain ⟨y11, hy11, h1⟩ := h1
          refine dr_call 2 [56] (make_State_ok hy11) rfl rfl rfl rfl rfl Try.call10 (by simp) ?_
          replace h1 := bnd h1; obtain ⟨l12, p32, h1⟩ := h1
          replace p32 := Option.some.inj p32
          replace h1 := bnd h1; obtain ⟨_, p33, h1⟩ := h1
          replace p33 := ck_some p33
          have p33' := p33; try simp at p33'
          replace h1 := bnd h1; obtain ⟨x13, p34, h1⟩ := h1
          replace p34 := idx_some p34
          have p34' := p34; try simp at p34'
          have ix35 : indexVA Try.prog 57 (.agg [.d (.int .i64 y11.1.Known), .d (.int .i64 y11.1.Valid), .d (.slice (rowsF api_Unit_row y11.1.Units)), .d (.int .i64 a2.Known), .d (.int .i64 a2.Valid), .d (.slice (rowsF api_Unit_row a2.Units)), .d (.int .i64 y5.1.Known), .d (.int .i64 y5.1.Valid), .d (.slice (rowsF api_Unit_row y5.1.Units))]) s9.1 = some (.agg [.d (.int .i64 x13.Known), .d (.int .i64 x13.Valid), .d (.slice (rowsF api_Unit_row x13.Units))]) := by subst p32; exact indexVA_arC (f := api_Rotation_row) (l := [y11.1, a2, y5.1]) Try.underlying57 sz33 p34.1 p33 p34.2 (by simp) (by simp)
          refine dr_go 3 2 rfl (by simp (maxSteps := 1000000) [p33, p34, ix35, -indexVA, p33', p34']; rfl) ?_
          refine dr_go 5 2 rfl (by simp (maxSteps := 1000000) [p33, p34, ix35, -indexVA, p33', p34']; rfl) ?_
          refine dr_go 7 2 rfl (by simp (maxSteps := 1000000) [p33, p34, ix35, -indexVA, p33', p34']; rfl) ?_
          refine dr_go 9 1 rfl (by simp (maxSteps := 1000000) [p33, p34, ix35, -indexVA, p33', p34']; rfl) ?_
          refine dr_end rfl (tops_nil ?_)
          refine kc ?_
          refine ko [5, 7, 8, 10, 13, 14, 69, 70, 83, 84] 2 (by simp; rfl) ?_
          replace h1 := bnd h1; obtain ⟨y14, hy14, h1⟩ := h1
          refine kcall [5, 7, 8, 10, 13, 14, 69, 70, 85] [] (search_Count_ok hy14) rfl rfl rfl Try.call11 (by simp) (by simp; rfl) ?_
          refine ko [5, 7, 8, 10, 13, 14, 15, 16, 69, 70] 5 (by simp; rfl) ?_
          refine tops_nil ?_
          refine kc ?_
          refine ko [5, 7, 8, 10, 13, 14, 15, 16, 69, 70, 89, 90] 2 (by simp; rfl) ?_
          replace h1 := bnd h1; obtain ⟨y15, hy15, h1⟩ := h1
          refine kcall [5, 7, 8, 10, 13, 14, 15, 16, 69, 70, 91] [] (ref34_Count_ok hy15) rfl rfl rfl Try.call23 (by simp) (by simp; rfl) ?_
          refine ko [5, 7, 8, 10, 13, 14, 15, 16, 17, 18, 69, 70] 5 (by simp; rfl) ?_
          refine tops_nil ?_
          refine tr_seq ?_
          replace h1 := bnd h1; obtain ⟨v16, hvv16, h1⟩ := h1
          refine sjv (fun v16_ : Bool => ({ nt := 171, env := [(5, .ptr 5 0), (7, .ptr 56 0), (8, .ptr 8 0), (10, .ptr 10 0), (13, .ptr 13 0), (14, .ptr 14 0), (69, .agg (arC api_Fleet_row l6)), (70, .d (.int .i64 s9.1)), (101, .d (.bool v16_))], box := [(5, [.d (.int .i64 a2.Known), .d (.int .i64 a2.Valid), .d (.slice (rowsF api_Unit_row a2.Units))]), (8, [.d (.int .i64 y3.1.Slots), .d (.slice (rowsF api_Consumer_row y3.1.Consumers))]), (10, [.d (.int .i64 y5.1.Known), .d (.int .i64 y5.1.Valid), .d (.slice (rowsF api_Unit_row y5.1.Units))]), (13, [.d (.int .i64 x10.Slots), .d (.slice (rowsF api_Consumer_row x10.Consumers))]), (14, [.d (.int .i64 x13.Known), .d (.int .i64 x13.Valid), .d (.slice (rowsF api_Unit_row x13.Units))]), (56, [.d (.slice (rowsF (iRow .i64) y11.2.L)), .d (.int .i64 y11.2.at_)])], vec := [] } : St)) (fun v16_ => v16 = v16_) (fun v16_ e => ?_) ?_
          · subst e
            refine tr_cond (b := v16) (by simp) (fun c43 => ?_) (fun c43 => ?_)
            · rw [if_pos c43] at h1
              refine kr [6] (by simp; rfl) ?_
              have k1 := he1 _ (Option.some.inj h1)
              subst k1
              dsimp only at h0
              cases h0
              exact tr_ret ⟨[], by simp, rfl, by simp⟩
            · rw [if_neg (by rw [c43]; decide)] at h1
              refine tr_skip ?_
              refine kc ?_
              refine ko [5, 7, 8, 10, 13, 14, 69, 70, 103, 104] 2 (by simp; rfl) ?_
              replace h1 := bnd h1; obtain ⟨y17, hy17, h1⟩ := h1
              refine kcall [5, 7, 8, 10, 13, 14, 69, 70, 105] [] (search_Distance_ok hy17) rfl rfl rfl Try.call17 (by simp) (by simp; rfl) ?_
              refine ko [5, 7, 8, 10, 13, 14, 16, 19, 20, 69, 70] 7 (by simp; rfl) ?_
              refine tops_nil ?_
              refine kc ?_
              refine ko [5, 7, 8, 10, 13, 14, 16, 19, 20, 69, 70, 110, 111] 2 (by simp; rfl) ?_
              replace h1 := bnd h1; obtain ⟨y18, hy18, h1⟩ := h1
              refine kcall [5, 7, 8, 10, 13, 14, 16, 19, 20, 69, 70, 112] [] (ref34_Distance_ok hy18) rfl rfl rfl Try.call24 (by simp) (by simp; rfl) ?_
              refine ko [5, 7, 8, 10, 13, 14, 16, 18, 19, 20, 21, 22, 69, 70] 7 (by simp; rfl) ?_
              refine tops_nil ?_
              refine tr_seq ?_
              replace h1 := bnd h1; obtain ⟨v19, hvv19, h1⟩ := h1
              refine sjv (fun v19_ : Bool => ({ nt := 171, env := [(5, .ptr 5 0), (7, .ptr 56 0), (8, .ptr 8 0), (10, .ptr 10 0), (13, .ptr 13 0), (14, .ptr 14 0), (18, .d (.int .i64 y18.2.2)), (21, .d (.int .i64 y18.1)), (22, .d (.bool y18.2.1)), (69, .agg (arC api_Fleet_row l6)), (70, .d (.int .i64 s9.1)), (128, .d (.bool v19_))], box := [(5, [.d (.int .i64 a2.Known), .d (.int .i64 a2.Valid), .d (.slice (rowsF api_Unit_row a2.Units))]), (8, [.d (.int .i64 y3.1.Slots), .d (.slice (rowsF api_Consumer_row y3.1.Consumers))]), (10, [.d (.int .i64 y5.1.Known), .d (.int .i64 y5.1.Valid), .d (.slice (rowsF api_Unit_row y5.1.Units))]), (13, [.d (.int .i64 x10.Slots), .d (.slice (rowsF api_Consumer_row x10.Consumers))]), (14, [.d (.int .i64 x13.Known), .d (.int .i64 x13.Valid), .d (.slice (rowsF api_Unit_row x13.Units))]), (56, [.d (.slice (rowsF (iRow .i64) y11.2.L)), .d (.int .i64 y11.2.at_)])], vec := [] } : St)) (fun v19_ => v19 = v19_) (fun v19_ e => ?_) ?_
              · subst e
                refine tr_cond (b := v19) (by simp) (fun c48 => ?_) (fun c48 => ?_)
                · rw [if_pos c48] at h1
                  refine kr [6] (by simp; rfl) ?_
                  have k1 := he1 _ (Option.some.inj h1)
                  subst k1
                  dsimp only at h0
                  cases h0
                  exact tr_ret ⟨[], by simp, rfl, by simp⟩
                · rw [if_neg (by rw [c48]; decide)] at h1
                  refine tr_skip ?_
                  refine kc ?_
                  refine ko [5, 7, 8, 10, 13, 14, 18, 21, 22, 69, 70, 130, 131] 2 (by simp; rfl) ?_
                  replace h1 := bnd h1; obtain ⟨y20, hy20, h1⟩ := h1
                  refine kcall [5, 7, 8, 10, 13, 14, 18, 21, 22, 69, 70, 132] [] (search_Shortest_ok hy20) rfl rfl rfl Try.call18 (by simp) (by simp; rfl) ?_
                  refine ko [5, 7, 8, 10, 13, 14, 18, 21, 22, 23, 24, 25, 69, 70] 7 (by simp; rfl) ?_
                  refine tops_nil ?_
                  replace h1 := bnd h1; obtain ⟨v21, hvv21, h1⟩ := h1
                  refine sjv (fun v21_ : Bool => ({ nt := 171, env := [(5, .ptr 5 0), (7, .ptr 56 0), (8, .ptr 8 0), (10, .ptr 10 0), (69, .agg (arC api_Fleet_row l6)), (70, .d (.int .i64 s9.1)), (168, .d (.bool v21_))], box := [(5, [.d (.int .i64 a2.Known), .d (.int .i64 a2.Valid), .d (.slice (rowsF api_Unit_row a2.Units))]), (8, [.d (.int .i64 y3.1.Slots), .d (.slice (rowsF api_Consumer_row y3.1.Consumers))]), (10, [.d (.int .i64 y5.1.Known), .d (.int .i64 y5.1.Valid), .d (.slice (rowsF api_Unit_row y5.1.Units))]), (56, [.d (.slice (rowsF (iRow .i64) y11.2.L)), .d (.int .i64 y11.2.at_)])], vec := [] } : St)) (fun v21_ => v21 = v21_) (fun v21_ e => ?_) ?_
                  · subst e
                    refine tr_cond (b := v21) (by simp) (fun c63 => ?_) (fun c63 => ?_)
                    · rw [if_pos c63] at h1
                      refine kr [6] (by simp; rfl) ?_
                      have k1 := he1 _ (Option.some.inj h1)
                      subst k1
                      dsimp only at h0
                      cases h0
                      exact tr_ret ⟨[], by simp, rfl, by simp⟩
                    · rw [if_neg (by rw [c63]; decide)] at h1
                      refine tr_skip ?_
                      refine lr (by simp; rfl) ?_
                      exact ⟨_, hg1 _ (Option.some.inj h1), wk (by simp [weak_iff])⟩
                  · refine kc1 ?_
                    refine ko [5, 7, 8, 10, 13, 14, 18, 21, 23, 24, 25, 69, 70, 139] 4 (by simp; rfl) ?_
                    refine tops_split 139 (y20.2.1 != y18.2.1) (by simp) (fun c64 => ?_) (fun c64 => ?_)
                    · rw [if_pos c64] at hvv21
                      refine kskip 3 [] (by kernel_rfl) ?_
                      refine ko [5, 7, 8, 10, 13, 14, 21, 23, 24, 69, 70, 144] 2 (by simp; rfl) ?_
                      refine kskip 14 [] (by kernel_rfl) ?_
                      refine ko [5, 7, 8, 10, 23, 24, 69, 70, 160] 2 (by simp; rfl) ?_
                      refine kskip 7 [] (by kernel_rfl) ?_
                      refine ko [5, 7, 8, 10, 69, 70, 168] 1 (by simp; rfl) ?_
                      refine tops_nil ?_
                      cases hvv21
                      exact ⟨_, rfl, wk (by simp [weak_iff])⟩
                    · rw [if_neg (by rw [c64]; decide)] at hvv21
                      refine ko [5, 7, 8, 10, 13, 14, 21, 23, 24, 69, 70, 140, 141, 142, 144] 5 (by simp; rfl) ?_
                      refine tops_split 144 (y20.2.2 != y18.2.2) (by simp) (fun c65 => ?_) (fun c65 => ?_)
                      · rw [if_pos c65] at hvv21
                        refine kskip 14 [] (by kernel_rfl) ?_
                        refine ko [5, 7, 8, 10, 23, 24, 69, 70, 140, 141, 142, 160] 2 (by simp; rfl) ?_
                        refine kskip 7 [] (by kernel_rfl) ?_
                        refine ko [5, 7, 8, 10, 69, 70, 140, 141, 142, 168] 1 (by simp; rfl) ?_
                        refine tops_nil ?_
                        cases hvv21
                        exact ⟨_, rfl, wk (by simp [weak_iff])⟩
                      · rw [if_neg (by rw [c65]; decide)] at hvv21
                        refine ko [5, 7, 8, 10, 13, 14, 21, 23, 24, 69, 70, 140, 141, 142, 144, 145, 146] 2 (by simp; rfl) ?_
                        refine tops_split 146 y20.2.1 (by simp) (fun c66 => ?_) (fun c66 => ?_)
                        · rw [if_pos c66] at hvv21
                          refine ko [5, 7, 8, 10, 13, 14, 23, 24, 69, 70, 140, 141, 142, 144, 145, 146, 147, 148, 149, 150, 151] 5 (by simp; rfl) ?_
                          refine tops_split 151 (((y20.1).length : Int) != y18.1) (by simp) (fun c67 => ?_) (fun c67 => ?_)
                          · rw [if_pos c67] at hvv21
                            refine kskip 5 [] (by kernel_rfl) ?_
                            refine ko [5, 7, 8, 10, 23, 24, 69, 70, 140, 141, 142, 145, 146, 147, 148, 149, 150, 151, 157, 158, 160] 4 (by simp; rfl) ?_
                            refine kskip 7 [] (by kernel_rfl) ?_
                            refine ko [5, 7, 8, 10, 69, 70, 140, 141, 142, 145, 146, 147, 148, 149, 150, 151, 157, 158, 168] 1 (by simp; rfl) ?_
                            refine tops_nil ?_
                            cases hvv21
                            exact ⟨_, rfl, wk (by simp [weak_iff])⟩
                          · rw [if_neg (by rw [c67]; decide)] at hvv21
                            refine ko [5, 7, 8, 10, 23, 24, 69, 70, 140, 141, 142, 144, 145, 146, 147, 148, 149, 150, 151, 152, 153, 154] 3 (by simp; rfl) ?_
                            replace hvv21 := bnd hvv21; obtain ⟨y22, hy22, hvv21⟩ := hvv21
                            refine kcall [5, 7, 8, 10, 23, 24, 69, 70, 140, 141, 142, 144, 145, 146, 147, 148, 149, 150, 151, 152, 153, 154, 155] [] (ref34_Leads_ok hy22) rfl rfl rfl Try.call25 (by simp) (by simp; rfl) ?_
                            refine ko [5, 7, 8, 10, 23, 24, 69, 70, 140, 141, 142, 145, 146, 147, 148, 149, 150, 151, 152, 153, 154, 155, 156, 157, 158, 160] 5 (by simp; rfl) ?_
                            refine tops_split 160 (!y22) (by simp) (fun c68 => ?_) (fun c68 => ?_)
                            · rw [if_pos c68] at hvv21
                              refine kskip 7 [] (by kernel_rfl) ?_
                              refine ko [5, 7, 8, 10, 69, 70, 140, 141, 142, 145, 146, 147, 148, 149, 150, 151, 152, 153, 154, 155, 156, 157, 158, 168] 1 (by simp; rfl) ?_
                              refine tops_nil ?_
                              cases hvv21
                              exact ⟨_, rfl, wk (by simp [weak_iff])⟩
                            · rw [if_neg (by rw [c68]; decide)] at hvv21
                              refine ko [5, 7, 8, 10, 23, 69, 70, 140, 141, 142, 145, 146, 147, 148, 149, 150, 151, 152, 153, 154, 155, 156, 157, 158, 160, 161, 162, 163] 3 (by simp; rfl) ?_
                              refine tops_split 163 (!y20.2.1) (by simp) (fun c69 => ?_) (fun c69 => ?_)
                              · rw [if_pos c69] at hvv21
                                refine ko [5, 7, 8, 10, 69, 70, 140, 141, 142, 145, 146, 147, 148, 149, 150, 151, 152, 153, 154, 155, 156, 157, 158, 161, 162, 163, 164, 165, 166, 167, 168] 5 (by simp; rfl) ?_
                                refine tops_nil ?_
                                cases hvv21
                                exact ⟨_, rfl, wk (by simp [weak_iff])⟩
                              · rw [if_neg (by rw [c69]; decide)] at hvv21
                                refine kskip 3 [] (by kernel_rfl) ?_
                                refine ko [5, 7, 8, 10, 69, 70, 140, 141, 142, 145, 146, 147, 148, 149, 150, 151, 152, 153, 154, 155, 156, 157, 158, 161, 162, 163, 167, 168] 2 (by simp; rfl) ?_
                                refine tops_nil ?_
                                cases hvv21
                                exact ⟨_, rfl, wk (by simp [weak_iff])⟩
                        · rw [if_neg (by rw [c66]; decide)] at hvv21
                          refine kskip 11 [] (by kernel_rfl) ?_
                          refine ko [5, 7, 8, 10, 23, 69, 70, 140, 141, 142, 145, 146, 158, 160, 161, 162, 163] 6 (by simp; rfl) ?_
                          refine tops_split 163 (!y20.2.1) (by simp) (fun c70 => ?_) (fun c70 => ?_)
                          · rw [if_pos c70] at hvv21
                            refine ko [5, 7, 8, 10, 69, 70, 140, 141, 142, 145, 146, 158, 161, 162, 163, 164, 165, 166, 167, 168] 5 (by simp; rfl) ?_
                            refine tops_nil ?_
                            cases hvv21
                            exact ⟨_, rfl, wk (by simp [weak_iff])⟩
                          · rw [if_neg (by rw [c70]; decide)] at hvv21
                            refine kskip 3 [] (by kernel_rfl) ?_
                            refine ko [5, 7, 8, 10, 69, 70, 140, 141, 142, 145, 146, 158, 161, 162, 163, 167, 168] 2 (by simp; rfl) ?_
                            refine tops_nil ?_
                            cases hvv21
                            exact ⟨_, rfl, wk (by simp [weak_iff])⟩
              · refine kc1 ?_
                refine ko [5, 7, 8, 10, 13, 14, 16, 18, 20, 21, 22, 69, 70, 119] 4 (by simp; rfl) ?_
                refine tops_split 119 (y17.1 != y18.1) (by simp) (fun c71 => ?_) (fun c71 => ?_)
                · rw [c71] at hvv19
                  refine kskip 3 [] (by kernel_rfl) ?_
                  refine ko [5, 7, 8, 10, 13, 14, 16, 18, 21, 22, 69, 70, 124] 2 (by simp; rfl) ?_
                  refine kskip 3 [] (by kernel_rfl) ?_
                  refine ko [5, 7, 8, 10, 13, 14, 18, 21, 22, 69, 70, 128] 1 (by simp; rfl) ?_
                  refine tops_nil ?_
                  cases hvv19
                  exact ⟨_, rfl, wk (by simp [weak_iff])⟩
                · rw [c71] at hvv19
                  refine ko [5, 7, 8, 10, 13, 14, 16, 18, 21, 22, 69, 70, 120, 121, 122, 124] 5 (by simp; rfl) ?_
                  refine tops_split 124 (y17.2.1 != y18.2.1) (by simp) (fun c72 => ?_) (fun c72 => ?_)
                  · rw [c72] at hvv19
                    refine kskip 3 [] (by kernel_rfl) ?_
                    refine ko [5, 7, 8, 10, 13, 14, 18, 21, 22, 69, 70, 120, 121, 122, 128] 1 (by simp; rfl) ?_
                    refine tops_nil ?_
                    cases hvv19
                    exact ⟨_, rfl, wk (by simp [weak_iff])⟩
                  · rw [c72] at hvv19
                    refine ko [5, 7, 8, 10, 13, 14, 18, 21, 22, 69, 70, 120, 121, 122, 125, 126, 127, 128] 4 (by simp; rfl) ?_
                    refine tops_nil ?_
                    cases hvv19
                    exact ⟨_, rfl, wk (by simp [weak_iff])⟩
          · refine kc1 ?_
            refine ko [5, 7, 8, 10, 13, 14, 16, 18, 69, 70, 97] 4 (by simp; rfl) ?_
            refine tops_split 97 (y14.1 != y15.1) (by simp) (fun c73 => ?_) (fun c73 => ?_)
            · rw [c73] at hvv16
              refine kskip 3 [] (by kernel_rfl) ?_
              refine ko [5, 7, 8, 10, 13, 14, 69, 70, 101] 1 (by simp; rfl) ?_
              refine tops_nil ?_
              cases hvv16
              exact ⟨_, rfl, wk (by simp [weak_iff])⟩
            · rw [c73] at hvv16
              refine ko [5, 7, 8, 10, 13, 14, 69, 70, 98, 99, 100, 101] 4 (by simp; rfl) ?_
              refine tops_nil ?_
              cases hvv16
              exact ⟨_, rfl, wk (by simp [weak_iff])⟩
        · rw [if_neg (by rw [c40]; decide)] at h1
          refine tr_exit ?_
          exact ⟨_, he1 _ (Option.some.inj h1), wk (by simp [weak_iff])⟩
  · refine kc1 ?_
    refine ko [0, 4, 5, 29] 4 (by simp; rfl) ?_
    refine tops_split 29 (decide (200 < ((a0).length : Int))) (by simp) (fun c74 => ?_) (fun c74 => ?_)
    · rw [c74] at hvv1
      refine kskip 10 [] (by kernel_rfl) ?_
      refine ko [0, 4, 5, 41] 2 (by simp; rfl) ?_
      refine kskip 4 [] (by kernel_rfl) ?_
      refine ko [0, 4, 5, 47] 2 (by simp; rfl) ?_
      refine kskip 4 [] (by kernel_rfl) ?_
      refine ko [0, 4, 5, 52] 1 (by simp; rfl) ?_
      refine tops_nil ?_
      cases hvv1
      exact ⟨_, rfl, wk (by simp [weak_iff])⟩
    · rw [c74] at hvv1
      refine ko [0, 4, 5, 29, 34] 5 (by simp; rfl) ?_
      refine tops_split 34 (decide (2 < ((a1.Consumers).length : Int))) (by simp) (fun c75 => ?_) (fun c75 => ?_)
      · rw [c75] at hvv1
        refine ko [0, 4, 5, 41] 7 (by simp; rfl) ?_
        refine tops_split 41 (decide (((a1.Consumers).length : Int) < 4)) (by simp) (fun c76 => ?_) (fun c76 => ?_)
        · rw [c76] at hvv1
          refine kskip 4 [] (by kernel_rfl) ?_
          refine ko [0, 4, 5, 47] 2 (by simp; rfl) ?_
          refine kskip 4 [] (by kernel_rfl) ?_
          refine ko [0, 4, 5, 52] 1 (by simp; rfl) ?_
          refine tops_nil ?_
          cases hvv1
          exact ⟨_, rfl, wk (by simp [weak_iff])⟩
        · rw [c76] at hvv1
          refine ko [0, 4, 5, 47] 6 (by simp; rfl) ?_
          refine tops_split 47 (decide (10 < ((a1.Consumers).length : Int))) (by simp) (fun c77 => ?_) (fun c77 => ?_)
          · rw [c77] at hvv1
            refine kskip 4 [] (by kernel_rfl) ?_
            refine ko [0, 4, 5, 52] 1 (by simp; rfl) ?_
            refine tops_nil ?_
            cases hvv1
            exact ⟨_, rfl, wk (by simp [weak_iff])⟩
          · rw [c77] at hvv1
            refine ko [0, 4, 5, 52] 5 (by simp; rfl) ?_
            refine tops_nil ?_
            cases hvv1
            exact ⟨_, rfl, wk (by simp [weak_iff])⟩
      · rw [c75] at hvv1
        refine kskip 4 [] (by kernel_rfl) ?_
        refine ko [0, 4, 5, 47] 9 (by simp; rfl) ?_
        refine tops_split 47 (decide (10 < ((a1.Consumers).length : Int))) (by simp) (fun c78 => ?_) (fun c78 => ?_)
        · rw [c78] at hvv1
          refine kskip 4 [] (by kernel_rfl) ?_
          refine ko [0, 4, 5, 52] 1 (by simp; rfl) ?_
          refine tops_nil ?_
          cases hvv1
          exact ⟨_, rfl, wk (by simp [weak_iff])⟩
        · rw [c78] at hvv1
          refine ko [0, 4, 5, 52] 5 (by simp; rfl) ?_
          refine tops_nil ?_
          cases hvv1
          exact ⟨_, rfl, wk (by simp [weak_iff])⟩
end Go.Vl
