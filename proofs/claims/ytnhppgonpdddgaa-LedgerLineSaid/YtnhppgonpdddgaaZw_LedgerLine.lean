/- Walks: each function of the given program computes what its mirror says. Conditions: none. -/
import Derived.Test.YtnhppgonpdddgaaZw1
set_option linter.unusedSimpArgs false
set_option linter.unusedVariables false
namespace Go.Vl
open Go Go.Proofs
set_option maxHeartbeats 1000000 in
theorem law42_LedgerLine_ok {a0 : List Int} {r : Bool} (h0 : law42_LedgerLine a0 = some r) : FnOK Try.prog 4 [] [.d (.slice (rowsF (iRow .i64) a0))] (.d (.bool r)) [] := by
  unfold law42_LedgerLine at h0
  refine fn_ok (nt := 132) (rs := [.tmp 2]) Try.func4 rfl Try.ntmps4 rfl (by simp) (by decide) rfl fun K => ?_
  refine kr [0] (by simp; rfl) ?_
  refine tr_seq ?_
  refine kr [0, 18] (by simp; rfl) ?_
  refine tr_cond (b := (decide (200 < ((a0).length : Int)))) (by simp) (fun c1 => ?_) (fun c1 => ?_)
  · rw [if_pos c1] at h0
    refine kc ?_
    replace h0 := bnd h0; obtain ⟨y1, hy1, h0⟩ := h0
    refine kcall [19] [] (law42_awake_ok hy1) rfl rfl rfl Try.call12 (by simp) (by simp; rfl) ?_
    refine ko [2] 1 (by simp; rfl) ?_
    refine tops_nil ?_
    cases h0
    exact tr_ret ⟨[], by simp, rfl, by simp⟩
  · rw [if_neg (by rw [c1]; decide)] at h0
    refine tr_skip ?_
    refine kr [3] (by simp; rfl) ?_
    refine kc ?_
    refine ko [3, 23] 1 (by simp; rfl) ?_
    replace h0 := bnd h0; obtain ⟨y2, hy2, h0⟩ := h0
    refine kcall [3, 24] [22] (make_Ledger_ok hy2) rfl rfl rfl Try.call13 (by simp) (by simp; rfl) ?_
    refine ko [3, 4] 1 (by simp; rfl) ?_
    refine tops_nil ?_
    refine kc ?_
    refine ko [3, 4, 25] 1 (by simp; rfl) ?_
    replace h0 := bnd h0; obtain ⟨y3, hy3, h0⟩ := h0
    refine kcall [3, 4, 26] [22] (make_Tape_Next_ok hy3) rfl rfl rfl Try.call14 (by simp) (by simp; rfl) ?_
    refine ko [4, 26, 27] 1 (by simp; rfl) ?_
    replace h0 := bnd h0; obtain ⟨y4, hy4, h0⟩ := h0
    refine kcall [4, 26, 28] [22] (make_Tape_Next_ok hy4) rfl rfl rfl Try.call14 (by simp) (by simp; rfl) ?_
    refine ko [4, 5, 6] 2 (by simp; rfl) ?_
    refine tops_nil ?_
    refine kc ?_
    refine ko [4, 5, 6, 30, 31, 32] 3 (by simp; rfl) ?_
    replace h0 := bnd h0; obtain ⟨y5, hy5, h0⟩ := h0
    refine kcall [4, 5, 6, 33] [] (ledger_Line_ok hy5) rfl rfl rfl Try.call15 (by simp) (by simp; rfl) ?_
    refine ko [4, 5, 6, 7, 8] 5 (by simp; rfl) ?_
    refine tops_nil ?_
    refine tr_seq ?_
    refine kr [4, 5, 6, 7, 37] (by simp; rfl) ?_
    refine tr_cond (b := (y5.2 != 0)) (by simp) (fun c2 => ?_) (fun c2 => ?_)
    · rw [if_pos c2] at h0
      refine kr [2] (by simp; rfl) ?_
      cases h0
      exact tr_ret ⟨[], by simp, rfl, by simp⟩
    · rw [if_neg (by rw [c2]; decide)] at h0
      refine tr_skip ?_
      refine tr_seq ?_
      refine kr [4, 5, 6, 7, 9] (by simp; rfl) ?_
      replace h0 := bnd h0; obtain ⟨e1, hI1, h0⟩ := h0
      refine tjv (fun v6 : Unit => ({ nt := 132, env := [], box := [], vec := [] } : St)) (fun v6 => .inl v6 = e1) (fun v6 hI1e _ W1 => ?_) ?_
      · subst hI1e
        dsimp only at h0
        refine tr_wk W1 ?_
        refine kc ?_
        replace h0 := bnd h0; obtain ⟨y7, hy7, h0⟩ := h0
        refine kcall [131] [] (law42_awake_ok hy7) rfl rfl rfl Try.call12 (by simp) (by simp; rfl) ?_
        refine ko [2] 1 (by simp; rfl) ?_
        refine tops_nil ?_
        cases h0
        exact tr_ret ⟨[], by simp, rfl, by simp⟩
      · refine tr_block (tr_iter (fun s8 : Int => ({ nt := 132, env := [(4, .d (.slice (rowsF api_Record_row y2.1))), (5, .d (.int .i64 y3.1)), (6, .d (.int .i64 y4.1)), (7, .d (.slice (rowsF api_Record_row y5.1))), (9, .d (.int .i64 s8))], box := [], vec := [] } : St)) hI1 (wk (by simp [weak_iff])) fun G1 s8 o1 h1 hg1 he1 => ?_)
        unfold law42_LedgerLine_l0 at h1
        refine tr_seq ?_
        refine kr [4, 5, 6, 7, 9, 39] (by simp; rfl) ?_
        refine tr_cond (b := (decide (s8 < 14))) (by simp) (fun c115 => ?_) (fun c115 => ?_)
        · rw [if_pos c115] at h1
          refine tr_skip ?_
          refine tr_seq ?_
          refine tr_block ?_
          refine kc ?_
          refine ko [4, 5, 6, 7, 9, 43, 44, 45, 46] 4 (by simp; rfl) ?_
          replace h1 := bnd h1; obtain ⟨y9, hy9, h1⟩ := h1
          refine kcall [4, 5, 6, 7, 9, 47] [] (ledger_Believe_ok hy9) rfl rfl rfl Try.call16 (by simp) (by simp; rfl) ?_
          refine ko [4, 5, 6, 7, 9, 10, 11] 6 (by simp; rfl) ?_
          refine tops_nil ?_
          refine kr [4, 5, 6, 7, 9, 10, 11, 12] (by simp; rfl) ?_
          refine kr [4, 5, 6, 7, 9, 10, 11, 12, 13] (by simp; rfl) ?_
          refine tr_seq ?_
          refine kr [4, 5, 6, 7, 9, 10, 11, 12, 13, 50, 51, 52] (by simp; rfl) ?_
          replace h1 := bnd h1; obtain ⟨e2, hI2, h1⟩ := h1
          refine tjv (fun v10 : Bool × Int × Int × Int × Int => ({ nt := 132, env := [(4, .d (.slice (rowsF api_Record_row y2.1))), (5, .d (.int .i64 y3.1)), (6, .d (.int .i64 y4.1)), (7, .d (.slice (rowsF api_Record_row y5.1))), (9, .d (.int .i64 s8)), (10, .ptr 10 0), (11, .d (.bool y9.2)), (12, .d (.bool v10.1)), (13, .ptr 13 0)], box := [(10, [.d (.int .i64 y9.1.Value), .d (.int .i64 y9.1.Record)]), (13, [.d (.int .i64 v10.2.1), .d (.int .i64 v10.2.2.1), .d (.int .i64 v10.2.2.2.1), .d (.int .i64 v10.2.2.2.2)])], vec := [] } : St)) (fun v10 => .inl v10 = e2) (fun v10 hI2e _ W2 => ?_) ?_
          · subst hI2e
            dsimp only at h1
            refine tr_wk W2 ?_
            replace h1 := bnd h1; obtain ⟨v11, hvv11, h1⟩ := h1
            refine sjv (fun v11_ : Bool => ({ nt := 132, env := [(4, .d (.slice (rowsF api_Record_row y2.1))), (5, .d (.int .i64 y3.1)), (6, .d (.int .i64 y4.1)), (7, .d (.slice (rowsF api_Record_row y5.1))), (9, .d (.int .i64 s8)), (130, .d (.bool v11_))], box := [], vec := [] } : St)) (fun v11_ => v11 = v11_) (fun v11_ e => ?_) ?_
            · subst e
              refine tr_cond (b := v11) (by simp) (fun c194 => ?_) (fun c194 => ?_)
              · rw [if_pos c194] at h1
                refine kr [2] (by simp; rfl) ?_
                have k1 := he1 _ (Option.some.inj h1)
                subst k1
                dsimp only at h0
                cases h0
                exact tr_ret ⟨[], by simp, rfl, by simp⟩
              · rw [if_neg (by rw [c194]; decide)] at h1
                refine tr_skip ?_
                refine lr (by simp; rfl) ?_
                exact ⟨_, hg1 _ (Option.some.inj h1), wk (by simp [weak_iff])⟩
            · refine kd1 [[], [], [0, 1], [2], [3], [3, 4], [5], [5, 6], [5], [5, 8], [5, 7, 9], [5, 10], [11], [11, 12], [11, 13], [5, 11, 14], [5, 15], [16], [16, 17], [16], [16, 19], [16, 18, 20], [5, 16, 20, 21], [5, 20, 22], [20, 23], [20, 23], [20, 23, 25], [20, 23, 24, 26], [20, 23, 27], [20, 23], [20, 23, 28, 29], [5, 20, 23, 30], [3, 5, 20, 31], [3, 20, 32], [20, 33], [20, 34], [20, 34, 35], [20, 34, 36], [20, 37], [20, 37, 38], [20, 37, 39], [20, 34, 37, 40], [20, 34, 41]] [] [] none [] 43 fol (by decide +kernel) (by simp) ?_
              refine dr_go 0 2 rfl (by simp (maxSteps := 1000000); rfl) ?_
              refine dr_go 2 2 rfl (by simp (maxSteps := 1000000); rfl) ?_
              refine dr_split 3 91 (y9.2 != v10.1) (by simp) (fun c211 => ?_) (fun c211 => ?_)
              · rw [if_pos c211] at hvv11
                refine dr_skip 4 132 [some 92, some 93, some 94, some 95, some 96, some 97, some 98, some 99, some 100, some 101, some 102, some 103, some 104, some 105, some 106, some 107, some 108, some 109, some 110, some 111, some 112, some 113, some 114, some 115, some 116, some 117, some 118, some 119, some 120] rfl rfl (by decide) (by kernel_rfl) (by simp only [skEf, List.map_cons, List.map_nil, List.cons_append, List.nil_append]; rfl) ?_
                refine dr_go 33 2 rfl (by simp (maxSteps := 1000000); rfl) ?_
                refine dr_skip 35 132 [some 123, some 124, some 125, some 126, some 127, some 128, some 129] rfl rfl (by decide) (by kernel_rfl) (by simp only [skEf, List.map_cons, List.map_nil, List.cons_append, List.nil_append]; rfl) ?_
                refine dr_go 42 1 rfl (by simp (maxSteps := 1000000); rfl) ?_
                refine dr_end rfl (tops_nil ?_)
                cases hvv11
                exact ⟨_, rfl, wk (by simp [weak_iff])⟩
              · rw [if_neg (by rw [c211]; decide)] at hvv11
                refine dr_go 4 2 rfl (by simp (maxSteps := 1000000); rfl) ?_
                refine dr_split 5 93 y9.2 (by simp) (fun c212 => ?_) (fun c212 => ?_)
                · rw [if_pos c212] at hvv11
                  refine dr_go 6 2 rfl (by simp (maxSteps := 1000000); rfl) ?_
                  refine dr_go 8 2 rfl (by simp (maxSteps := 1000000); rfl) ?_
                  refine dr_go 10 2 rfl (by simp (maxSteps := 1000000); rfl) ?_
                  refine dr_split 11 99 (y9.1.Value != v10.2.2.2.2) (by simp) (fun c213 => ?_) (fun c213 => ?_)
                  · rw [if_pos c213] at hvv11
                    refine dr_skip 12 132 [some 100, some 101, some 102] rfl rfl (by decide) (by kernel_rfl) (by simp only [skEf, List.map_cons, List.map_nil, List.cons_append, List.nil_append]; rfl) ?_
                    refine dr_go 15 2 rfl (by simp (maxSteps := 1000000); rfl) ?_
                    refine dr_skip 17 132 [some 105, some 106, some 107, some 108, some 109] rfl rfl (by decide) (by kernel_rfl) (by simp only [skEf, List.map_cons, List.map_nil, List.cons_append, List.nil_append]; rfl) ?_
                    refine dr_go 22 2 rfl (by simp (maxSteps := 1000000); rfl) ?_
                    refine dr_skip 24 132 [some 112, some 113, some 114, some 115, some 116, some 117, some 118] rfl rfl (by decide) (by kernel_rfl) (by simp only [skEf, List.map_cons, List.map_nil, List.cons_append, List.nil_append]; rfl) ?_
                    refine dr_go 31 2 rfl (by simp (maxSteps := 1000000); rfl) ?_
                    refine dr_go 33 2 rfl (by simp (maxSteps := 1000000); rfl) ?_
                    refine dr_skip 35 132 [some 123, some 124, some 125, some 126, some 127, some 128, some 129] rfl rfl (by decide) (by kernel_rfl) (by simp only [skEf, List.map_cons, List.map_nil, List.cons_append, List.nil_append]; rfl) ?_
                    refine dr_go 42 1 rfl (by simp (maxSteps := 1000000); rfl) ?_
                    refine dr_end rfl (tops_nil ?_)
                    cases hvv11
                    exact ⟨_, rfl, wk (by simp [weak_iff])⟩
                  · rw [if_neg (by rw [c213]; decide)] at hvv11
                    refine dr_go 12 2 rfl (by simp (maxSteps := 1000000); rfl) ?_
                    refine dr_go 14 2 rfl (by simp (maxSteps := 1000000); rfl) ?_
                    refine dr_go 16 1 rfl (by simp (maxSteps := 1000000); rfl) ?_
                    refine dr_split 16 104 (decide (y9.1.Record < 0)) (by simp) (fun c214 => ?_) (fun c214 => ?_)
                    · rw [if_pos c214] at hvv11
                      refine dr_skip 17 132 [some 105, some 106, some 107, some 108, some 109] rfl rfl (by decide) (by kernel_rfl) (by simp only [skEf, List.map_cons, List.map_nil, List.cons_append, List.nil_append]; rfl) ?_
                      refine dr_go 22 2 rfl (by simp (maxSteps := 1000000); rfl) ?_
                      refine dr_skip 24 132 [some 112, some 113, some 114, some 115, some 116, some 117, some 118] rfl rfl (by decide) (by kernel_rfl) (by simp only [skEf, List.map_cons, List.map_nil, List.cons_append, List.nil_append]; rfl) ?_
                      refine dr_go 31 2 rfl (by simp (maxSteps := 1000000); rfl) ?_
                      refine dr_go 33 2 rfl (by simp (maxSteps := 1000000); rfl) ?_
                      refine dr_skip 35 132 [some 123, some 124, some 125, some 126, some 127, some 128, some 129] rfl rfl (by decide) (by kernel_rfl) (by simp only [skEf, List.map_cons, List.map_nil, List.cons_append, List.nil_append]; rfl) ?_
                      refine dr_go 42 1 rfl (by simp (maxSteps := 1000000); rfl) ?_
                      refine dr_end rfl (tops_nil ?_)
                      cases hvv11
                      exact ⟨_, rfl, wk (by simp [weak_iff])⟩
                    · rw [if_neg (by rw [c214]; decide)] at hvv11
                      refine dr_go 17 2 rfl (by simp (maxSteps := 1000000); rfl) ?_
                      refine dr_go 19 2 rfl (by simp (maxSteps := 1000000); rfl) ?_
                      refine dr_go 21 2 rfl (by simp (maxSteps := 1000000); rfl) ?_
                      refine dr_go 23 1 rfl (by simp (maxSteps := 1000000); rfl) ?_
                      refine dr_split 23 111 (decide (((y2.1).length : Int) ≤ y9.1.Record)) (by simp) (fun c215 => ?_) (fun c215 => ?_)
                      · rw [if_pos c215] at hvv11
                        refine dr_skip 24 132 [some 112, some 113, some 114, some 115, some 116, some 117, some 118] rfl rfl (by decide) (by kernel_rfl) (by simp only [skEf, List.map_cons, List.map_nil, List.cons_append, List.nil_append]; rfl) ?_
                        refine dr_go 31 2 rfl (by simp (maxSteps := 1000000); rfl) ?_
                        refine dr_go 33 2 rfl (by simp (maxSteps := 1000000); rfl) ?_
                        refine dr_skip 35 132 [some 123, some 124, some 125, some 126, some 127, some 128, some 129] rfl rfl (by decide) (by kernel_rfl) (by simp only [skEf, List.map_cons, List.map_nil, List.cons_append, List.nil_append]; rfl) ?_
                        refine dr_go 42 1 rfl (by simp (maxSteps := 1000000); rfl) ?_
                        refine dr_end rfl (tops_nil ?_)
                        cases hvv11
                        exact ⟨_, rfl, wk (by simp [weak_iff])⟩
                      · rw [if_neg (by rw [c215]; decide)] at hvv11
                        replace hvv11 := bnd hvv11; obtain ⟨x12, p39, hvv11⟩ := hvv11
                        replace p39 := idx_some p39
                        have p39' := p39; try simp at p39'
                        refine dr_go 24 2 rfl (by simp (maxSteps := 1000000) [p39, p39']; rfl) ?_
                        refine dr_go 26 2 rfl (by simp (maxSteps := 1000000) [p39, p39']; rfl) ?_
                        refine dr_go 28 2 rfl (by simp (maxSteps := 1000000) [p39, p39']; rfl) ?_
                        refine dr_go 30 2 rfl (by simp (maxSteps := 1000000) [p39, p39']; rfl) ?_
                        refine dr_go 32 2 rfl (by simp (maxSteps := 1000000) [p39, p39']; rfl) ?_
                        refine dr_go 34 1 rfl (by simp (maxSteps := 1000000) [p39, p39']; rfl) ?_
                        refine dr_split 34 122 (!((x12.Known == v10.2.1) && ((x12.Since == v10.2.2.1) && ((x12.Subject == v10.2.2.2.1) && (x12.Value == v10.2.2.2.2))))) (by simp) (fun c216 => ?_) (fun c216 => ?_)
                        · rw [if_pos c216] at hvv11
                          refine dr_skip 35 132 [some 123, some 124, some 125, some 126, some 127, some 128, some 129] rfl rfl (by decide) (by kernel_rfl) (by simp only [skEf, List.map_cons, List.map_nil, List.cons_append, List.nil_append]; rfl) ?_
                          refine dr_go 42 1 rfl (by simp (maxSteps := 1000000); rfl) ?_
                          refine dr_end rfl (tops_nil ?_)
                          cases hvv11
                          exact ⟨_, rfl, wk (by simp [weak_iff])⟩
                        · rw [if_neg (by rw [c216]; decide)] at hvv11
                          refine dr_go 35 2 rfl (by simp (maxSteps := 1000000); rfl) ?_
                          refine dr_go 37 1 rfl (by simp (maxSteps := 1000000); rfl) ?_
                          refine dr_split 37 125 (!y9.2) (by simp) (fun c217 => ?_) (fun c217 => ?_)
                          · rw [if_pos c217] at hvv11
                            refine dr_go 38 2 rfl (by simp (maxSteps := 1000000); rfl) ?_
                            refine dr_go 40 2 rfl (by simp (maxSteps := 1000000); rfl) ?_
                            refine dr_go 42 1 rfl (by simp (maxSteps := 1000000); rfl) ?_
                            refine dr_end rfl (tops_nil ?_)
                            cases hvv11
                            exact ⟨_, rfl, wk (by simp [weak_iff])⟩
                          · rw [if_neg (by rw [c217]; decide)] at hvv11
                            refine dr_skip 38 132 [some 126, some 127, some 128] rfl rfl (by decide) (by kernel_rfl) (by simp only [skEf, List.map_cons, List.map_nil, List.cons_append, List.nil_append]; rfl) ?_
                            refine dr_go 41 2 rfl (by simp (maxSteps := 1000000); rfl) ?_
                            refine dr_end rfl (tops_nil ?_)
                            cases hvv11
                            exact ⟨_, rfl, wk (by simp [weak_iff])⟩
                · rw [if_neg (by rw [c212]; decide)] at hvv11
                  refine dr_skip 6 132 [some 94, some 95, some 96, some 97, some 98, some 99, some 100, some 101, some 102, some 103, some 104, some 105, some 106, some 107, some 108, some 109, some 110, some 111, some 112, some 113, some 114, some 115, some 116, some 117, some 118, some 119] rfl rfl (by decide) (by kernel_rfl) (by simp only [skEf, List.map_cons, List.map_nil, List.cons_append, List.nil_append]; rfl) ?_
                  refine dr_go 32 2 rfl (by simp (maxSteps := 1000000); rfl) ?_
                  refine dr_go 34 2 rfl (by simp (maxSteps := 1000000); rfl) ?_
                  refine dr_go 36 2 rfl (by simp (maxSteps := 1000000); rfl) ?_
                  refine dr_split 37 125 (!y9.2) (by simp) (fun c218 => ?_) (fun c218 => ?_)
                  · rw [if_pos c218] at hvv11
                    refine dr_go 38 2 rfl (by simp (maxSteps := 1000000); rfl) ?_
                    refine dr_go 40 2 rfl (by simp (maxSteps := 1000000); rfl) ?_
                    refine dr_go 42 1 rfl (by simp (maxSteps := 1000000); rfl) ?_
                    refine dr_end rfl (tops_nil ?_)
                    cases hvv11
                    exact ⟨_, rfl, wk (by simp [weak_iff])⟩
                  · rw [if_neg (by rw [c218]; decide)] at hvv11
                    refine dr_skip 38 132 [some 126, some 127, some 128] rfl rfl (by decide) (by kernel_rfl) (by simp only [skEf, List.map_cons, List.map_nil, List.cons_append, List.nil_append]; rfl) ?_
                    refine dr_go 41 2 rfl (by simp (maxSteps := 1000000); rfl) ?_
                    refine dr_end rfl (tops_nil ?_)
                    cases hvv11
                    exact ⟨_, rfl, wk (by simp [weak_iff])⟩
          · refine tr_block (tr_iter (fun s13 : Bool × Int × Int × Int × Int × Int => ({ nt := 132, env := [(4, .d (.slice (rowsF api_Record_row y2.1))), (5, .d (.int .i64 y3.1)), (6, .d (.int .i64 y4.1)), (7, .d (.slice (rowsF api_Record_row y5.1))), (9, .d (.int .i64 s8)), (10, .ptr 10 0), (11, .d (.bool y9.2)), (12, .d (.bool s13.1)), (13, .ptr 13 0), (50, .d (.slice (rowsF api_Record_row y5.1))), (51, .d (.int .i64 ((y5.1).length : Int))), (52, .d (.int .i64 s13.2.1))], box := [(10, [.d (.int .i64 y9.1.Value), .d (.int .i64 y9.1.Record)]), (13, [.d (.int .i64 s13.2.2.1), .d (.int .i64 s13.2.2.2.1), .d (.int .i64 s13.2.2.2.2.1), .d (.int .i64 s13.2.2.2.2.2)])], vec := [] } : St)) hI2 (wk (by simp [weak_iff])) fun G2 s13 o2 h2 hg2 he2 => ?_)
            unfold law42_LedgerLine_l1 at h2
            refine kr [4, 5, 6, 7, 9, 10, 11, 12, 13, 50, 51, 52, 53] (by simp; rfl) ?_
            refine tr_seq ?_
            refine tr_cond (b := (decide (s13.2.1 < ((y5.1).length : Int)))) (by simp) (fun c219 => ?_) (fun c219 => ?_)
            · rw [if_pos c219] at h2
              refine tr_skip ?_
              refine tr_seq ?_
              refine tr_block ?_
              replace h2 := bnd h2; obtain ⟨x14, p40, h2⟩ := h2
              replace p40 := idx_some p40
              have p40' := p40; try simp at p40'
              refine kr [4, 5, 6, 7, 9, 10, 11, 12, 13, 14, 15, 50, 51, 52] (by simp [p40, p40']; rfl) ?_
              refine tr_seq ?_
              replace h2 := bnd h2; obtain ⟨v15, hvv15, h2⟩ := h2
              refine sjv (fun v15_ : Bool => ({ nt := 132, env := [(4, .d (.slice (rowsF api_Record_row y2.1))), (5, .d (.int .i64 y3.1)), (6, .d (.int .i64 y4.1)), (7, .d (.slice (rowsF api_Record_row y5.1))), (9, .d (.int .i64 s8)), (10, .ptr 10 0), (11, .d (.bool y9.2)), (12, .d (.bool s13.1)), (13, .ptr 13 0), (15, .ptr 15 0), (50, .d (.slice (rowsF api_Record_row y5.1))), (51, .d (.int .i64 ((y5.1).length : Int))), (52, .d (.int .i64 s13.2.1)), (81, .d (.bool v15_))], box := [(10, [.d (.int .i64 y9.1.Value), .d (.int .i64 y9.1.Record)]), (13, [.d (.int .i64 s13.2.2.1), .d (.int .i64 s13.2.2.2.1), .d (.int .i64 s13.2.2.2.2.1), .d (.int .i64 s13.2.2.2.2.2)]), (15, [.d (.int .i64 x14.Known), .d (.int .i64 x14.Since), .d (.int .i64 x14.Subject), .d (.int .i64 x14.Value)])], vec := [] } : St)) (fun v15_ => v15 = v15_) (fun v15_ e => ?_) ?_
              · subst e
                refine tr_cond (b := v15) (by simp) (fun c244 => ?_) (fun c244 => ?_)
                · rw [if_pos c244] at h2
                  refine kr [2] (by simp; rfl) ?_
                  have k2 := he2 _ (Option.some.inj h2)
                  subst k2
                  dsimp only at h1
                  have k1 := he1 _ (Option.some.inj h1)
                  subst k1
                  dsimp only at h0
                  cases h0
                  exact tr_ret ⟨[], by simp, rfl, by simp⟩
                · rw [if_neg (by rw [c244]; decide)] at h2
                  refine tr_skip ?_
                  refine kr [4, 5, 6, 7, 9, 10, 11, 12, 13, 15, 50, 51, 52, 85] (by simp; rfl) ?_
                  refine tr_cond (b := (decide (x14.Since ≤ s8))) (by simp) (fun c245 => ?_) (fun c245 => ?_)
                  · rw [if_pos c245] at h2
                    refine lr (by simp; rfl) ?_
                    refine lr (by simp; rfl) ?_
                    exact ⟨_, hg2 _ (Option.some.inj h2), wk (by simp [weak_iff])⟩
                  · rw [if_neg (by rw [c245]; decide)] at h2
                    refine tr_skip ?_
                    refine lr (by simp; rfl) ?_
                    exact ⟨_, hg2 _ (Option.some.inj h2), wk (by simp [weak_iff])⟩
              · refine kd1 [[], [0], [1], [2], [2], [2, 4], [2, 3, 5], [2, 6], [2, 7], [2], [2, 9], [2, 8, 10], [2, 11], [12], [13], [13, 14], [13], [13, 15, 16], [13, 17], [18], [19], [19, 20], [19], [19, 21, 22], [19, 23]] [] [] none [] 25 fol (by decide +kernel) (by simp) ?_
                refine dr_go 0 2 rfl (by simp (maxSteps := 1000000); rfl) ?_
                refine dr_go 2 1 rfl (by simp (maxSteps := 1000000); rfl) ?_
                refine dr_split 2 59 (decide (0 < s13.2.1)) (by simp) (fun c254 => ?_) (fun c254 => ?_)
                · rw [if_pos c254] at hvv15
                  replace hvv15 := bnd hvv15; obtain ⟨x16, p49, hvv15⟩ := hvv15
                  replace p49 := idx_some p49
                  have p49' := p49; try simp at p49'
                  refine dr_go 3 2 rfl (by simp (maxSteps := 1000000) [p49, p49']; rfl) ?_
                  refine dr_go 5 2 rfl (by simp (maxSteps := 1000000) [p49, p49']; rfl) ?_
                  refine dr_go 7 2 rfl (by simp (maxSteps := 1000000) [p49, p49']; rfl) ?_
                  refine dr_go 9 2 rfl (by simp (maxSteps := 1000000) [p49, p49']; rfl) ?_
                  refine dr_go 11 2 rfl (by simp (maxSteps := 1000000) [p49, p49']; rfl) ?_
                  refine dr_go 13 1 rfl (by simp (maxSteps := 1000000) [p49, p49']; rfl) ?_
                  refine dr_split 13 70 (decide (x14.Since ≤ x16.Since)) (by simp) (fun c255 => ?_) (fun c255 => ?_)
                  · rw [if_pos c255] at hvv15
                    refine dr_skip 14 132 [some 71, some 72, some 73, some 74] rfl rfl (by decide) (by kernel_rfl) (by simp only [skEf, List.map_cons, List.map_nil, List.cons_append, List.nil_append]; rfl) ?_
                    refine dr_go 18 2 rfl (by simp (maxSteps := 1000000); rfl) ?_
                    refine dr_skip 20 132 [some 77, some 78, some 79, some 80] rfl rfl (by decide) (by kernel_rfl) (by simp only [skEf, List.map_cons, List.map_nil, List.cons_append, List.nil_append]; rfl) ?_
                    refine dr_go 24 1 rfl (by simp (maxSteps := 1000000); rfl) ?_
                    refine dr_end rfl (tops_nil ?_)
                    cases hvv15
                    exact ⟨_, rfl, wk (by simp [weak_iff])⟩
                  · rw [if_neg (by rw [c255]; decide)] at hvv15
                    refine dr_go 14 2 rfl (by simp (maxSteps := 1000000); rfl) ?_
                    refine dr_go 16 2 rfl (by simp (maxSteps := 1000000); rfl) ?_
                    refine dr_go 18 2 rfl (by simp (maxSteps := 1000000); rfl) ?_
                    refine dr_split 19 76 (x14.Subject != y4.1) (by simp) (fun c256 => ?_) (fun c256 => ?_)
                    · rw [if_pos c256] at hvv15
                      refine dr_skip 20 132 [some 77, some 78, some 79, some 80] rfl rfl (by decide) (by kernel_rfl) (by simp only [skEf, List.map_cons, List.map_nil, List.cons_append, List.nil_append]; rfl) ?_
                      refine dr_go 24 1 rfl (by simp (maxSteps := 1000000); rfl) ?_
                      refine dr_end rfl (tops_nil ?_)
                      cases hvv15
                      exact ⟨_, rfl, wk (by simp [weak_iff])⟩
                    · rw [if_neg (by rw [c256]; decide)] at hvv15
                      refine dr_go 20 2 rfl (by simp (maxSteps := 1000000); rfl) ?_
                      refine dr_go 22 2 rfl (by simp (maxSteps := 1000000); rfl) ?_
                      refine dr_go 24 1 rfl (by simp (maxSteps := 1000000); rfl) ?_
                      refine dr_end rfl (tops_nil ?_)
                      cases hvv15
                      exact ⟨_, rfl, wk (by simp [weak_iff])⟩
                · rw [if_neg (by rw [c254]; decide)] at hvv15
                  refine dr_skip 3 132 [some 60, some 61, some 62, some 63, some 64, some 65, some 66, some 67, some 68] rfl rfl (by decide) (by kernel_rfl) (by simp only [skEf, List.map_cons, List.map_nil, List.cons_append, List.nil_append]; rfl) ?_
                  refine dr_go 12 2 rfl (by simp (maxSteps := 1000000); rfl) ?_
                  refine dr_go 14 2 rfl (by simp (maxSteps := 1000000); rfl) ?_
                  refine dr_go 16 2 rfl (by simp (maxSteps := 1000000); rfl) ?_
                  refine dr_go 18 2 rfl (by simp (maxSteps := 1000000); rfl) ?_
                  refine dr_split 19 76 (x14.Subject != y4.1) (by simp) (fun c257 => ?_) (fun c257 => ?_)
                  · rw [if_pos c257] at hvv15
                    refine dr_skip 20 132 [some 77, some 78, some 79, some 80] rfl rfl (by decide) (by kernel_rfl) (by simp only [skEf, List.map_cons, List.map_nil, List.cons_append, List.nil_append]; rfl) ?_
                    refine dr_go 24 1 rfl (by simp (maxSteps := 1000000); rfl) ?_
                    refine dr_end rfl (tops_nil ?_)
                    cases hvv15
                    exact ⟨_, rfl, wk (by simp [weak_iff])⟩
                  · rw [if_neg (by rw [c257]; decide)] at hvv15
                    refine dr_go 20 2 rfl (by simp (maxSteps := 1000000); rfl) ?_
                    refine dr_go 22 2 rfl (by simp (maxSteps := 1000000); rfl) ?_
                    refine dr_go 24 1 rfl (by simp (maxSteps := 1000000); rfl) ?_
                    refine dr_end rfl (tops_nil ?_)
                    cases hvv15
                    exact ⟨_, rfl, wk (by simp [weak_iff])⟩
            · rw [if_neg (by rw [c219]; decide)] at h2
              refine tr_exit ?_
              exact ⟨_, he2 _ (Option.some.inj h2), wk (by simp [weak_iff])⟩
        · rw [if_neg (by rw [c115]; decide)] at h1
          refine tr_exit ?_
          exact ⟨_, he1 _ (Option.some.inj h1), wk (by simp [weak_iff])⟩
end Go.Vl
