/- Walks: each function of the given program computes what its mirror says. Conditions: none. -/
import Derived.Test.YtjfpmakolbgnhaaUw2
set_option linter.unusedSimpArgs false
set_option linter.unusedVariables false
namespace Go.Vl
open Go Go.Proofs
set_option maxHeartbeats 1000000 in
theorem make_FitFleet_ok {a0 : make_Tape} {a1 : Int} {r : api_Fleet × make_Tape} (h0 : make_FitFleet a0 a1 = some r) : FnOK Try.prog 15 [make_Tape_av a0] [.ptr (InO 0) 0, .d (.int .i64 a1)] (.agg (api_Fleet_av r.1)) [make_Tape_av r.2] := by
  unfold make_FitFleet at h0
  refine fn_ok (nt := 48) (rs := [.cell 4 29]) Try.func15 rfl Try.ntmps15 rfl (by simp) (by decide) rfl fun K => ?_
  refine kr [0, 1, 4] (by simp; rfl) ?_
  refine kc ?_
  refine ko [4, 8, 9] 2 (by simp; rfl) ?_
  replace h0 := bnd h0; obtain ⟨y1, hy1, h0⟩ := h0
  refine kcallV [4, 10] [1000000] [] [600040] (make_Fleet_own1_ok hy1) rfl rfl rfl Try.call9 (by simp) (by simp; rfl) ?_
  refine ko [4, 5] 2 (by simp; rfl) ?_
  refine tops_nil ?_
  refine tr_seq ?_
  refine kr [4, 5, 12, 13, 14] (by simp; rfl) ?_
  replace h0 := bnd h0; obtain ⟨e1, hI1, h0⟩ := h0
  refine tjv (fun v2 : (List api_Consumer) => ({ nt := 48, env := [(4, .ptr 4 0), (5, .ptr 5 0)], box := [(4, [.d (.int .i64 0), .nilS]), (5, [.d (.int .i64 y1.1.Slots), .vec 600040]), (1000000, [.d (.slice (rowsF (iRow .i64) y1.2.L)), .d (.int .i64 y1.2.at_)])], vec := [(600040, ⟨65, 3, rowsF api_Consumer_row v2⟩)] } : St)) (fun v2 => v2 = e1) (fun v2 hI1e _ W1 => ?_) ?_
  · subst hI1e
    refine tr_wk W1 ?_
    refine kr [4] (by simp; rfl) ?_
    cases h0
    exact tr_ret ⟨[600040], by simp, rfl, by simp⟩
  · refine tr_block (tr_iter (fun s3 : Int × (List api_Consumer) => ({ nt := 48, env := [(4, .ptr 4 0), (5, .ptr 5 0), (12, .vec 600040), (13, .d (.int .i64 ((y1.1.Consumers).length : Int))), (14, .d (.int .i64 s3.1))], box := [(4, [.d (.int .i64 0), .nilS]), (5, [.d (.int .i64 y1.1.Slots), .vec 600040]), (1000000, [.d (.slice (rowsF (iRow .i64) y1.2.L)), .d (.int .i64 y1.2.at_)])], vec := [(600040, ⟨65, 3, rowsF api_Consumer_row s3.2⟩)] } : St)) hI1 (wk (by simp [weak_iff])) fun G1 s3 o1 h1 hg1 he1 => ?_)
    unfold make_FitFleet_l0 at h1
    refine kr [4, 5, 12, 13, 14, 15] (by simp; rfl) ?_
    refine tr_seq ?_
    refine tr_cond (b := (decide (s3.1 < ((y1.1.Consumers).length : Int)))) (by simp) (fun c13 => ?_) (fun c13 => ?_)
    · rw [if_pos c13] at h1
      refine tr_skip ?_
      refine tr_seq ?_
      refine tr_block ?_
      replace h1 := bnd h1; obtain ⟨_, p31, h1⟩ := h1
      replace p31 := ck_some p31
      have p31' := p31; try simp at p31'
      have p31o : s3.1 < (((s3.2)).length : Int) := by omega
      replace h1 := bnd h1; obtain ⟨x4, p32, h1⟩ := h1
      replace p32 := idx_some p32
      have p32' := p32; try simp at p32'
      refine kr [4, 5, 6, 7, 12, 13, 14] (by simp [-getElem?_pos, List.getElem?_cons_zero, List.getElem?_cons_succ, p31, p31o, p32, p31', p32']; rfl) ?_
      refine kc ?_
      refine ko [4, 5, 6, 12, 13, 14, 19, 21] 3 (by simp; rfl) ?_
      replace h1 := bnd h1; obtain ⟨y5, hy5, h1⟩ := h1
      refine kcallv [4, 5, 6, 12, 13, 14, 22] (ref32_Units_ok hy5) rfl rfl rfl Try.call36 (by simp) (by simp; rfl) ?_
      refine ko [4, 5, 6, 12, 13, 14, 24] 2 (by simp; rfl) ?_
      refine tops_nil ?_
      refine tr_cond (b := (((y5).length : Int) == 1)) (by simp) (fun c14 => ?_) (fun c14 => ?_)
      · rw [if_pos c14] at h1
        replace h1 := bnd h1; obtain ⟨_, p33, h1⟩ := h1
        replace p33 := ck_some p33
        have p33' := p33; try simp at p33'
        have p33o : s3.1 < (((s3.2)).length : Int) := by omega
        refine kr [4, 5, 6, 12, 13, 14] (by simp [-getElem?_pos, List.getElem?_cons_zero, List.getElem?_cons_succ, p33, p33o, p32, (List.getElem?_eq_some_iff.1 p32.2).1, p33', p32']; rfl) ?_
        replace h1 := bnd h1; obtain ⟨v6, hvv6, h1⟩ := h1
        refine tjv (fun v6_ : (List api_Consumer) => ({ nt := 48, env := [(4, .ptr 4 0), (5, .ptr 5 0), (12, .vec 600040), (13, .d (.int .i64 ((y1.1.Consumers).length : Int))), (14, .d (.int .i64 s3.1))], box := [(4, [.d (.int .i64 0), .nilS]), (5, [.d (.int .i64 y1.1.Slots), .vec 600040]), (1000000, [.d (.slice (rowsF (iRow .i64) y1.2.L)), .d (.int .i64 y1.2.at_)])], vec := [(600040, ⟨65, 3, rowsF api_Consumer_row v6_⟩)] } : St)) (fun v6_ => v6 = v6_) (fun v6_ e _ Wv6 => ?_) ?_
        · subst e
          refine tr_wk Wv6 ?_
          refine lr (by simp; rfl) ?_
          exact ⟨_, hg1 _ (Option.some.inj h1), wk (by simp [weak_iff])⟩
        · refine kd1 [[], [0], [], [], [3], [], [4, 5], [6], [7], [8], [9], [9, 10], [9, 11], [9, 12], [1, 2], [14], [0, 1, 2, 3, 4, 5, 6, 7, 8, 9, 10, 11, 12, 13, 14, 15]] [] [] none [] 16 fol (by decide +kernel) (by simp) ?_
          replace hvv6 := bnd hvv6; obtain ⟨_, p67, hvv6⟩ := hvv6
          replace p67 := ck_some p67
          have p67' := p67; try simp at p67'
          have p67o : s3.1 < ((((s3.2.set (Int.toNat s3.1) (⟨x4.Pool, x4.Dual, true⟩ : api_Consumer)))).length : Int) := by omega
          refine dr_go 0 2 rfl (by simp (maxSteps := 1000000) [-getElem?_pos, List.getElem?_cons_zero, List.getElem?_cons_succ, p67, p67o, p32, (List.getElem?_eq_some_iff.1 p32.2).1, p67', p32']; rfl) ?_
          refine dr_go 2 2 rfl (by simp (maxSteps := 1000000) [-getElem?_pos, List.getElem?_cons_zero, List.getElem?_cons_succ, p67, p67o, p32, (List.getElem?_eq_some_iff.1 p32.2).1, p67', p32']; rfl) ?_
          refine dr_go 4 2 rfl (by simp (maxSteps := 1000000) [-getElem?_pos, List.getElem?_cons_zero, List.getElem?_cons_succ, p67, p67o, p32, (List.getElem?_eq_some_iff.1 p32.2).1, p67', p32']; rfl) ?_
          refine dr_go 6 2 rfl (by simp (maxSteps := 1000000) [-getElem?_pos, List.getElem?_cons_zero, List.getElem?_cons_succ, p67, p67o, p32, (List.getElem?_eq_some_iff.1 p32.2).1, p67', p32']; rfl) ?_
          refine dr_go 8 2 rfl (by simp (maxSteps := 1000000) [-getElem?_pos, List.getElem?_cons_zero, List.getElem?_cons_succ, p67, p67o, p32, (List.getElem?_eq_some_iff.1 p32.2).1, p67', p32']; rfl) ?_
          refine dr_split 9 39 x4.Dual (by simp) (fun c26 => ?_) (fun c26 => ?_)
          · rw [if_pos c26] at hvv6
            refine dr_skip 10 48 [some 40, some 41, some 42] rfl rfl (by decide) (by kernel_rfl) (by simp only [skEf, List.map_cons, List.map_nil, List.cons_append, List.nil_append]; rfl) ?_
            replace hvv6 := bnd hvv6; obtain ⟨_, p68, hvv6⟩ := hvv6
            replace p68 := ck_some p68
            have p68' := p68; try simp at p68'
            have p68o : s3.1 < ((((s3.2.set (Int.toNat s3.1) (⟨x4.Pool, x4.Dual, true⟩ : api_Consumer)))).length : Int) := by omega
            refine dr_go 13 2 rfl (by simp (maxSteps := 1000000) [p68, p68o, p68']; rfl) ?_
            refine dr_go 15 1 rfl (by simp (maxSteps := 1000000) [p68, p68o, p68']; rfl) ?_
            refine dr_end rfl ?_
            refine ko [4, 5, 12, 13, 14, 40, 41, 42] 1 (by simp [-getElem?_pos, List.getElem?_cons_zero, List.getElem?_cons_succ, p32, (List.getElem?_eq_some_iff.1 p32.2).1, p32']; rfl) ?_
            refine tops_nil ?_
            cases hvv6
            exact ⟨_, rfl, wk (by simp [weak_iff])⟩
          · rw [if_neg (by rw [c26]; decide)] at hvv6
            replace hvv6 := bnd hvv6; obtain ⟨_, p69, hvv6⟩ := hvv6
            replace p69 := ck_some p69
            have p69' := p69; try simp at p69'
            have p69o : s3.1 < ((((s3.2.set (Int.toNat s3.1) (⟨x4.Pool, x4.Dual, true⟩ : api_Consumer)))).length : Int) := by omega
            refine dr_go 10 2 rfl (by simp (maxSteps := 1000000) [p69, p69o, p69']; rfl) ?_
            refine dr_go 12 2 rfl (by simp (maxSteps := 1000000) [p69, p69o, p69']; rfl) ?_
            refine dr_go 14 2 rfl (by simp (maxSteps := 1000000) [p69, p69o, p69']; rfl) ?_
            refine dr_end rfl ?_
            refine ko [4, 5, 12, 13, 14, 40, 41, 42] 1 (by simp [-getElem?_pos, List.getElem?_cons_zero, List.getElem?_cons_succ, p32, (List.getElem?_eq_some_iff.1 p32.2).1, p32']; rfl) ?_
            refine tops_nil ?_
            cases hvv6
            exact ⟨_, rfl, wk (by simp [weak_iff])⟩
      · rw [if_neg (by rw [c14]; decide)] at h1
        refine tr_skip ?_
        refine lr (by simp; rfl) ?_
        exact ⟨_, hg1 _ (Option.some.inj h1), wk (by simp [weak_iff])⟩
    · rw [if_neg (by rw [c13]; decide)] at h1
      refine tr_exit ?_
      exact ⟨_, he1 _ (Option.some.inj h1), wk (by simp [weak_iff])⟩
set_option maxHeartbeats 1000000 in
theorem make_Held_ok {a0 : make_Tape} {a1 : api_Fleet} {r : api_Rotation × make_Tape} (h0 : make_Held a0 a1 = some r) : FnOK Try.prog 16 [make_Tape_av a0] [.ptr (InO 0) 0, .agg (api_Fleet_av a1)] (.agg (api_Rotation_av r.1)) [make_Tape_av r.2] := by
  unfold make_Held at h0
  refine fn_ok (nt := 41) (rs := [.cell 4 33]) Try.func16 rfl Try.ntmps16 rfl (by simp) (by decide) rfl fun K => ?_
  refine kr [0, 3, 4] (by simp; rfl) ?_
  refine kc ?_
  refine ko [0, 3, 4, 10] 1 (by simp; rfl) ?_
  replace h0 := bnd h0; obtain ⟨y1, hy1, h0⟩ := h0
  refine kcall [0, 3, 4, 11] [] (ref32_Start_ok hy1) rfl rfl rfl Try.call22 (by simp) (by simp; rfl) ?_
  refine ko [0, 3, 4, 5] 6 (by simp; rfl) ?_
  refine tops_nil ?_
  refine tr_seq ?_
  refine kc ?_
  refine ko [0, 3, 4, 5, 14] 1 (by simp; rfl) ?_
  replace h0 := bnd h0; obtain ⟨y2, hy2, h0⟩ := h0
  refine kcall [0, 3, 4, 5, 15] [1000000] (make_Tape_Next_ok hy2) rfl rfl rfl Try.call14 (by simp) (by simp; rfl) ?_
  refine ko [0, 3, 4, 5, 7] 1 (by simp; rfl) ?_
  refine tops_nil ?_
  replace h0 := bnd h0; obtain ⟨e1, hI1, h0⟩ := h0
  refine tjv (fun v3 : (List Int) × Int × Int × Int × (List api_Unit) => ({ nt := 41, env := [(4, .ptr 4 0), (5, .ptr 5 0)], box := [(4, [.d (.int .i64 0), .d (.int .i64 0), .nilS]), (5, [.d (.int .i64 v3.2.2.1), .d (.int .i64 v3.2.2.2.1), .d (.slice (rowsF api_Unit_row v3.2.2.2.2))]), (1000000, [.d (.slice (rowsF (iRow .i64) v3.1)), .d (.int .i64 v3.2.1)])], vec := [] } : St)) (fun v3 => .inl v3 = e1) (fun v3 hI1e _ W1 => ?_) ?_
  · subst hI1e
    dsimp only at h0
    refine tr_wk W1 ?_
    refine kr [4] (by simp; rfl) ?_
    cases h0
    exact tr_ret ⟨[], by simp, rfl, by simp⟩
  · refine tr_block (tr_iter (fun s4 : Int × (List Int) × Int × Int × Int × (List api_Unit) => ({ nt := 41, env := [(0, .ptr 1000000 0), (3, .ptr 3 0), (4, .ptr 4 0), (5, .ptr 5 0), (7, .d (.int .i64 s4.1))], box := [(3, [.d (.int .i64 a1.Slots), .d (.slice (rowsF api_Consumer_row a1.Consumers))]), (4, [.d (.int .i64 0), .d (.int .i64 0), .nilS]), (5, [.d (.int .i64 s4.2.2.2.1), .d (.int .i64 s4.2.2.2.2.1), .d (.slice (rowsF api_Unit_row s4.2.2.2.2.2))]), (1000000, [.d (.slice (rowsF (iRow .i64) s4.2.1)), .d (.int .i64 s4.2.2.1)])], vec := [] } : St)) hI1 (wk (by simp [weak_iff])) fun G1 s4 o1 h1 hg1 he1 => ?_)
    unfold make_Held_l0 at h1
    refine tr_seq ?_
    refine kr [0, 3, 4, 5, 7, 17] (by simp; rfl) ?_
    refine tr_cond (b := (decide (0 < s4.1))) (by simp) (fun c5 => ?_) (fun c5 => ?_)
    · rw [if_pos c5] at h1
      refine tr_skip ?_
      refine tr_seq ?_
      refine tr_block ?_
      refine kc ?_
      refine ko [0, 3, 4, 5, 7, 20, 21] 2 (by simp; rfl) ?_
      replace h1 := bnd h1; obtain ⟨y5, hy5, h1⟩ := h1
      refine kcall [0, 3, 4, 5, 7, 22] [] (ref33_Choices_ok hy5) rfl rfl rfl Try.call12 (by simp) (by simp; rfl) ?_
      refine ko [0, 3, 4, 5, 7, 8] 1 (by simp; rfl) ?_
      refine tops_nil ?_
      refine tr_seq ?_
      refine kr [0, 3, 4, 5, 7, 8, 25] (by simp; rfl) ?_
      refine tr_cond (b := (((y5).length : Int) == 0)) (by simp) (fun c6 => ?_) (fun c6 => ?_)
      · rw [if_pos c6] at h1
        refine kr [4] (by simp; rfl) ?_
        have k1 := he1 _ (Option.some.inj h1)
        subst k1
        dsimp only at h0
        cases h0
        exact tr_ret ⟨[], by simp, rfl, by simp⟩
      · rw [if_neg (by rw [c6]; decide)] at h1
        refine tr_skip ?_
        refine kd1 [[], [], [], [], [], [4], [3, 5], [2, 5, 6], [5, 7], [0, 1, 5, 8], [5, 9], [5, 10], [5, 10], [1, 5, 11]] [6, 13] [(5, [13]), (1000000, [6])] none [] 14 fol (by decide +kernel) (by simp) ?_
        refine dr_go 0 2 rfl (by simp (maxSteps := 1000000); rfl) ?_
        refine dr_go 2 2 rfl (by simp (maxSteps := 1000000); rfl) ?_
        refine dr_go 4 2 rfl (by simp (maxSteps := 1000000); rfl) ?_
        replace h1 := bnd h1; obtain ⟨y6, hy6, h1⟩ := h1
        refine dr_call 6 [1000000] (make_Tape_Next_ok hy6) rfl rfl rfl rfl rfl Try.call14 (by simp) ?_
        replace h1 := bnd h1; obtain ⟨x7, p9, h1⟩ := h1
        replace p9 := idx_some p9
        have p9' := p9; try simp at p9'
        refine dr_go 7 2 rfl (by simp (maxSteps := 1000000) [p9, p9']; rfl) ?_
        replace h1 := bnd h1; obtain ⟨y8, hy8, h1⟩ := h1
        refine dr_call 9 [] (ref33_Apply_ok hy8) rfl rfl rfl rfl rfl Try.call13 (by simp) ?_
        refine dr_go 10 2 rfl (by simp (maxSteps := 1000000); rfl) ?_
        refine dr_go 12 2 rfl (by simp (maxSteps := 1000000); rfl) ?_
        refine dr_end rfl (tops_nil ?_)
        refine lr (by simp; rfl) ?_
        exact ⟨_, hg1 _ (Option.some.inj h1), wk (by simp [weak_iff])⟩
    · rw [if_neg (by rw [c5]; decide)] at h1
      refine tr_exit ?_
      exact ⟨_, he1 _ (Option.some.inj h1), wk (by simp [weak_iff])⟩
set_option maxHeartbeats 1000000 in
theorem law34_SearchSteps_ok {a0 : List Int} {r : Bool} (h0 : law34_SearchSteps a0 = some r) : FnOK Try.prog 4 [] [.d (.slice (rowsF (iRow .i64) a0))] (.d (.bool r)) [] := by
  unfold law34_SearchSteps at h0
  refine fn_ok (nt := 148) (rs := [.tmp 2]) Try.func4 rfl Try.ntmps4 rfl (by simp) (by decide) rfl fun K => ?_
  refine kr [0] (by simp; rfl) ?_
  refine tr_seq ?_
  refine kr [0, 20] (by simp; rfl) ?_
  refine tr_cond (b := (decide (200 < ((a0).length : Int)))) (by simp) (fun c1 => ?_) (fun c1 => ?_)
  · rw [if_pos c1] at h0
    refine kc ?_
    replace h0 := bnd h0; obtain ⟨y1, hy1, h0⟩ := h0
    refine kcall [21] [] (law34_awake_ok hy1) rfl rfl rfl Try.call8 (by simp) (by simp; rfl) ?_
    refine ko [2] 1 (by simp; rfl) ?_
    refine tops_nil ?_
    cases h0
    exact tr_ret ⟨[], by simp, rfl, by simp⟩
  · rw [if_neg (by rw [c1]; decide)] at h0
    refine tr_skip ?_
    refine kr [3] (by simp; rfl) ?_
    refine kc ?_
    refine ko [3, 25] 1 (by simp; rfl) ?_
    replace h0 := bnd h0; obtain ⟨y2, hy2, h0⟩ := h0
    refine kcall [3, 26] [24] (make_FitFleet_ok hy2) rfl rfl rfl Try.call15 (by simp) (by simp; rfl) ?_
    refine ko [3, 4] 2 (by simp; rfl) ?_
    refine tops_nil ?_
    refine kc ?_
    refine ko [3, 4, 27, 28] 2 (by simp; rfl) ?_
    replace h0 := bnd h0; obtain ⟨y3, hy3, h0⟩ := h0
    refine kcall [3, 4, 29] [24] (make_Held_ok hy3) rfl rfl rfl Try.call16 (by simp) (by simp; rfl) ?_
    refine ko [3, 4, 5] 2 (by simp; rfl) ?_
    refine tops_nil ?_
    refine kc ?_
    refine ko [3, 4, 5, 31, 32] 2 (by simp; rfl) ?_
    replace h0 := bnd h0; obtain ⟨y4, hy4, h0⟩ := h0
    refine kcall [3, 4, 5, 33] [] (search_Distance_ok hy4) rfl rfl rfl Try.call17 (by simp) (by simp; rfl) ?_
    refine ko [3, 4, 5, 6, 7, 8] 7 (by simp; rfl) ?_
    refine tops_nil ?_
    refine kc ?_
    refine ko [3, 4, 5, 6, 7, 8, 38, 39] 2 (by simp; rfl) ?_
    replace h0 := bnd h0; obtain ⟨y5, hy5, h0⟩ := h0
    refine kcall [3, 4, 5, 6, 7, 8, 40] [] (search_Shortest_ok hy5) rfl rfl rfl Try.call18 (by simp) (by simp; rfl) ?_
    refine ko [3, 4, 5, 6, 7, 8, 9, 10, 11] 7 (by simp; rfl) ?_
    refine tops_nil ?_
    refine tr_seq ?_
    replace h0 := bnd h0; obtain ⟨v6, hvv6, h0⟩ := h0
    refine sjv (fun v6_ : Bool => ({ nt := 148, env := [(3, .ptr 24 0), (4, .ptr 4 0), (5, .ptr 5 0), (6, .d (.int .i64 y4.1)), (7, .d (.bool y4.2.1)), (9, .d (.slice (rowsF api_Step_row y5.1))), (60, .d (.bool v6_))], box := [(4, [.d (.int .i64 y2.1.Slots), .d (.slice (rowsF api_Consumer_row y2.1.Consumers))]), (5, [.d (.int .i64 y3.1.Known), .d (.int .i64 y3.1.Valid), .d (.slice (rowsF api_Unit_row y3.1.Units))]), (24, [.d (.slice (rowsF (iRow .i64) y3.2.L)), .d (.int .i64 y3.2.at_)])], vec := [] } : St)) (fun v6_ => v6 = v6_) (fun v6_ e => ?_) ?_
    · subst e
      refine tr_cond (b := v6) (by simp) (fun c8 => ?_) (fun c8 => ?_)
      · rw [if_pos c8] at h0
        refine kr [2] (by simp; rfl) ?_
        cases h0
        exact tr_ret ⟨[], by simp, rfl, by simp⟩
      · rw [if_neg (by rw [c8]; decide)] at h0
        refine tr_skip ?_
        refine tr_seq ?_
        refine kr [3, 4, 5, 6, 7, 9, 62] (by simp; rfl) ?_
        refine tr_cond (b := (y4.1 == 0)) (by simp) (fun c9 => ?_) (fun c9 => ?_)
        · rw [if_pos c9] at h0
          replace h0 := bnd h0; obtain ⟨v7, hvv7, h0⟩ := h0
          refine sjv (fun v7_ : Bool => ({ nt := 148, env := [(2, .d (.bool v7_))], box := [], vec := [] } : St)) (fun v7_ => v7 = v7_) (fun v7_ e => ?_) ?_
          · subst e
            cases h0
            exact tr_ret ⟨[], by simp, rfl, by simp⟩
          · refine kc1 ?_
            refine ko [63, 64, 65] 3 (by simp; rfl) ?_
            replace hvv7 := bnd hvv7; obtain ⟨y8, hy8, hvv7⟩ := hvv7
            refine kcall [63, 66] [] (ref32_Ended_ok hy8) rfl rfl rfl Try.call19 (by simp) (by simp; rfl) ?_
            refine ko [68] 2 (by simp; rfl) ?_
            refine tops_split 68 (y4.2.1 == y8) (by simp) (fun c12 => ?_) (fun c12 => ?_)
            · rw [if_pos c12] at hvv7
              replace hvv7 := bnd hvv7; obtain ⟨y9, hy9, hvv7⟩ := hvv7
              refine kcall [68, 69] [] (law34_awake_ok hy9) rfl rfl rfl Try.call8 (by simp) (by simp; rfl) ?_
              refine ko [2] 2 (by simp; rfl) ?_
              refine tops_nil ?_
              cases hvv7
              exact ⟨_, rfl, wk (by simp [weak_iff])⟩
            · rw [if_neg (by rw [c12]; decide)] at hvv7
              refine ko [2] 3 (by simp; rfl) ?_
              refine tops_nil ?_
              cases hvv7
              exact ⟨_, rfl, wk (by simp [weak_iff])⟩
        · rw [if_neg (by rw [c9]; decide)] at h0
          refine tr_skip ?_
          refine kd [[], [], [], [2], [3], [0, 1, 4], [5], [6], [6], [], [7, 9], [8, 9]] [9, 10] [(12, [9, 10])] none [] 12 fol (by decide +kernel) (by simp) ?_
          replace h0 := bnd h0; obtain ⟨x10, p3, h0⟩ := h0
          replace p3 := idx_some p3
          have p3' := p3; try simp at p3'
          refine dr_go 0 2 rfl (by simp (maxSteps := 1000000) [p3, p3']; rfl) ?_
          refine dr_go 2 2 rfl (by simp (maxSteps := 1000000) [p3, p3']; rfl) ?_
          refine dr_go 4 1 rfl (by simp (maxSteps := 1000000) [p3, p3']; rfl) ?_
          replace h0 := bnd h0; obtain ⟨y11, hy11, h0⟩ := h0
          refine dr_call 5 [] (ref33_Apply_ok hy11) rfl rfl rfl rfl rfl Try.call13 (by simp) ?_
          refine dr_go 6 2 rfl (by simp (maxSteps := 1000000); rfl) ?_
          refine dr_go 8 2 rfl (by simp (maxSteps := 1000000); rfl) ?_
          refine dr_go 10 2 rfl (by simp (maxSteps := 1000000); rfl) ?_
          refine dr_end rfl (tops_nil ?_)
          refine tr_seq ?_
          replace h0 := bnd h0; obtain ⟨v12, hvv12, h0⟩ := h0
          refine sjv (fun v12_ : Bool => ({ nt := 148, env := [(3, .ptr 24 0), (4, .ptr 4 0), (5, .ptr 5 0), (6, .d (.int .i64 y4.1)), (12, .ptr 12 0), (90, .d (.bool v12_))], box := [(4, [.d (.int .i64 y2.1.Slots), .d (.slice (rowsF api_Consumer_row y2.1.Consumers))]), (5, [.d (.int .i64 y3.1.Known), .d (.int .i64 y3.1.Valid), .d (.slice (rowsF api_Unit_row y3.1.Units))]), (12, [.d (.int .i64 y11.1.Known), .d (.int .i64 y11.1.Valid), .d (.slice (rowsF api_Unit_row y11.1.Units))]), (24, [.d (.slice (rowsF (iRow .i64) y3.2.L)), .d (.int .i64 y3.2.at_)])], vec := [] } : St)) (fun v12_ => v12 = v12_) (fun v12_ e => ?_) ?_
          · subst e
            refine tr_cond (b := v12) (by simp) (fun c19 => ?_) (fun c19 => ?_)
            · rw [if_pos c19] at h0
              refine kr [2] (by simp; rfl) ?_
              cases h0
              exact tr_ret ⟨[], by simp, rfl, by simp⟩
            · rw [if_neg (by rw [c19]; decide)] at h0
              refine tr_skip ?_
              refine kc ?_
              refine ko [3, 4, 5, 6, 12, 92, 93] 2 (by simp; rfl) ?_
              replace h0 := bnd h0; obtain ⟨y13, hy13, h0⟩ := h0
              refine kcall [3, 4, 5, 6, 12, 94] [] (search_Distance_ok hy13) rfl rfl rfl Try.call17 (by simp) (by simp; rfl) ?_
              refine ko [3, 4, 5, 6, 12, 14, 15, 16] 7 (by simp; rfl) ?_
              refine tops_nil ?_
              refine tr_seq ?_
              replace h0 := bnd h0; obtain ⟨v14, hvv14, h0⟩ := h0
              refine sjv (fun v14_ : Bool => ({ nt := 148, env := [(3, .ptr 24 0), (4, .ptr 4 0), (5, .ptr 5 0), (6, .d (.int .i64 y4.1)), (12, .ptr 12 0), (109, .d (.bool v14_))], box := [(4, [.d (.int .i64 y2.1.Slots), .d (.slice (rowsF api_Consumer_row y2.1.Consumers))]), (5, [.d (.int .i64 y3.1.Known), .d (.int .i64 y3.1.Valid), .d (.slice (rowsF api_Unit_row y3.1.Units))]), (12, [.d (.int .i64 y11.1.Known), .d (.int .i64 y11.1.Valid), .d (.slice (rowsF api_Unit_row y11.1.Units))]), (24, [.d (.slice (rowsF (iRow .i64) y3.2.L)), .d (.int .i64 y3.2.at_)])], vec := [] } : St)) (fun v14_ => v14 = v14_) (fun v14_ e => ?_) ?_
              · subst e
                refine tr_cond (b := v14) (by simp) (fun c24 => ?_) (fun c24 => ?_)
                · rw [if_pos c24] at h0
                  refine kr [2] (by simp; rfl) ?_
                  cases h0
                  exact tr_ret ⟨[], by simp, rfl, by simp⟩
                · rw [if_neg (by rw [c24]; decide)] at h0
                  refine tr_skip ?_
                  refine kc ?_
                  refine ko [3, 4, 5, 6, 12, 110, 111] 2 (by simp; rfl) ?_
                  replace h0 := bnd h0; obtain ⟨y15, hy15, h0⟩ := h0
                  refine kcall [3, 4, 5, 6, 12, 112] [] (ref33_Choices_ok hy15) rfl rfl rfl Try.call12 (by simp) (by simp; rfl) ?_
                  refine ko [3, 4, 5, 6, 12, 17] 1 (by simp; rfl) ?_
                  refine tops_nil ?_
                  refine kd [[], [], [], [], [], [4], [3, 5], [2, 5, 6], [5, 7], [0, 1, 5, 8], [5, 9], [5, 10], [5, 10], [5, 11]] [6, 13] [(12, [13]), (24, [6])] none [] 14 fol (by decide +kernel) (by simp) ?_
                  refine dr_go 0 2 rfl (by simp (maxSteps := 1000000); rfl) ?_
                  refine dr_go 2 2 rfl (by simp (maxSteps := 1000000); rfl) ?_
                  refine dr_go 4 2 rfl (by simp (maxSteps := 1000000); rfl) ?_
                  replace h0 := bnd h0; obtain ⟨y16, hy16, h0⟩ := h0
                  refine dr_call 6 [24] (make_Tape_Next_ok hy16) rfl rfl rfl rfl rfl Try.call14 (by simp) ?_
                  replace h0 := bnd h0; obtain ⟨x17, p6, h0⟩ := h0
                  replace p6 := idx_some p6
                  have p6' := p6; try simp at p6'
                  refine dr_go 7 2 rfl (by simp (maxSteps := 1000000) [p6, p6']; rfl) ?_
                  replace h0 := bnd h0; obtain ⟨y18, hy18, h0⟩ := h0
                  refine dr_call 9 [] (ref33_Apply_ok hy18) rfl rfl rfl rfl rfl Try.call13 (by simp) ?_
                  refine dr_go 10 2 rfl (by simp (maxSteps := 1000000); rfl) ?_
                  refine dr_go 12 2 rfl (by simp (maxSteps := 1000000); rfl) ?_
                  refine dr_end rfl (tops_nil ?_)
                  refine kc ?_
                  refine ko [6, 127, 128] 2 (by simp; rfl) ?_
                  replace h0 := bnd h0; obtain ⟨y19, hy19, h0⟩ := h0
                  refine kcall [6, 129] [] (search_Distance_ok hy19) rfl rfl rfl Try.call17 (by simp) (by simp; rfl) ?_
                  refine ko [6, 14, 15, 16] 7 (by simp; rfl) ?_
                  refine tops_nil ?_
                  replace h0 := bnd h0; obtain ⟨v20, hvv20, h0⟩ := h0
                  refine sjv (fun v20_ : Bool => ({ nt := 148, env := [(2, .d (.bool v20_))], box := [], vec := [] } : St)) (fun v20_ => v20 = v20_) (fun v20_ e => ?_) ?_
                  · subst e
                    cases h0
                    exact tr_ret ⟨[], by simp, rfl, by simp⟩
                  · refine kc1 ?_
                    refine ko [6, 14, 15, 135] 3 (by simp; rfl) ?_
                    refine tops_split 135 (y19.2.2 == 0) (by simp) (fun c31 => ?_) (fun c31 => ?_)
                    · rw [if_pos c31] at hvv20
                      refine ko [6, 14, 135, 138] 3 (by simp; rfl) ?_
                      refine tops_split 138 (!y19.2.1) (by simp) (fun c32 => ?_) (fun c32 => ?_)
                      · rw [if_pos c32] at hvv20
                        refine kskip 4 [] (by kernel_rfl) ?_
                        refine ko [145] 3 (by simp; rfl) ?_
                        replace hvv20 := bnd hvv20; obtain ⟨y21, hy21, hvv20⟩ := hvv20
                        refine kcall [145, 146] [] (law34_awake_ok hy21) rfl rfl rfl Try.call8 (by simp) (by simp; rfl) ?_
                        refine ko [2] 2 (by simp; rfl) ?_
                        refine tops_nil ?_
                        cases hvv20
                        exact ⟨_, rfl, wk (by simp [weak_iff])⟩
                      · rw [if_neg (by rw [c32]; decide)] at hvv20
                        refine ko [145] 7 (by simp; rfl) ?_
                        refine tops_split 145 (decide ((IntKind.i64.wrap (y4.1 - 1)) ≤ y19.1)) (by simp) (fun c33 => ?_) (fun c33 => ?_)
                        · rw [if_pos c33] at hvv20
                          replace hvv20 := bnd hvv20; obtain ⟨y22, hy22, hvv20⟩ := hvv20
                          refine kcall [145, 146] [] (law34_awake_ok hy22) rfl rfl rfl Try.call8 (by simp) (by simp; rfl) ?_
                          refine ko [2] 2 (by simp; rfl) ?_
                          refine tops_nil ?_
                          cases hvv20
                          exact ⟨_, rfl, wk (by simp [weak_iff])⟩
                        · rw [if_neg (by rw [c33]; decide)] at hvv20
                          refine ko [2] 3 (by simp; rfl) ?_
                          refine tops_nil ?_
                          cases hvv20
                          exact ⟨_, rfl, wk (by simp [weak_iff])⟩
                    · rw [if_neg (by rw [c31]; decide)] at hvv20
                      refine kskip 8 [] (by kernel_rfl) ?_
                      refine ko [2] 5 (by simp; rfl) ?_
                      refine tops_nil ?_
                      cases hvv20
                      exact ⟨_, rfl, wk (by simp [weak_iff])⟩
              · refine kc1 ?_
                refine ko [3, 4, 5, 6, 12, 14, 15, 100] 3 (by simp; rfl) ?_
                refine tops_split 100 (y13.2.2 != 0) (by simp) (fun c34 => ?_) (fun c34 => ?_)
                · rw [c34] at hvv14
                  refine ko [3, 4, 5, 6, 12, 14, 104] 4 (by simp; rfl) ?_
                  refine kskip 4 [] (by kernel_rfl) ?_
                  refine ko [3, 4, 5, 6, 12, 109] 1 (by simp; rfl) ?_
                  refine tops_nil ?_
                  cases hvv14
                  exact ⟨_, rfl, wk (by simp [weak_iff])⟩
                · rw [c34] at hvv14
                  refine ko [3, 4, 5, 6, 12, 14, 104] 4 (by simp; rfl) ?_
                  refine tops_split 104 (!y13.2.1) (by simp) (fun c35 => ?_) (fun c35 => ?_)
                  · rw [c35] at hvv14
                    refine kskip 4 [] (by kernel_rfl) ?_
                    refine ko [3, 4, 5, 6, 12, 109] 1 (by simp; rfl) ?_
                    refine tops_nil ?_
                    cases hvv14
                    exact ⟨_, rfl, wk (by simp [weak_iff])⟩
                  · rw [c35] at hvv14
                    refine ko [3, 4, 5, 6, 12, 109] 5 (by simp; rfl) ?_
                    refine tops_nil ?_
                    cases hvv14
                    exact ⟨_, rfl, wk (by simp [weak_iff])⟩
          · refine kd1 [[], [0], [1], [2], [2], [2], [2, 5], [2, 6], [2, 3, 4, 7], [2, 8], [2, 9]] [] [] none [] 11 fol (by decide +kernel) (by simp) ?_
            refine dr_go 0 2 rfl (by simp (maxSteps := 1000000); rfl) ?_
            refine dr_go 2 1 rfl (by simp (maxSteps := 1000000); rfl) ?_
            refine dr_split 2 82 (y11.2 != 0) (by simp) (fun c38 => ?_) (fun c38 => ?_)
            · rw [if_pos c38] at hvv12
              refine dr_skip 3 148 [some 83, some 84, some 85, some 86, some 87, some 88, some 89] rfl rfl (by decide) (by kernel_rfl) (by simp only [skEf, List.map_cons, List.map_nil, List.cons_append, List.nil_append]; rfl) ?_
              refine dr_go 10 1 rfl (by simp (maxSteps := 1000000); rfl) ?_
              refine dr_end rfl (tops_nil ?_)
              cases hvv12
              exact ⟨_, rfl, wk (by simp [weak_iff])⟩
            · rw [if_neg (by rw [c38]; decide)] at hvv12
              refine dr_go 3 2 rfl (by simp (maxSteps := 1000000) [p3, p3']; rfl) ?_
              refine dr_go 5 2 rfl (by simp (maxSteps := 1000000) [p3, p3']; rfl) ?_
              refine dr_go 7 1 rfl (by simp (maxSteps := 1000000) [p3, p3']; rfl) ?_
              replace hvv12 := bnd hvv12; obtain ⟨y23, hy23, hvv12⟩ := hvv12
              refine dr_call 8 [] (ref33_Safe_ok hy23) rfl rfl rfl rfl rfl Try.call20 (by simp) ?_
              refine dr_go 9 2 rfl (by simp (maxSteps := 1000000); rfl) ?_
              refine dr_end rfl (tops_nil ?_)
              cases hvv12
              exact ⟨_, rfl, wk (by simp [weak_iff])⟩
    · refine kc1 ?_
      refine ko [3, 4, 5, 6, 7, 9, 10, 11, 46] 3 (by simp; rfl) ?_
      refine tops_split 46 (y4.2.2 != 0) (by simp) (fun c39 => ?_) (fun c39 => ?_)
      · rw [c39] at hvv6
        refine ko [3, 4, 5, 6, 7, 9, 10, 50] 4 (by simp; rfl) ?_
        refine kskip 3 [] (by kernel_rfl) ?_
        refine ko [3, 4, 5, 6, 7, 9, 55] 2 (by simp; rfl) ?_
        refine kskip 4 [] (by kernel_rfl) ?_
        refine ko [3, 4, 5, 6, 7, 9, 60] 1 (by simp; rfl) ?_
        refine tops_nil ?_
        cases hvv6
        exact ⟨_, rfl, wk (by simp [weak_iff])⟩
      · rw [c39] at hvv6
        refine ko [3, 4, 5, 6, 7, 9, 10, 50] 4 (by simp; rfl) ?_
        refine tops_split 50 (y5.2.2 != 0) (by simp) (fun c40 => ?_) (fun c40 => ?_)
        · rw [c40] at hvv6
          refine kskip 3 [] (by kernel_rfl) ?_
          refine ko [3, 4, 5, 6, 7, 9, 55] 2 (by simp; rfl) ?_
          refine kskip 4 [] (by kernel_rfl) ?_
          refine ko [3, 4, 5, 6, 7, 9, 60] 1 (by simp; rfl) ?_
          refine tops_nil ?_
          cases hvv6
          exact ⟨_, rfl, wk (by simp [weak_iff])⟩
        · rw [c40] at hvv6
          refine ko [3, 4, 5, 6, 7, 9, 55] 5 (by simp; rfl) ?_
          refine tops_split 55 (y4.2.1 != y5.2.1) (by simp) (fun c41 => ?_) (fun c41 => ?_)
          · rw [c41] at hvv6
            refine kskip 4 [] (by kernel_rfl) ?_
            refine ko [3, 4, 5, 6, 7, 9, 60] 1 (by simp; rfl) ?_
            refine tops_nil ?_
            cases hvv6
            exact ⟨_, rfl, wk (by simp [weak_iff])⟩
          · rw [c41] at hvv6
            refine ko [3, 4, 5, 6, 7, 9, 60] 5 (by simp; rfl) ?_
            refine tops_nil ?_
            cases hvv6
            exact ⟨_, rfl, wk (by simp [weak_iff])⟩
end Go.Vl
