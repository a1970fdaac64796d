/- Walks: each function of the given program computes what its mirror says. Conditions: none. -/
import Derived.Test.YtciimncnodejaaaGreatDoorXw3
set_option linter.unusedSimpArgs false
set_option linter.unusedVariables false
namespace Go.Vl
open Go Go.Proofs
set_option maxHeartbeats 1000000 in
theorem law41_awake_ok  {r : Bool} (h0 : law41_awake = some r) : FnOK Tryz.prog 4 [] [] (.d (.bool r)) [] := by
  unfold law41_awake at h0
  refine fn_ok (nt := 39) (rs := [.tmp 0]) Tryz.func4 rfl Tryz.ntmps4 rfl (by simp) (by decide) rfl fun K => ?_
  refine kr [] (by simp; rfl) ?_
  refine kr [1] (by simp; rfl) ?_
  refine kr [1, 2] (by simp; rfl) ?_
  refine kc ?_
  refine ko [11, 12, 14] 4 (by simp; rfl) ?_
  refine tops_wk (wk_frz 8) ?_
  refine tops_wk (wk_frz 14) ?_
  replace h0 := bnd h0; obtain ⟨y1, hy1, h0⟩ := h0
  refine kcall [15] [] (notice_All_ok hy1) rfl rfl rfl Tryz.call15 (by simp) (by simp; rfl) ?_
  refine ko [3, 4] 5 (by simp; rfl) ?_
  refine tops_nil ?_
  refine tr_seq ?_
  replace h0 := bnd h0; obtain ⟨v2, hvv2, h0⟩ := h0
  refine sjv (fun v2_ : Bool => ({ nt := 39, env := [(3, .d (.slice (rowsF api_Notice_row y1.1))), (24, .d (.bool v2_))], box := [], vec := [] } : St)) (fun v2_ => v2 = v2_) (fun v2_ e => ?_) ?_
  · subst e
    refine tr_cond (b := v2) (by simp) (fun c3 => ?_) (fun c3 => ?_)
    · rw [if_pos c3] at h0
      refine kr [0] (by simp; rfl) ?_
      cases h0
      exact tr_ret ⟨[], by simp, rfl, by simp⟩
    · rw [if_neg (by rw [c3]; decide)] at h0
      refine tr_skip ?_
      refine tr_seq ?_
      refine kr [25, 26, 27] (by simp; rfl) ?_
      replace h0 := bnd h0; obtain ⟨e1, hI1, h0⟩ := h0
      refine tjv (fun v3 : Unit => ({ nt := 39, env := [], box := [], vec := [] } : St)) (fun v3 => .inl v3 = e1) (fun v3 hI1e _ W1 => ?_) ?_
      · subst hI1e
        dsimp only at h0
        refine tr_wk W1 ?_
        refine kr [0] (by simp; rfl) ?_
        cases h0
        exact tr_ret ⟨[], by simp, rfl, by simp⟩
      · refine tr_block (tr_iter (fun s4 : Int => ({ nt := 39, env := [(25, .d (.slice (rowsF api_Notice_row y1.1))), (26, .d (.int .i64 ((y1.1).length : Int))), (27, .d (.int .i64 s4))], box := [], vec := [] } : St)) hI1 (wk (by simp [weak_iff])) fun G1 s4 o1 h1 hg1 he1 => ?_)
        unfold law41_awake_l0 at h1
        refine kr [25, 26, 27, 28] (by simp; rfl) ?_
        refine tr_seq ?_
        refine tr_cond (b := (decide (s4 < ((y1.1).length : Int)))) (by simp) (fun c8 => ?_) (fun c8 => ?_)
        · rw [if_pos c8] at h1
          refine tr_skip ?_
          refine tr_seq ?_
          refine tr_block ?_
          replace h1 := bnd h1; obtain ⟨x5, p3, h1⟩ := h1
          replace p3 := idx_some p3
          have p3' := p3; try simp at p3'
          refine kr [5, 6, 25, 26, 27] (by simp [p3, p3']; rfl) ?_
          refine kr [25, 26, 27, 37] (by simp; rfl) ?_
          refine tr_cond (b := (!((x5.Time == (IntKind.i64.wrap (5 + s4))) && ((x5.Case == 0) && ((x5.To == 0) && (x5.Step == s4)))))) (by simp) (fun c9 => ?_) (fun c9 => ?_)
          · rw [if_pos c9] at h1
            refine kr [0] (by simp; rfl) ?_
            have k1 := he1 _ (Option.some.inj h1)
            subst k1
            dsimp only at h0
            cases h0
            exact tr_ret ⟨[], by simp, rfl, by simp⟩
          · rw [if_neg (by rw [c9]; decide)] at h1
            refine tr_skip ?_
            refine lr (by simp; rfl) ?_
            exact ⟨_, hg1 _ (Option.some.inj h1), wk (by simp [weak_iff])⟩
        · rw [if_neg (by rw [c8]; decide)] at h1
          refine tr_exit ?_
          exact ⟨_, he1 _ (Option.some.inj h1), wk (by simp [weak_iff])⟩
  · refine kc1 ?_
    refine ko [3, 20] 3 (by simp; rfl) ?_
    refine tops_split 20 (y1.2 != 0) (by simp) (fun c10 => ?_) (fun c10 => ?_)
    · rw [c10] at hvv2
      refine kskip 3 [] (by kernel_rfl) ?_
      refine ko [3, 24] 1 (by simp; rfl) ?_
      refine tops_nil ?_
      cases hvv2
      exact ⟨_, rfl, wk (by simp [weak_iff])⟩
    · rw [c10] at hvv2
      refine ko [3, 24] 4 (by simp; rfl) ?_
      refine tops_nil ?_
      cases hvv2
      exact ⟨_, rfl, wk (by simp [weak_iff])⟩
set_option maxHeartbeats 1000000 in
theorem make_Pick_ok {a0 : make_Tape} {a1 : List Int} {r : Int × make_Tape} (h0 : make_Pick a0 a1 = some r) : FnOK Tryz.prog 23 [make_Tape_av a0] [.ptr (InO 0) 0, .d (.slice (rowsF (iRow .i64) a1))] (.d (.int .i64 r.1)) [make_Tape_av r.2] := by
  unfold make_Pick at h0
  refine fn_ok (nt := 12) (rs := [.tmp 4]) Tryz.func23 rfl Tryz.ntmps23 rfl (by simp) (by decide) rfl fun K => ?_
  refine kr [0, 1] (by simp; rfl) ?_
  refine kc ?_
  refine ko [5, 6, 8] 4 (by simp; rfl) ?_
  replace h0 := bnd h0; obtain ⟨y1, hy1, h0⟩ := h0
  refine kcall [5, 9] [1000000] (make_Tape_Next_ok hy1) rfl rfl rfl Tryz.call9 (by simp) (by simp; rfl) ?_
  replace h0 := bnd h0; obtain ⟨x2, p1, h0⟩ := h0
  replace p1 := idx_some p1
  have p1' := p1; try simp at p1'
  refine ko [4] 3 (by simp [p1, p1']; rfl) ?_
  refine tops_nil ?_
  cases h0
  exact tr_ret ⟨[], by simp, rfl, by simp⟩
set_option maxHeartbeats 1000000 in
theorem make_Few_ok {a0 : make_Tape} {a1 : Int} {a2 : Int} {r : (List Int) × make_Tape} (h0 : make_Few a0 a1 a2 = some r) : FnOK Tryz.prog 24 [make_Tape_av a0] [.ptr (InO 0) 0, .d (.int .i64 a1), .d (.int .i64 a2)] (.d (.slice (rowsF (iRow .i64) r.1))) [make_Tape_av r.2] := by
  unfold make_Few at h0
  refine fn_ok (nt := 25) (rs := [.tmp 6]) Tryz.func24 rfl Tryz.ntmps24 rfl (by simp) (by decide) rfl fun K => ?_
  refine kr [0, 1, 2] (by simp; rfl) ?_
  refine kr [0, 1, 2, 7] (by simp; rfl) ?_
  refine tr_seq ?_
  refine kr [0, 1, 2, 7, 8] (by simp; rfl) ?_
  refine tr_wk (wk_own 7 23 3 1 (by simp) (by simp)) ?_
  replace h0 := bnd h0; obtain ⟨e1, hI1, h0⟩ := h0
  refine tjv (fun v1 : (List Int) × Int × (List Int) => ({ nt := 25, env := [(7, .vec 23)], box := [(1000000, [.d (.slice (rowsF (iRow .i64) v1.1)), .d (.int .i64 v1.2.1)])], vec := [(23, ⟨3, 1, rowsF (iRow .i64) v1.2.2⟩)] } : St)) (fun v1 => v1 = e1) (fun v1 hI1e _ W1 => ?_) ?_
  · subst hI1e
    refine tr_wk W1 ?_
    refine kr [6] (by simp; rfl) ?_
    cases h0
    exact tr_ret ⟨[23], by simp, rfl, by simp⟩
  · refine tr_block (tr_iter (fun s2 : Int × (List Int) × Int × (List Int) => ({ nt := 25, env := [(0, .ptr 1000000 0), (1, .d (.int .i64 a1)), (2, .d (.int .i64 a2)), (7, .vec 23), (8, .d (.int .i64 s2.1))], box := [(1000000, [.d (.slice (rowsF (iRow .i64) s2.2.1)), .d (.int .i64 s2.2.2.1)])], vec := [(23, ⟨3, 1, rowsF (iRow .i64) s2.2.2.2⟩)] } : St)) hI1 (wk (by simp [weak_iff])) fun G1 s2 o1 h1 hg1 he1 => ?_)
    unfold make_Few_l0 at h1
    refine tr_seq ?_
    refine kr [0, 1, 2, 7, 8, 11] (by simp; rfl) ?_
    refine tr_cond (b := (decide (s2.1 < a1))) (by simp) (fun c7 => ?_) (fun c7 => ?_)
    · rw [if_pos c7] at h1
      refine tr_skip ?_
      refine tr_seq ?_
      refine tr_block ?_
      refine kc ?_
      refine ko [0, 1, 2, 7, 8, 14, 15] 2 (by simp; rfl) ?_
      replace h1 := bnd h1; obtain ⟨y3, hy3, h1⟩ := h1
      refine kcall [0, 1, 2, 7, 8, 16] [1000000] (make_Tape_Next_ok hy3) rfl rfl rfl Tryz.call9 (by simp) (by simp; rfl) ?_
      refine ko [0, 1, 2, 7, 8, 19] 3 (by simp; rfl) ?_
      refine tops_nil ?_
      refine tr_cond (b := (y3.1 == (IntKind.i64.wrap (a2 - 1)))) (by simp) (fun c8 => ?_) (fun c8 => ?_)
      · rw [if_pos c8] at h1
        replace h1 := bnd h1; obtain ⟨_, p3, h1⟩ := h1
        replace p3 := ck_some p3
        have p3' := p3; try simp at p3'
        refine lr (by simp [p3, p3']; rfl) ?_
        refine lr (by simp; rfl) ?_
        exact ⟨_, hg1 _ (Option.some.inj h1), wk (by simp [weak_iff])⟩
      · rw [if_neg (by rw [c8]; decide)] at h1
        refine tr_skip ?_
        refine lr (by simp; rfl) ?_
        exact ⟨_, hg1 _ (Option.some.inj h1), wk (by simp [weak_iff])⟩
    · rw [if_neg (by rw [c7]; decide)] at h1
      refine tr_exit ?_
      exact ⟨_, he1 _ (Option.some.inj h1), wk (by simp [weak_iff])⟩
set_option maxHeartbeats 1000000 in
theorem make_Calendar_ok {a0 : make_Tape} {r : api_Calendar × make_Tape} (h0 : make_Calendar a0 = some r) : FnOK Tryz.prog 5 [make_Tape_av a0] [.ptr (InO 0) 0] (.agg (api_Calendar_av r.1)) [make_Tape_av r.2] := by
  unfold make_Calendar at h0
  refine fn_ok (nt := 27) (rs := [.cell 2 33]) Tryz.func5 rfl Tryz.ntmps5 rfl (by simp) (by decide) rfl fun K => ?_
  refine kr [0, 2] (by simp; rfl) ?_
  refine kc ?_
  refine ko [0, 2, 4] 1 (by simp; rfl) ?_
  replace h0 := bnd h0; obtain ⟨y1, hy1, h0⟩ := h0
  refine kcall [0, 2, 5] [1000000] (make_Tape_Between_ok hy1) rfl rfl rfl Tryz.call10 (by simp) (by simp; rfl) ?_
  refine ko [0, 2, 5, 6, 7] 2 (by simp; rfl) ?_
  refine tops_wk (wk_frz 7) ?_
  replace h0 := bnd h0; obtain ⟨y2, hy2, h0⟩ := h0
  refine kcall [0, 2, 5, 8] [1000000] (make_Pick_ok hy2) rfl rfl rfl Tryz.call23 (by simp) (by simp; rfl) ?_
  refine ko [0, 2, 3] 3 (by simp; rfl) ?_
  refine tops_nil ?_
  refine kc ?_
  refine ko [0, 2, 3, 10, 12] 3 (by simp; rfl) ?_
  replace h0 := bnd h0; obtain ⟨y3, hy3, h0⟩ := h0
  refine kcall [0, 2, 3, 13] [1000000] (make_Tape_Next_ok hy3) rfl rfl rfl Tryz.call9 (by simp) (by simp; rfl) ?_
  refine ko [0, 2, 3] 2 (by simp; rfl) ?_
  refine tops_nil ?_
  refine kc ?_
  refine ko [0, 2, 3, 15, 18, 20] 6 (by simp; rfl) ?_
  replace h0 := bnd h0; obtain ⟨y4, hy4, h0⟩ := h0
  refine kcall [0, 2, 3, 21] [1000000] (make_Tape_Between_ok hy4) rfl rfl rfl Tryz.call10 (by simp) (by simp; rfl) ?_
  refine ko [0, 2, 3] 2 (by simp; rfl) ?_
  refine tops_nil ?_
  refine kc ?_
  refine ko [2, 3, 23] 1 (by simp; rfl) ?_
  replace h0 := bnd h0; obtain ⟨y5, hy5, h0⟩ := h0
  refine kcall [2, 3, 24] [1000000] (make_Few_ok hy5) rfl rfl rfl Tryz.call24 (by simp) (by simp; rfl) ?_
  refine ko [2, 3] 2 (by simp; rfl) ?_
  refine tops_nil ?_
  refine kr [2] (by simp; rfl) ?_
  cases h0
  exact tr_ret ⟨[], by simp, rfl, by simp⟩
set_option maxHeartbeats 1000000 in
theorem make_Directory_ok {a0 : make_Tape} {r : api_Directory × make_Tape} (h0 : make_Directory a0 = some r) : FnOK Tryz.prog 6 [make_Tape_av a0] [.ptr (InO 0) 0] (.agg (api_Directory_av r.1)) [make_Tape_av r.2] := by
  unfold make_Directory at h0
  refine fn_ok (nt := 86) (rs := [.cell 2 25]) Tryz.func6 rfl Tryz.ntmps6 rfl (by simp) (by decide) rfl fun K => ?_
  refine kr [0, 2] (by simp; rfl) ?_
  refine kr [0, 2, 3] (by simp; rfl) ?_
  refine tr_seq ?_
  refine kc ?_
  refine ko [0, 2, 3, 13] 1 (by simp; rfl) ?_
  replace h0 := bnd h0; obtain ⟨y1, hy1, h0⟩ := h0
  refine kcall [0, 2, 3, 14] [1000000] (make_Tape_Between_ok hy1) rfl rfl rfl Tryz.call10 (by simp) (by simp; rfl) ?_
  refine ko [0, 2, 3, 4] 1 (by simp; rfl) ?_
  refine tops_nil ?_
  replace h0 := bnd h0; obtain ⟨l2, hl2, h0⟩ := h0
  replace hl2 := Option.some.inj hl2
  replace h0 := bnd h0; obtain ⟨e1, hI1, h0⟩ := h0
  refine tjv (fun v3 : (List Int) × Int × (List Int) => ({ nt := 86, env := [(0, .ptr 1000000 0), (2, .ptr 2 0), (3, .ptr 3 0)], box := [(2, [.nilS, .nilS]), (3, [.vec 11, .nilS]), (1000000, [.d (.slice (rowsF (iRow .i64) v3.1)), .d (.int .i64 v3.2.1)])], vec := [(11, ⟨3, 1, rowsF (iRow .i64) v3.2.2⟩)] } : St)) (fun v3 => v3 = e1) (fun v3 hI1e _ W1 => ?_) ?_
  · subst hI1e
    refine tr_wk W1 ?_
    refine kr [0, 2, 3, 5] (by simp; rfl) ?_
    refine tr_seq ?_
    refine kr [0, 2, 3, 5, 28, 29, 30] (by simp; rfl) ?_
    refine tr_wk (wk_own 5 40 3 1 (by simp) (by simp)) ?_
    replace h0 := bnd h0; obtain ⟨e2, hI2, h0⟩ := h0
    refine tjv (fun v4 : (List Int) => ({ nt := 86, env := [(0, .ptr 1000000 0), (2, .ptr 2 0), (3, .ptr 3 0), (5, .vec 40)], box := [(2, [.nilS, .nilS]), (3, [.vec 11, .nilS]), (1000000, [.d (.slice (rowsF (iRow .i64) v3.1)), .d (.int .i64 v3.2.1)])], vec := [(11, ⟨3, 1, rowsF (iRow .i64) v3.2.2⟩), (40, ⟨3, 1, rowsF (iRow .i64) v4⟩)] } : St)) (fun v4 => v4 = e2) (fun v4 hI2e _ W2 => ?_) ?_
    · subst hI2e
      refine tr_wk W2 ?_
      refine tr_seq ?_
      refine kr [0, 2, 3, 5, 44] (by simp; rfl) ?_
      refine tr_cond (b := (((v4).length : Int) == 0)) (by simp) (fun c9 => ?_) (fun c9 => ?_)
      · rw [if_pos c9] at h0
        refine kr [2] (by simp; rfl) ?_
        cases h0
        exact tr_ret ⟨[11], by simp, rfl, by simp⟩
      · rw [if_neg (by rw [c9]; decide)] at h0
        refine tr_skip ?_
        refine tr_seq ?_
        refine kc ?_
        refine ko [0, 2, 3, 5, 46, 47] 2 (by simp; rfl) ?_
        replace h0 := bnd h0; obtain ⟨y5, hy5, h0⟩ := h0
        refine kcall [0, 2, 3, 5, 46, 48] [1000000] (make_Tape_Next_ok hy5) rfl rfl rfl Tryz.call9 (by simp) (by simp; rfl) ?_
        replace h0 := bnd h0; obtain ⟨y6, hy6, h0⟩ := h0
        refine kcall [0, 2, 3, 5, 49] [1000000] (make_Clock_ok hy6) rfl rfl rfl Tryz.call25 (by simp) (by simp; rfl) ?_
        refine ko [0, 2, 3, 5, 49, 50, 51] 2 (by simp; rfl) ?_
        refine tops_nil ?_
        refine tr_wk (wk_ownbox 3 1 82 64 4 (by simp; rfl) (by simp) (by simp)) ?_
        replace h0 := bnd h0; obtain ⟨e3, hI3, h0⟩ := h0
        refine tjv (fun v7 : (List Int) × Int × (List api_Member) => ({ nt := 86, env := [(2, .ptr 2 0), (3, .ptr 3 0)], box := [(2, [.nilS, .nilS]), (3, [.vec 11, .vec 82]), (1000000, [.d (.slice (rowsF (iRow .i64) v7.1)), .d (.int .i64 v7.2.1)])], vec := [(11, ⟨3, 1, rowsF (iRow .i64) v3.2.2⟩), (82, ⟨64, 4, rowsF api_Member_row v7.2.2⟩)] } : St)) (fun v7 => v7 = e3) (fun v7 hI3e _ W3 => ?_) ?_
        · subst hI3e
          refine tr_wk W3 ?_
          refine kr [2] (by simp; rfl) ?_
          cases h0
          exact tr_ret ⟨[11, 82], by simp, rfl, by simp⟩
        · refine tr_block (tr_iter (fun s8 : Int × (List Int) × Int × (List api_Member) => ({ nt := 86, env := [(0, .ptr 1000000 0), (2, .ptr 2 0), (3, .ptr 3 0), (5, .vec 40), (49, .d (.slice (rowsF (iRow .i64) y6.1))), (50, .d (.int .i64 ((y6.1).length : Int))), (51, .d (.int .i64 s8.1))], box := [(2, [.nilS, .nilS]), (3, [.vec 11, .vec 82]), (1000000, [.d (.slice (rowsF (iRow .i64) s8.2.1)), .d (.int .i64 s8.2.2.1)])], vec := [(11, ⟨3, 1, rowsF (iRow .i64) v3.2.2⟩), (40, ⟨3, 1, rowsF (iRow .i64) v4⟩), (82, ⟨64, 4, rowsF api_Member_row s8.2.2.2⟩)] } : St)) hI3 (wk (by simp [weak_iff])) fun G3 s8 o3 h3 hg3 he3 => ?_)
          unfold make_Directory_l2 at h3
          refine kr [0, 2, 3, 5, 49, 50, 51, 52] (by simp; rfl) ?_
          refine tr_seq ?_
          refine tr_cond (b := (decide (s8.1 < ((y6.1).length : Int)))) (by simp) (fun c19 => ?_) (fun c19 => ?_)
          · rw [if_pos c19] at h3
            refine tr_skip ?_
            refine tr_seq ?_
            refine tr_block ?_
            replace h3 := bnd h3; obtain ⟨x9, p26, h3⟩ := h3
            replace p26 := idx_some p26
            have p26' := p26; try simp at p26'
            refine kr [0, 2, 3, 5, 9, 49, 50, 51] (by simp [p26, p26']; rfl) ?_
            refine kc ?_
            refine ko [0, 2, 3, 5, 49, 50, 51, 55, 56, 59] 5 (by simp; rfl) ?_
            replace h3 := bnd h3; obtain ⟨y10, hy10, h3⟩ := h3
            refine kcall [0, 2, 3, 5, 49, 50, 51, 55, 60] [1000000] (make_Tape_Next_ok hy10) rfl rfl rfl Tryz.call9 (by simp) (by simp; rfl) ?_
            refine ko [0, 2, 3, 5, 49, 50, 51, 55, 60, 61, 62, 64] 4 (by simp; rfl) ?_
            replace h3 := bnd h3; obtain ⟨y11, hy11, h3⟩ := h3
            refine kcall [0, 2, 3, 5, 49, 50, 51, 55, 60, 61, 65] [1000000] (make_Tape_Next_ok hy11) rfl rfl rfl Tryz.call9 (by simp) (by simp; rfl) ?_
            replace h3 := bnd h3; obtain ⟨_, p27, h3⟩ := h3
            replace p27 := ck_some p27
            have p27' := p27; try simp at p27'
            have p27o : y11.1 < (((v4)).length : Int) := by omega
            replace h3 := bnd h3; obtain ⟨x12, p28, h3⟩ := h3
            replace p28 := idx_some p28
            have p28' := p28; try simp at p28'
            refine ko [0, 2, 3, 5, 10, 49, 50, 51] 5 (by simp [-getElem?_pos, List.getElem?_cons_zero, List.getElem?_cons_succ, p27, p27o, p28, p27', p28']; rfl) ?_
            refine tops_nil ?_
            refine sjv (fun v13 : (List Int) × Int × Int => ({ nt := 86, env := [(0, .ptr 1000000 0), (2, .ptr 2 0), (3, .ptr 3 0), (5, .vec 40), (10, .ptr 10 0), (49, .d (.slice (rowsF (iRow .i64) y6.1))), (50, .d (.int .i64 ((y6.1).length : Int))), (51, .d (.int .i64 s8.1))], box := [(2, [.nilS, .nilS]), (3, [.vec 11, .vec 82]), (10, [.d (.int .i64 x9), .d (.int .i64 v13.2.2), .d (.int .i64 y10.1), .d (.int .i64 x12)]), (1000000, [.d (.slice (rowsF (iRow .i64) v13.1)), .d (.int .i64 v13.2.1)])], vec := [(11, ⟨3, 1, rowsF (iRow .i64) v3.2.2⟩), (40, ⟨3, 1, rowsF (iRow .i64) v4⟩), (82, ⟨64, 4, rowsF api_Member_row s8.2.2.2⟩)] } : St)) (fun v13 => make_Directory_j3 y10 x12 s8 x9 v13 = some o3) (fun v13 h3 => ?_) ?_
            · unfold make_Directory_j3 at h3
              refine kr [0, 2, 3, 5, 10, 49, 50, 51, 77] (by simp; rfl) ?_
              refine tr_cond (b := (y10.1 != x12)) (by simp) (fun c21 => ?_) (fun c21 => ?_)
              · rw [if_pos c21] at h3
                replace h3 := bnd h3; obtain ⟨_, p29, h3⟩ := h3
                replace p29 := ck_some p29
                have p29' := p29; try simp at p29'
                refine lr (by simp [p29, p29']; rfl) ?_
                refine lr (by simp; rfl) ?_
                exact ⟨_, hg3 _ (Option.some.inj h3), wk (by simp [weak_iff])⟩
              · rw [if_neg (by rw [c21]; decide)] at h3
                refine tr_skip ?_
                refine lr (by simp; rfl) ?_
                exact ⟨_, hg3 _ (Option.some.inj h3), wk (by simp [weak_iff])⟩
            · refine kc ?_
              refine ko [0, 2, 3, 5, 10, 49, 50, 51, 69] 1 (by simp; rfl) ?_
              replace h3 := bnd h3; obtain ⟨y14, hy14, h3⟩ := h3
              refine kcall [0, 2, 3, 5, 10, 49, 50, 51, 70] [1000000] (make_Tape_Next_ok hy14) rfl rfl rfl Tryz.call9 (by simp) (by simp; rfl) ?_
              refine ko [0, 2, 3, 5, 10, 49, 50, 51, 71] 1 (by simp; rfl) ?_
              refine tops_nil ?_
              refine tr_cond (b := (y14.1 == 3)) (by simp) (fun c22 => ?_) (fun c22 => ?_)
              · rw [if_pos c22] at h3
                refine lr (by simp; rfl) ?_
                exact ⟨_, h3, wk (by simp [weak_iff])⟩
              · rw [if_neg (by rw [c22]; decide)] at h3
                refine tr_skip ?_
                exact ⟨_, h3, wk (by simp [weak_iff])⟩
          · rw [if_neg (by rw [c19]; decide)] at h3
            refine tr_exit ?_
            exact ⟨_, he3 _ (Option.some.inj h3), wk (by simp [weak_iff])⟩
    · refine tr_block (tr_iter (fun s15 : Int × (List Int) => ({ nt := 86, env := [(0, .ptr 1000000 0), (2, .ptr 2 0), (3, .ptr 3 0), (5, .vec 40), (28, .vec 11), (29, .d (.int .i64 ((v3.2.2).length : Int))), (30, .d (.int .i64 s15.1))], box := [(2, [.nilS, .nilS]), (3, [.vec 11, .nilS]), (1000000, [.d (.slice (rowsF (iRow .i64) v3.1)), .d (.int .i64 v3.2.1)])], vec := [(11, ⟨3, 1, rowsF (iRow .i64) v3.2.2⟩), (40, ⟨3, 1, rowsF (iRow .i64) s15.2⟩)] } : St)) hI2 (wk (by simp [weak_iff])) fun G3 s15 o3 h3 hg3 he3 => ?_)
      unfold make_Directory_l1 at h3
      refine kr [0, 2, 3, 5, 28, 29, 30, 31] (by simp; rfl) ?_
      refine tr_seq ?_
      refine tr_cond (b := (decide (s15.1 < ((v3.2.2).length : Int)))) (by simp) (fun c23 => ?_) (fun c23 => ?_)
      · rw [if_pos c23] at h3
        refine tr_skip ?_
        refine tr_seq ?_
        refine tr_block ?_
        replace h3 := bnd h3; obtain ⟨_, p30, h3⟩ := h3
        replace p30 := ck_some p30
        have p30' := p30; try simp at p30'
        have p30o : s15.1 < (((v3.2.2)).length : Int) := by omega
        replace h3 := bnd h3; obtain ⟨x16, p31, h3⟩ := h3
        replace p31 := idx_some p31
        have p31' := p31; try simp at p31'
        refine kr [0, 2, 3, 5, 6, 7, 28, 29, 30] (by simp [-getElem?_pos, List.getElem?_cons_zero, List.getElem?_cons_succ, p30, p30o, p31, p30', p31']; rfl) ?_
        refine kr [0, 2, 3, 5, 6, 28, 29, 30, 36] (by simp; rfl) ?_
        refine tr_cond (b := (x16 == 2)) (by simp) (fun c24 => ?_) (fun c24 => ?_)
        · rw [if_pos c24] at h3
          replace h3 := bnd h3; obtain ⟨_, p32, h3⟩ := h3
          replace p32 := ck_some p32
          have p32' := p32; try simp at p32'
          refine lr (by simp [p32, p32']; rfl) ?_
          refine lr (by simp; rfl) ?_
          exact ⟨_, hg3 _ (Option.some.inj h3), wk (by simp [weak_iff])⟩
        · rw [if_neg (by rw [c24]; decide)] at h3
          refine tr_skip ?_
          refine lr (by simp; rfl) ?_
          exact ⟨_, hg3 _ (Option.some.inj h3), wk (by simp [weak_iff])⟩
      · rw [if_neg (by rw [c23]; decide)] at h3
        refine tr_exit ?_
        exact ⟨_, he3 _ (Option.some.inj h3), wk (by simp [weak_iff])⟩
  · refine tr_block (tr_iter (fun s17 : Int × (List Int) × Int × (List Int) => ({ nt := 86, env := [(0, .ptr 1000000 0), (2, .ptr 2 0), (3, .ptr 3 0), (4, .d (.int .i64 s17.1))], box := [(2, [.nilS, .nilS]), (3, [.vec 11, .nilS]), (1000000, [.d (.slice (rowsF (iRow .i64) s17.2.1)), .d (.int .i64 s17.2.2.1)])], vec := [(11, ⟨3, 1, rowsF (iRow .i64) s17.2.2.2⟩)] } : St)) hI1 (wk (by subst hl2; simp [weak_iff])) fun G3 s17 o3 h3 hg3 he3 => ?_)
    unfold make_Directory_l0 at h3
    refine tr_seq ?_
    refine kr [0, 2, 3, 4, 16] (by simp; rfl) ?_
    refine tr_cond (b := (decide (0 < s17.1))) (by simp) (fun c25 => ?_) (fun c25 => ?_)
    · rw [if_pos c25] at h3
      refine tr_skip ?_
      refine tr_seq ?_
      refine tr_block ?_
      refine kd1 [[], [0], [], [], [2, 3], [4], [1, 4, 5], [6], [1, 6, 7]] [4, 6, 8] [(3, [6, 8]), (1000000, [4, 6])] (some (6, 11)) [20] 9 fol (by decide +kernel) (by simp) ?_
      refine dr_go 0 2 rfl (by simp (maxSteps := 1000000); rfl) ?_
      refine dr_go 2 2 rfl (by simp (maxSteps := 1000000); rfl) ?_
      replace h3 := bnd h3; obtain ⟨y18, hy18, h3⟩ := h3
      refine dr_call 4 [1000000] (make_Pick_ok hy18) rfl rfl rfl rfl rfl Tryz.call23 (by simp) ?_
      replace h3 := bnd h3; obtain ⟨_, p35, h3⟩ := h3
      replace p35 := ck_some p35
      have p35' := p35; try simp at p35'
      refine dr_go 5 2 rfl (by simp (maxSteps := 1000000) [p35, p35']; rfl) ?_
      refine dr_go 7 2 rfl (by simp (maxSteps := 1000000) [p35, p35']; rfl) ?_
      refine dr_end rfl (tops_nil ?_)
      refine lr (by simp; rfl) ?_
      exact ⟨_, hg3 _ (Option.some.inj h3), Wk.trans (wk_ren 25 11) (wk (by simp [weak_iff]))⟩
    · rw [if_neg (by rw [c25]; decide)] at h3
      refine tr_exit ?_
      exact ⟨_, he3 _ (Option.some.inj h3), wk (by simp [weak_iff])⟩
set_option maxHeartbeats 1000000 in
theorem make_Stewards_ok {a0 : make_Tape} {a1 : api_Directory} {r : (List api_Steward) × make_Tape} (h0 : make_Stewards a0 a1 = some r) : FnOK Tryz.prog 7 [make_Tape_av a0] [.ptr (InO 0) 0, .agg (api_Directory_av a1)] (.d (.slice (rowsF api_Steward_row r.1))) [make_Tape_av r.2] := by
  unfold make_Stewards at h0
  refine fn_ok (nt := 42) (rs := [.tmp 4]) Tryz.func7 rfl Tryz.ntmps7 rfl (by simp) (by decide) rfl fun K => ?_
  refine kr [0, 3] (by simp; rfl) ?_
  refine kr [0, 3, 5] (by simp; rfl) ?_
  refine tr_seq ?_
  refine kc ?_
  refine ko [0, 3, 5, 9, 10] 2 (by simp; rfl) ?_
  replace h0 := bnd h0; obtain ⟨y1, hy1, h0⟩ := h0
  refine kcall [0, 3, 5, 9, 11] [1000000] (make_Tape_Next_ok hy1) rfl rfl rfl Tryz.call9 (by simp) (by simp; rfl) ?_
  replace h0 := bnd h0; obtain ⟨y2, hy2, h0⟩ := h0
  refine kcall [0, 3, 5, 12] [1000000] (make_Clock_ok hy2) rfl rfl rfl Tryz.call25 (by simp) (by simp; rfl) ?_
  refine ko [0, 3, 5, 12, 13, 14] 2 (by simp; rfl) ?_
  refine tops_nil ?_
  refine tr_wk (wk_own 5 39 66 3 (by simp) (by simp)) ?_
  replace h0 := bnd h0; obtain ⟨e1, hI1, h0⟩ := h0
  refine tjv (fun v3 : (List Int) × Int × (List api_Steward) => ({ nt := 42, env := [(5, .vec 39)], box := [(1000000, [.d (.slice (rowsF (iRow .i64) v3.1)), .d (.int .i64 v3.2.1)])], vec := [(39, ⟨66, 3, rowsF api_Steward_row v3.2.2⟩)] } : St)) (fun v3 => v3 = e1) (fun v3 hI1e _ W1 => ?_) ?_
  · subst hI1e
    refine tr_wk W1 ?_
    refine kr [4] (by simp; rfl) ?_
    cases h0
    exact tr_ret ⟨[39], by simp, rfl, by simp⟩
  · refine tr_block (tr_iter (fun s4 : Int × (List Int) × Int × (List api_Steward) => ({ nt := 42, env := [(0, .ptr 1000000 0), (3, .ptr 3 0), (5, .vec 39), (12, .d (.slice (rowsF (iRow .i64) y2.1))), (13, .d (.int .i64 ((y2.1).length : Int))), (14, .d (.int .i64 s4.1))], box := [(3, [.d (.slice (rowsF (iRow .i64) a1.Kinds)), .d (.slice (rowsF api_Member_row a1.Events))]), (1000000, [.d (.slice (rowsF (iRow .i64) s4.2.1)), .d (.int .i64 s4.2.2.1)])], vec := [(39, ⟨66, 3, rowsF api_Steward_row s4.2.2.2⟩)] } : St)) hI1 (wk (by simp [weak_iff])) fun G1 s4 o1 h1 hg1 he1 => ?_)
    unfold make_Stewards_l0 at h1
    refine kr [0, 3, 5, 12, 13, 14, 15] (by simp; rfl) ?_
    refine tr_seq ?_
    refine tr_cond (b := (decide (s4.1 < ((y2.1).length : Int)))) (by simp) (fun c7 => ?_) (fun c7 => ?_)
    · rw [if_pos c7] at h1
      refine tr_skip ?_
      refine tr_seq ?_
      refine tr_block ?_
      replace h1 := bnd h1; obtain ⟨x5, p6, h1⟩ := h1
      replace p6 := idx_some p6
      have p6' := p6; try simp at p6'
      refine kr [0, 3, 5, 7, 12, 13, 14] (by simp [p6, p6']; rfl) ?_
      refine kd [[], [], [], [2], [3], [1, 4], [], [], [7], [8], [9], [4, 5, 6, 9, 10], [0, 4, 5, 9, 11], [], [4, 9, 12, 13]] [5, 11, 13, 14] [(8, [13, 14]), (1000000, [5, 11])] none [] 15 fol (by decide +kernel) (by simp) ?_
      refine dr_go 0 2 rfl (by simp (maxSteps := 1000000); rfl) ?_
      refine dr_go 2 2 rfl (by simp (maxSteps := 1000000); rfl) ?_
      refine dr_go 4 1 rfl (by simp (maxSteps := 1000000); rfl) ?_
      replace h1 := bnd h1; obtain ⟨y6, hy6, h1⟩ := h1
      refine dr_call 5 [1000000] (make_Tape_Next_ok hy6) rfl rfl rfl rfl rfl Tryz.call9 (by simp) ?_
      refine dr_go 6 2 rfl (by simp (maxSteps := 1000000); rfl) ?_
      refine dr_go 8 2 rfl (by simp (maxSteps := 1000000); rfl) ?_
      refine dr_go 10 1 rfl (by simp (maxSteps := 1000000); rfl) ?_
      replace h1 := bnd h1; obtain ⟨y7, hy7, h1⟩ := h1
      refine dr_call 11 [1000000] (make_Tape_Between_ok hy7) rfl rfl rfl rfl rfl Tryz.call10 (by simp) ?_
      refine dr_go 12 2 rfl (by simp (maxSteps := 1000000); rfl) ?_
      refine dr_go 14 1 rfl (by simp (maxSteps := 1000000); rfl) ?_
      refine dr_end rfl (tops_nil ?_)
      refine kr [0, 3, 5, 8, 12, 13, 14, 35] (by simp; rfl) ?_
      refine tr_cond (b := (y6.1 != y7.1)) (by simp) (fun c8 => ?_) (fun c8 => ?_)
      · rw [if_pos c8] at h1
        replace h1 := bnd h1; obtain ⟨_, p7, h1⟩ := h1
        replace p7 := ck_some p7
        have p7' := p7; try simp at p7'
        refine lr (by simp [p7, p7']; rfl) ?_
        refine lr (by simp; rfl) ?_
        exact ⟨_, hg1 _ (Option.some.inj h1), wk (by simp [weak_iff])⟩
      · rw [if_neg (by rw [c8]; decide)] at h1
        refine tr_skip ?_
        refine lr (by simp; rfl) ?_
        exact ⟨_, hg1 _ (Option.some.inj h1), wk (by simp [weak_iff])⟩
    · rw [if_neg (by rw [c7]; decide)] at h1
      refine tr_exit ?_
      exact ⟨_, he1 _ (Option.some.inj h1), wk (by simp [weak_iff])⟩
set_option maxHeartbeats 1000000 in
theorem ref41_Same_ok {a0 : List api_Notice} {a1 : List api_Notice} {r : Bool} (h0 : ref41_Same a0 a1 = some r) : FnOK Tryz.prog 19 [] [.d (.slice (rowsF api_Notice_row a0)), .d (.slice (rowsF api_Notice_row a1))] (.d (.bool r)) [] := by
  unfold ref41_Same at h0
  refine fn_ok (nt := 26) (rs := [.tmp 4]) Tryz.func19 rfl Tryz.ntmps19 rfl (by simp) (by decide) rfl fun K => ?_
  refine kr [0, 1] (by simp; rfl) ?_
  refine tr_seq ?_
  refine kr [0, 1, 10] (by simp; rfl) ?_
  refine tr_cond (b := (((a0).length : Int) != ((a1).length : Int))) (by simp) (fun c1 => ?_) (fun c1 => ?_)
  · rw [if_pos c1] at h0
    refine kr [4] (by simp; rfl) ?_
    cases h0
    exact tr_ret ⟨[], by simp, rfl, by simp⟩
  · rw [if_neg (by rw [c1]; decide)] at h0
    refine tr_skip ?_
    refine tr_seq ?_
    refine kr [0, 1, 12, 13] (by simp; rfl) ?_
    replace h0 := bnd h0; obtain ⟨e1, hI1, h0⟩ := h0
    refine tjv (fun v1 : Unit => ({ nt := 26, env := [], box := [], vec := [] } : St)) (fun v1 => .inl v1 = e1) (fun v1 hI1e _ W1 => ?_) ?_
    · subst hI1e
      dsimp only at h0
      refine tr_wk W1 ?_
      refine kr [4] (by simp; rfl) ?_
      cases h0
      exact tr_ret ⟨[], by simp, rfl, by simp⟩
    · refine tr_block (tr_iter (fun s2 : Int => ({ nt := 26, env := [(0, .d (.slice (rowsF api_Notice_row a0))), (1, .d (.slice (rowsF api_Notice_row a1))), (12, .d (.int .i64 ((a0).length : Int))), (13, .d (.int .i64 s2))], box := [], vec := [] } : St)) hI1 (wk (by simp [weak_iff])) fun G1 s2 o1 h1 hg1 he1 => ?_)
      unfold ref41_Same_l0 at h1
      refine kr [0, 1, 12, 13, 14] (by simp; rfl) ?_
      refine tr_seq ?_
      refine tr_cond (b := (decide (s2 < ((a0).length : Int)))) (by simp) (fun c6 => ?_) (fun c6 => ?_)
      · rw [if_pos c6] at h1
        refine tr_skip ?_
        refine tr_seq ?_
        refine tr_block ?_
        refine kr [0, 1, 5, 12, 13] (by simp; rfl) ?_
        refine kd [[], [], [0, 1], [2], [], [], [4, 5], [6], [3, 7]] [] [] none [] 9 fol (by decide +kernel) (by simp) ?_
        replace h1 := bnd h1; obtain ⟨x3, p17, h1⟩ := h1
        replace p17 := idx_some p17
        have p17' := p17; try simp at p17'
        replace h1 := bnd h1; obtain ⟨x4, p18, h1⟩ := h1
        replace p18 := idx_some p18
        have p18' := p18; try simp at p18'
        refine dr_go 0 2 rfl (by simp (maxSteps := 1000000) [p17, p18, p17', p18']; rfl) ?_
        refine dr_go 2 2 rfl (by simp (maxSteps := 1000000) [p17, p18, p17', p18']; rfl) ?_
        refine dr_go 4 2 rfl (by simp (maxSteps := 1000000) [p17, p18, p17', p18']; rfl) ?_
        refine dr_go 6 2 rfl (by simp (maxSteps := 1000000) [p17, p18, p17', p18']; rfl) ?_
        refine dr_go 8 1 rfl (by simp (maxSteps := 1000000) [p17, p18, p17', p18']; rfl) ?_
        refine dr_end rfl (tops_nil ?_)
        refine tr_cond (b := (!((x3.Time == x4.Time) && ((x3.Case == x4.Case) && ((x3.To == x4.To) && (x3.Step == x4.Step)))))) (by simp) (fun c7 => ?_) (fun c7 => ?_)
        · rw [if_pos c7] at h1
          refine kr [4] (by simp; rfl) ?_
          have k1 := he1 _ (Option.some.inj h1)
          subst k1
          dsimp only at h0
          cases h0
          exact tr_ret ⟨[], by simp, rfl, by simp⟩
        · rw [if_neg (by rw [c7]; decide)] at h1
          refine tr_skip ?_
          refine lr (by simp; rfl) ?_
          exact ⟨_, hg1 _ (Option.some.inj h1), wk (by simp [weak_iff])⟩
      · rw [if_neg (by rw [c6]; decide)] at h1
        refine tr_exit ?_
        exact ⟨_, he1 _ (Option.some.inj h1), wk (by simp [weak_iff])⟩
set_option maxHeartbeats 1000000 in
theorem ref23_Ints_ok {a0 : List Int} {a1 : List Int} {r : Bool} (h0 : ref23_Ints a0 a1 = some r) : FnOK Tryz.prog 20 [] [.d (.slice (rowsF (iRow .i64) a0)), .d (.slice (rowsF (iRow .i64) a1))] (.d (.bool r)) [] := by
  unfold ref23_Ints at h0
  refine fn_ok (nt := 26) (rs := [.tmp 4]) Tryz.func20 rfl Tryz.ntmps20 rfl (by simp) (by decide) rfl fun K => ?_
  refine kr [0, 1] (by simp; rfl) ?_
  refine tr_seq ?_
  refine kr [0, 1, 10] (by simp; rfl) ?_
  refine tr_cond (b := (((a0).length : Int) != ((a1).length : Int))) (by simp) (fun c1 => ?_) (fun c1 => ?_)
  · rw [if_pos c1] at h0
    refine kr [4] (by simp; rfl) ?_
    cases h0
    exact tr_ret ⟨[], by simp, rfl, by simp⟩
  · rw [if_neg (by rw [c1]; decide)] at h0
    refine tr_skip ?_
    refine tr_seq ?_
    refine kr [0, 1, 12, 13] (by simp; rfl) ?_
    replace h0 := bnd h0; obtain ⟨e1, hI1, h0⟩ := h0
    refine tjv (fun v1 : Unit => ({ nt := 26, env := [], box := [], vec := [] } : St)) (fun v1 => .inl v1 = e1) (fun v1 hI1e _ W1 => ?_) ?_
    · subst hI1e
      dsimp only at h0
      refine tr_wk W1 ?_
      refine kr [4] (by simp; rfl) ?_
      cases h0
      exact tr_ret ⟨[], by simp, rfl, by simp⟩
    · refine tr_block (tr_iter (fun s2 : Int => ({ nt := 26, env := [(0, .d (.slice (rowsF (iRow .i64) a0))), (1, .d (.slice (rowsF (iRow .i64) a1))), (12, .d (.int .i64 ((a0).length : Int))), (13, .d (.int .i64 s2))], box := [], vec := [] } : St)) hI1 (wk (by simp [weak_iff])) fun G1 s2 o1 h1 hg1 he1 => ?_)
      unfold ref23_Ints_l0 at h1
      refine kr [0, 1, 12, 13, 14] (by simp; rfl) ?_
      refine tr_seq ?_
      refine tr_cond (b := (decide (s2 < ((a0).length : Int)))) (by simp) (fun c6 => ?_) (fun c6 => ?_)
      · rw [if_pos c6] at h1
        refine tr_skip ?_
        refine tr_seq ?_
        refine tr_block ?_
        refine kr [0, 1, 5, 12, 13] (by simp; rfl) ?_
        refine kd [[], [], [0, 1], [2], [], [], [4, 5], [6], [3, 7]] [] [] none [] 9 fol (by decide +kernel) (by simp) ?_
        replace h1 := bnd h1; obtain ⟨x3, p17, h1⟩ := h1
        replace p17 := idx_some p17
        have p17' := p17; try simp at p17'
        replace h1 := bnd h1; obtain ⟨x4, p18, h1⟩ := h1
        replace p18 := idx_some p18
        have p18' := p18; try simp at p18'
        refine dr_go 0 2 rfl (by simp (maxSteps := 1000000) [p17, p18, p17', p18']; rfl) ?_
        refine dr_go 2 2 rfl (by simp (maxSteps := 1000000) [p17, p18, p17', p18']; rfl) ?_
        refine dr_go 4 2 rfl (by simp (maxSteps := 1000000) [p17, p18, p17', p18']; rfl) ?_
        refine dr_go 6 2 rfl (by simp (maxSteps := 1000000) [p17, p18, p17', p18']; rfl) ?_
        refine dr_go 8 1 rfl (by simp (maxSteps := 1000000) [p17, p18, p17', p18']; rfl) ?_
        refine dr_end rfl (tops_nil ?_)
        refine tr_cond (b := (x3 != x4)) (by simp) (fun c7 => ?_) (fun c7 => ?_)
        · rw [if_pos c7] at h1
          refine kr [4] (by simp; rfl) ?_
          have k1 := he1 _ (Option.some.inj h1)
          subst k1
          dsimp only at h0
          cases h0
          exact tr_ret ⟨[], by simp, rfl, by simp⟩
        · rw [if_neg (by rw [c7]; decide)] at h1
          refine tr_skip ?_
          refine lr (by simp; rfl) ?_
          exact ⟨_, hg1 _ (Option.some.inj h1), wk (by simp [weak_iff])⟩
      · rw [if_neg (by rw [c6]; decide)] at h1
        refine tr_exit ?_
        exact ⟨_, he1 _ (Option.some.inj h1), wk (by simp [weak_iff])⟩
set_option maxHeartbeats 1000000 in
theorem law41_NoticeExact_ok {a0 : List Int} {a1 : api_Directory} {a2 : List api_Steward} {a3 : List api_Case} {a4 : Int} {a5 : Int} {r : Bool} (h0 : law41_NoticeExact a0 a1 a2 a3 a4 a5 = some r) : FnOK Tryz.prog 3 [] [.d (.slice (rowsF (iRow .i64) a0)), .agg (api_Directory_av a1), .d (.slice (rowsF api_Steward_row a2)), .d (.slice (rowsF api_Case_row a3)), .d (.int .i64 a4), .d (.int .i64 a5)] (.d (.bool r)) [] := by
  unfold law41_NoticeExact at h0
  refine fn_ok (nt := 288) (rs := [.tmp 12]) Tryz.func3 rfl Tryz.ntmps3 rfl (by simp) (by decide) rfl fun K => ?_
  refine kr [0, 2, 3, 4, 5, 7] (by simp; rfl) ?_
  refine tr_seq ?_
  replace h0 := bnd h0; obtain ⟨v1, hvv1, h0⟩ := h0
  refine sjv (fun v1_ : Bool => ({ nt := 288, env := [(0, .d (.slice (rowsF (iRow .i64) a0))), (2, .d (.slice (rowsF api_Steward_row a2))), (3, .d (.slice (rowsF api_Case_row a3))), (4, .d (.int .i64 a4)), (5, .d (.int .i64 a5)), (7, .ptr 7 0), (66, .d (.bool v1_))], box := [(7, [.d (.slice (rowsF (iRow .i64) a1.Kinds)), .d (.slice (rowsF api_Member_row a1.Events))])], vec := [] } : St)) (fun v1_ => v1 = v1_) (fun v1_ e => ?_) ?_
  · subst e
    refine tr_cond (b := v1) (by simp) (fun c9 => ?_) (fun c9 => ?_)
    · rw [if_pos c9] at h0
      refine kc ?_
      replace h0 := bnd h0; obtain ⟨y2, hy2, h0⟩ := h0
      refine kcall [67] [] (law41_awake_ok hy2) rfl rfl rfl Tryz.call4 (by simp) (by simp; rfl) ?_
      refine ko [12] 1 (by simp; rfl) ?_
      refine tops_nil ?_
      cases h0
      exact tr_ret ⟨[], by simp, rfl, by simp⟩
    · rw [if_neg (by rw [c9]; decide)] at h0
      refine tr_skip ?_
      refine kr [2, 3, 4, 5, 7, 13] (by simp; rfl) ?_
      refine kc ?_
      refine ko [2, 3, 4, 5, 7, 13, 71] 1 (by simp; rfl) ?_
      replace h0 := bnd h0; obtain ⟨y3, hy3, h0⟩ := h0
      refine kcall [2, 3, 4, 5, 7, 13, 72] [70] (make_Calendar_ok hy3) rfl rfl rfl Tryz.call5 (by simp) (by simp; rfl) ?_
      refine ko [2, 3, 4, 5, 7, 13, 14] 2 (by simp; rfl) ?_
      refine tops_nil ?_
      refine kc ?_
      refine ko [2, 3, 4, 5, 7, 13, 14, 73] 1 (by simp; rfl) ?_
      replace h0 := bnd h0; obtain ⟨y4, hy4, h0⟩ := h0
      refine kcall [2, 3, 4, 5, 7, 13, 14, 74] [70] (make_Directory_ok hy4) rfl rfl rfl Tryz.call6 (by simp) (by simp; rfl) ?_
      refine ko [2, 3, 4, 5, 7, 13, 14, 15] 2 (by simp; rfl) ?_
      refine tops_nil ?_
      refine kd [[], [], [0, 1], [], [], [2, 3, 4], [2], [5]] [2, 5] [(70, [2, 5])] none [] 8 fol (by decide +kernel) (by simp) ?_
      refine dr_go 0 2 rfl (by simp (maxSteps := 1000000); rfl) ?_
      replace h0 := bnd h0; obtain ⟨y5, hy5, h0⟩ := h0
      refine dr_call 2 [70] (make_Stewards_ok hy5) rfl rfl rfl rfl rfl Tryz.call7 (by simp) ?_
      refine dr_go 3 2 rfl (by simp (maxSteps := 1000000); rfl) ?_
      replace h0 := bnd h0; obtain ⟨y6, hy6, h0⟩ := h0
      refine dr_call 5 [70] (make_Cases_ok hy6) rfl rfl rfl rfl rfl Tryz.call8 (by simp) ?_
      refine dr_go 6 2 rfl (by simp (maxSteps := 1000000); rfl) ?_
      refine dr_end rfl (tops_nil ?_)
      replace h0 := bnd h0; obtain ⟨_, p1, h0⟩ := h0
      replace p1 := ck_some p1
      have p1' := p1; try simp at p1'
      refine kr [2, 3, 4, 5, 7, 13, 14, 15, 16, 17, 18] (by simp [p1, p1']; rfl) ?_
      refine sjv (fun v7 : (List Int) × Int × (List api_Case) => ({ nt := 288, env := [(2, .d (.slice (rowsF api_Steward_row a2))), (3, .d (.slice (rowsF api_Case_row a3))), (4, .d (.int .i64 a4)), (5, .d (.int .i64 a5)), (7, .ptr 7 0), (13, .ptr 70 0), (14, .ptr 14 0), (15, .ptr 15 0), (16, .d (.slice (rowsF api_Steward_row y5.1))), (17, .d (.slice (rowsF api_Case_row y6.1))), (18, .vec 82)], box := [(7, [.d (.slice (rowsF (iRow .i64) a1.Kinds)), .d (.slice (rowsF api_Member_row a1.Events))]), (14, [.d (.int .i64 y3.1.Day), .d (.int .i64 y3.1.From), .d (.int .i64 y3.1.To), .d (.int .i64 y3.1.Week), .d (.slice (rowsF (iRow .i64) y3.1.Holidays))]), (15, [.d (.slice (rowsF (iRow .i64) y4.1.Kinds)), .d (.slice (rowsF api_Member_row y4.1.Events))]), (70, [.d (.slice (rowsF (iRow .i64) v7.1)), .d (.int .i64 v7.2.1)])], vec := [(82, ⟨40, 5, rowsF api_Case_row v7.2.2⟩)] } : St)) (fun v7 => law41_NoticeExact_j0 a4 y6 a3 y4 a1 y5 a2 a5 y3 v7 = some r) (fun v7 h0 => ?_) ?_
      · unfold law41_NoticeExact_j0 at h0
        refine kr [2, 3, 4, 5, 7, 13, 14, 15, 16, 17, 18, 20] (by simp; rfl) ?_
        refine kr [2, 3, 4, 5, 7, 13, 14, 15, 16, 17, 18, 20] (by simp; rfl) ?_
        refine tr_seq ?_
        refine kc ?_
        refine ko [2, 3, 5, 7, 13, 14, 15, 16, 17, 18, 20, 129, 130] 2 (by simp; rfl) ?_
        replace h0 := bnd h0; obtain ⟨y8, hy8, h0⟩ := h0
        refine kcall [2, 3, 5, 7, 13, 14, 15, 16, 17, 18, 20, 129, 131] [70] (make_Tape_Next_ok hy8) rfl rfl rfl Tryz.call9 (by simp) (by simp; rfl) ?_
        refine ko [2, 3, 5, 7, 13, 14, 15, 16, 17, 18, 20, 132, 133] 2 (by simp; rfl) ?_
        refine tops_nil ?_
        replace h0 := bnd h0; obtain ⟨l9, hl9, h0⟩ := h0
        replace hl9 := Option.some.inj hl9
        replace h0 := bnd h0; obtain ⟨e1, hI1, h0⟩ := h0
        refine tjv (fun v10 : Unit => ({ nt := 288, env := [(2, .d (.slice (rowsF api_Steward_row a2))), (3, .d (.slice (rowsF api_Case_row a3))), (5, .d (.int .i64 a5)), (7, .ptr 7 0), (13, .ptr 70 0), (14, .ptr 14 0), (15, .ptr 15 0), (16, .d (.slice (rowsF api_Steward_row y5.1))), (17, .d (.slice (rowsF api_Case_row y6.1))), (18, .vec 82), (20, .ptr 20 0)], box := [(7, [.d (.slice (rowsF (iRow .i64) a1.Kinds)), .d (.slice (rowsF api_Member_row a1.Events))]), (14, [.d (.int .i64 y3.1.Day), .d (.int .i64 y3.1.From), .d (.int .i64 y3.1.To), .d (.int .i64 y3.1.Week), .d (.slice (rowsF (iRow .i64) y3.1.Holidays))]), (15, [.d (.slice (rowsF (iRow .i64) y4.1.Kinds)), .d (.slice (rowsF api_Member_row y4.1.Events))]), (20, [.d (.int .i64 y3.1.Day), .d (.int .i64 y3.1.From), .d (.int .i64 y3.1.To), .d (.int .i64 0), .d (.slice (rowsF (iRow .i64) y3.1.Holidays))]), (70, [.d (.slice (rowsF (iRow .i64) y8.2.L)), .d (.int .i64 y8.2.at_)])], vec := [(82, ⟨40, 5, rowsF api_Case_row v7.2.2⟩)] } : St)) (fun v10 => .inl v10 = e1) (fun v10 hI1e _ W1 => ?_) ?_
        · subst hI1e
          dsimp only at h0
          refine tr_wk W1 ?_
          refine tr_seq ?_
          refine kr [2, 5, 7, 13, 14, 15, 16, 20, 145, 146] (by simp; rfl) ?_
          refine tr_wk (wk_frz 82) ?_
          replace h0 := bnd h0; obtain ⟨l11, hl11, h0⟩ := h0
          replace hl11 := Option.some.inj hl11
          replace h0 := bnd h0; obtain ⟨e2, hI2, h0⟩ := h0
          refine tjv (fun v12 : Unit => ({ nt := 288, env := [], box := [], vec := [] } : St)) (fun v12 => .inl v12 = e2) (fun v12 hI2e _ W2 => ?_) ?_
          · subst hI2e
            dsimp only at h0
            refine tr_wk W2 ?_
            refine kc ?_
            replace h0 := bnd h0; obtain ⟨y13, hy13, h0⟩ := h0
            refine kcall [287] [] (law41_awake_ok hy13) rfl rfl rfl Tryz.call4 (by simp) (by simp; rfl) ?_
            refine ko [12] 1 (by simp; rfl) ?_
            refine tops_nil ?_
            cases h0
            exact tr_ret ⟨[], by simp, rfl, by simp⟩
          · refine tr_block (tr_iter (fun s14 : Int × (List Int) × Int => ({ nt := 288, env := [(2, .d (.slice (rowsF api_Steward_row a2))), (5, .d (.int .i64 a5)), (7, .ptr 7 0), (13, .ptr 70 0), (14, .ptr 14 0), (15, .ptr 15 0), (16, .d (.slice (rowsF api_Steward_row y5.1))), (20, .ptr 20 0), (145, .agg (arC (slRow api_Case_row) l11)), (146, .d (.int .i64 s14.1))], box := [(7, [.d (.slice (rowsF (iRow .i64) a1.Kinds)), .d (.slice (rowsF api_Member_row a1.Events))]), (14, [.d (.int .i64 y3.1.Day), .d (.int .i64 y3.1.From), .d (.int .i64 y3.1.To), .d (.int .i64 y3.1.Week), .d (.slice (rowsF (iRow .i64) y3.1.Holidays))]), (15, [.d (.slice (rowsF (iRow .i64) y4.1.Kinds)), .d (.slice (rowsF api_Member_row y4.1.Events))]), (20, [.d (.int .i64 y3.1.Day), .d (.int .i64 y3.1.From), .d (.int .i64 y3.1.To), .d (.int .i64 0), .d (.slice (rowsF (iRow .i64) y3.1.Holidays))]), (70, [.d (.slice (rowsF (iRow .i64) s14.2.1)), .d (.int .i64 s14.2.2)])], vec := [] } : St)) hI2 (wk (by subst hl11; simp [weak_iff])) fun G2 s14 o2 h2 hg2 he2 => ?_)
            unfold law41_NoticeExact_l2 at h2
            refine kr [2, 5, 7, 13, 14, 15, 16, 20, 145, 146, 147] (by simp; rfl) ?_
            refine tr_seq ?_
            refine tr_cond (b := (decide (s14.1 < 3))) (by simp) (fun c95 => ?_) (fun c95 => ?_)
            · rw [if_pos c95] at h2
              refine tr_skip ?_
              refine tr_seq ?_
              refine tr_block ?_
              replace h2 := bnd h2; obtain ⟨_, p40, h2⟩ := h2
              replace p40 := ck_some p40
              have p40' := p40; try simp at p40'
              replace h2 := bnd h2; obtain ⟨x15, p41, h2⟩ := h2
              replace p41 := idx_some p41
              have p41' := p41; try simp at p41'
              have ix42 : indexVA Tryz.prog 44 (.agg (arC (slRow api_Case_row) l11)) s14.1 = some (.d (.slice (rowsF api_Case_row x15))) := indexVA_arC Tryz.underlying44 sz27 p41.1 p40 p41.2 (by simp) (by simp)
              refine kr [2, 5, 7, 13, 14, 15, 16, 20, 23, 24, 145, 146] (by simp [p40, p41, ix42, -indexVA, p40', p41']; rfl) ?_
              replace h2 := bnd h2; obtain ⟨l16, p43, h2⟩ := h2
              replace p43 := Option.some.inj p43
              replace h2 := bnd h2; obtain ⟨_, p44, h2⟩ := h2
              replace p44 := ck_some p44
              have p44' := p44; try simp at p44'
              replace h2 := bnd h2; obtain ⟨x17, p45, h2⟩ := h2
              replace p45 := idx_some p45
              have p45' := p45; try simp at p45'
              have ix46 : indexVA Tryz.prog 45 (.agg [.d (.slice (rowsF (iRow .i64) y4.1.Kinds)), .d (.slice (rowsF api_Member_row y4.1.Events)), .d (.slice (rowsF (iRow .i64) y4.1.Kinds)), .d (.slice (rowsF api_Member_row y4.1.Events)), .d (.slice (rowsF (iRow .i64) a1.Kinds)), .d (.slice (rowsF api_Member_row a1.Events))]) s14.1 = some (.agg [.d (.slice (rowsF (iRow .i64) x17.Kinds)), .d (.slice (rowsF api_Member_row x17.Events))]) := by subst p43; exact indexVA_arC (f := api_Directory_row) (l := [y4.1, y4.1, a1]) Tryz.underlying45 sz25 p45.1 p44 p45.2 (by simp) (by simp)
              refine kr [2, 5, 7, 13, 14, 15, 16, 20, 23, 24, 25, 145, 146] (by simp [p44, p45, ix46, -indexVA, p44', p45']; rfl) ?_
              replace h2 := bnd h2; obtain ⟨l18, p47, h2⟩ := h2
              replace p47 := Option.some.inj p47
              replace h2 := bnd h2; obtain ⟨_, p48, h2⟩ := h2
              replace p48 := ck_some p48
              have p48' := p48; try simp at p48'
              replace h2 := bnd h2; obtain ⟨x19, p49, h2⟩ := h2
              replace p49 := idx_some p49
              have p49' := p49; try simp at p49'
              have ix50 : indexVA Tryz.prog 46 (.agg [.d (.slice (rowsF api_Steward_row y5.1)), .d (.slice (rowsF api_Steward_row y5.1)), .d (.slice (rowsF api_Steward_row a2))]) s14.1 = some (.d (.slice (rowsF api_Steward_row x19))) := by subst p47; exact indexVA_arC (f := (slRow api_Steward_row)) (l := [y5.1, y5.1, a2]) Tryz.underlying46 sz26 p49.1 p48 p49.2 (by simp) (by simp)
              refine kr [2, 5, 7, 13, 14, 15, 16, 20, 24, 25, 26, 145, 146] (by simp [p48, p49, ix50, -indexVA, p48', p49']; rfl) ?_
              refine tr_seq ?_
              refine kd [[], [], [0, 1], [], [], [3, 4], [2, 5]] [] [] none [] 7 fol (by decide +kernel) (by simp) ?_
              refine dr_go 0 2 rfl (by simp (maxSteps := 1000000); rfl) ?_
              replace h2 := bnd h2; obtain ⟨y20, hy20, h2⟩ := h2
              refine dr_call 2 [] (notice_Check_ok hy20) rfl rfl rfl rfl rfl Tryz.call13 (by simp) ?_
              refine dr_go 3 2 rfl (by simp (maxSteps := 1000000); rfl) ?_
              replace h2 := bnd h2; obtain ⟨y21, hy21, h2⟩ := h2
              refine dr_call 5 [] (ref41_Check_ok hy21) rfl rfl rfl rfl rfl Tryz.call14 (by simp) ?_
              refine dr_go 6 1 rfl (by simp (maxSteps := 1000000); rfl) ?_
              refine dr_end rfl (tops_nil ?_)
              refine tr_cond (b := (y20 != y21)) (by simp) (fun c96 => ?_) (fun c96 => ?_)
              · rw [if_pos c96] at h2
                refine kr [12] (by simp; rfl) ?_
                have k1 := he2 _ (Option.some.inj h2)
                subst k1
                dsimp only at h0
                cases h0
                exact tr_ret ⟨[], by simp, rfl, by simp⟩
              · rw [if_neg (by rw [c96]; decide)] at h2
                refine tr_skip ?_
                refine tr_seq ?_
                refine kc ?_
                refine ko [2, 5, 7, 13, 14, 15, 16, 20, 24, 25, 26, 145, 146, 169, 170] 2 (by simp; rfl) ?_
                replace h2 := bnd h2; obtain ⟨y22, hy22, h2⟩ := h2
                refine kcall [2, 5, 7, 13, 14, 15, 16, 20, 24, 25, 26, 145, 146, 169, 171] [70] (make_Tape_Next_ok hy22) rfl rfl rfl Tryz.call9 (by simp) (by simp; rfl) ?_
                refine ko [2, 5, 7, 13, 14, 15, 16, 20, 24, 25, 26, 145, 146, 172, 173] 2 (by simp; rfl) ?_
                refine tops_nil ?_
                replace h2 := bnd h2; obtain ⟨l23, hl23, h2⟩ := h2
                replace hl23 := Option.some.inj hl23
                replace h2 := bnd h2; obtain ⟨e3, hI3, h2⟩ := h2
                refine tjv (fun v24 : Unit => ({ nt := 288, env := [(2, .d (.slice (rowsF api_Steward_row a2))), (5, .d (.int .i64 a5)), (7, .ptr 7 0), (13, .ptr 70 0), (14, .ptr 14 0), (15, .ptr 15 0), (16, .d (.slice (rowsF api_Steward_row y5.1))), (20, .ptr 20 0), (24, .d (.slice (rowsF api_Case_row x15))), (25, .ptr 25 0), (26, .d (.slice (rowsF api_Steward_row x19))), (145, .agg (arC (slRow api_Case_row) l11)), (146, .d (.int .i64 s14.1))], box := [(7, [.d (.slice (rowsF (iRow .i64) a1.Kinds)), .d (.slice (rowsF api_Member_row a1.Events))]), (14, [.d (.int .i64 y3.1.Day), .d (.int .i64 y3.1.From), .d (.int .i64 y3.1.To), .d (.int .i64 y3.1.Week), .d (.slice (rowsF (iRow .i64) y3.1.Holidays))]), (15, [.d (.slice (rowsF (iRow .i64) y4.1.Kinds)), .d (.slice (rowsF api_Member_row y4.1.Events))]), (20, [.d (.int .i64 y3.1.Day), .d (.int .i64 y3.1.From), .d (.int .i64 y3.1.To), .d (.int .i64 0), .d (.slice (rowsF (iRow .i64) y3.1.Holidays))]), (25, [.d (.slice (rowsF (iRow .i64) x17.Kinds)), .d (.slice (rowsF api_Member_row x17.Events))]), (70, [.d (.slice (rowsF (iRow .i64) y22.2.L)), .d (.int .i64 y22.2.at_)])], vec := [] } : St)) (fun v24 => .inl v24 = e3) (fun v24 hI3e _ W3 => ?_) ?_
                · subst hI3e
                  dsimp only at h2
                  refine tr_wk W3 ?_
                  refine kr [2, 5, 7, 13, 14, 15, 16, 20, 24, 25, 26, 37, 145, 146] (by simp; rfl) ?_
                  refine sjv (fun v25 : (List Int) × Int × Int => ({ nt := 288, env := [(2, .d (.slice (rowsF api_Steward_row a2))), (5, .d (.int .i64 a5)), (7, .ptr 7 0), (13, .ptr 70 0), (14, .ptr 14 0), (15, .ptr 15 0), (16, .d (.slice (rowsF api_Steward_row y5.1))), (20, .ptr 20 0), (24, .d (.slice (rowsF api_Case_row x15))), (25, .ptr 25 0), (26, .d (.slice (rowsF api_Steward_row x19))), (37, .ptr 37 0), (145, .agg (arC (slRow api_Case_row) l11)), (146, .d (.int .i64 s14.1))], box := [(7, [.d (.slice (rowsF (iRow .i64) a1.Kinds)), .d (.slice (rowsF api_Member_row a1.Events))]), (14, [.d (.int .i64 y3.1.Day), .d (.int .i64 y3.1.From), .d (.int .i64 y3.1.To), .d (.int .i64 y3.1.Week), .d (.slice (rowsF (iRow .i64) y3.1.Holidays))]), (15, [.d (.slice (rowsF (iRow .i64) y4.1.Kinds)), .d (.slice (rowsF api_Member_row y4.1.Events))]), (20, [.d (.int .i64 y3.1.Day), .d (.int .i64 y3.1.From), .d (.int .i64 y3.1.To), .d (.int .i64 0), .d (.slice (rowsF (iRow .i64) y3.1.Holidays))]), (25, [.d (.slice (rowsF (iRow .i64) x17.Kinds)), .d (.slice (rowsF api_Member_row x17.Events))]), (37, [.d (.int .i64 v25.2.2), .d (.int .i64 y3.1.From), .d (.int .i64 y3.1.To), .d (.int .i64 0), .d (.slice (rowsF (iRow .i64) y3.1.Holidays))]), (70, [.d (.slice (rowsF (iRow .i64) v25.1)), .d (.int .i64 v25.2.1)])], vec := [] } : St)) (fun v25 => law41_NoticeExact_j4 y3 x17 x19 x15 s14 v25 = some o2) (fun v25 h2 => ?_) ?_
                  · unfold law41_NoticeExact_j4 at h2
                    refine kc ?_
                    refine ko [2, 5, 7, 13, 14, 15, 16, 20, 24, 25, 26, 37, 145, 146, 258] 1 (by simp; rfl) ?_
                    replace h2 := bnd h2; obtain ⟨y26, hy26, h2⟩ := h2
                    refine kcall [2, 5, 7, 13, 14, 15, 16, 20, 24, 25, 26, 37, 145, 146, 259] [70] (make_Tape_Next_ok hy26) rfl rfl rfl Tryz.call9 (by simp) (by simp; rfl) ?_
                    refine ko [2, 5, 7, 13, 14, 15, 16, 20, 24, 25, 26, 37, 145, 146, 260] 1 (by simp; rfl) ?_
                    refine tops_nil ?_
                    refine tr_cond (b := (y26.1 == 7)) (by simp) (fun c130 => ?_) (fun c130 => ?_)
                    · rw [if_pos c130] at h2
                      refine kc ?_
                      refine ko [2, 5, 7, 13, 14, 15, 16, 20, 24, 25, 26, 37, 145, 146, 262, 263, 264, 265] 4 (by simp; rfl) ?_
                      replace h2 := bnd h2; obtain ⟨y27, hy27, h2⟩ := h2
                      refine kcall [2, 5, 7, 13, 14, 15, 16, 20, 24, 25, 26, 37, 145, 146, 266] [] (notice_All_ok hy27) rfl rfl rfl Tryz.call15 (by simp) (by simp; rfl) ?_
                      refine ko [2, 5, 7, 13, 14, 15, 16, 20, 24, 25, 26, 37, 38, 39, 145, 146] 5 (by simp; rfl) ?_
                      refine tops_nil ?_
                      refine kc ?_
                      refine ko [2, 5, 7, 13, 14, 15, 16, 20, 38, 39, 145, 146, 270, 271, 272, 273] 4 (by simp; rfl) ?_
                      replace h2 := bnd h2; obtain ⟨y28, hy28, h2⟩ := h2
                      refine kcall [2, 5, 7, 13, 14, 15, 16, 20, 38, 39, 145, 146, 274] [] (ref41_All_ok hy28) rfl rfl rfl Tryz.call16 (by simp) (by simp; rfl) ?_
                      refine ko [2, 5, 7, 13, 14, 15, 16, 20, 38, 39, 40, 41, 145, 146] 5 (by simp; rfl) ?_
                      refine tops_nil ?_
                      replace h2 := bnd h2; obtain ⟨v29, hvv29, h2⟩ := h2
                      refine sjv (fun v29_ : Bool => ({ nt := 288, env := [(2, .d (.slice (rowsF api_Steward_row a2))), (5, .d (.int .i64 a5)), (7, .ptr 7 0), (13, .ptr 70 0), (14, .ptr 14 0), (15, .ptr 15 0), (16, .d (.slice (rowsF api_Steward_row y5.1))), (20, .ptr 20 0), (145, .agg (arC (slRow api_Case_row) l11)), (146, .d (.int .i64 s14.1)), (285, .d (.bool v29_))], box := [(7, [.d (.slice (rowsF (iRow .i64) a1.Kinds)), .d (.slice (rowsF api_Member_row a1.Events))]), (14, [.d (.int .i64 y3.1.Day), .d (.int .i64 y3.1.From), .d (.int .i64 y3.1.To), .d (.int .i64 y3.1.Week), .d (.slice (rowsF (iRow .i64) y3.1.Holidays))]), (15, [.d (.slice (rowsF (iRow .i64) y4.1.Kinds)), .d (.slice (rowsF api_Member_row y4.1.Events))]), (20, [.d (.int .i64 y3.1.Day), .d (.int .i64 y3.1.From), .d (.int .i64 y3.1.To), .d (.int .i64 0), .d (.slice (rowsF (iRow .i64) y3.1.Holidays))]), (70, [.d (.slice (rowsF (iRow .i64) y26.2.L)), .d (.int .i64 y26.2.at_)])], vec := [] } : St)) (fun v29_ => v29 = v29_) (fun v29_ e => ?_) ?_
                      · subst e
                        refine tr_cond (b := v29) (by simp) (fun c133 => ?_) (fun c133 => ?_)
                        · rw [if_pos c133] at h2
                          refine kr [12] (by simp; rfl) ?_
                          have k1 := he2 _ (Option.some.inj h2)
                          subst k1
                          dsimp only at h0
                          cases h0
                          exact tr_ret ⟨[], by simp, rfl, by simp⟩
                        · rw [if_neg (by rw [c133]; decide)] at h2
                          refine tr_skip ?_
                          refine lr (by simp; rfl) ?_
                          exact ⟨_, hg2 _ (Option.some.inj h2), wk (by simp [weak_iff])⟩
                      · refine kc1 ?_
                        refine ko [2, 5, 7, 13, 14, 15, 16, 20, 38, 40, 145, 146, 280] 4 (by simp; rfl) ?_
                        refine tops_split 280 (y27.2 != y28.2) (by simp) (fun c134 => ?_) (fun c134 => ?_)
                        · rw [if_pos c134] at hvv29
                          refine kskip 4 [] (by kernel_rfl) ?_
                          refine ko [2, 5, 7, 13, 14, 15, 16, 20, 145, 146, 285] 1 (by simp; rfl) ?_
                          refine tops_nil ?_
                          cases hvv29
                          exact ⟨_, rfl, wk (by simp [weak_iff])⟩
                        · rw [if_neg (by rw [c134]; decide)] at hvv29
                          refine ko [2, 5, 7, 13, 14, 15, 16, 20, 145, 146, 280, 281, 282] 2 (by simp; rfl) ?_
                          replace hvv29 := bnd hvv29; obtain ⟨y30, hy30, hvv29⟩ := hvv29
                          refine kcall [2, 5, 7, 13, 14, 15, 16, 20, 145, 146, 280, 281, 282, 283] [] (ref41_Same_ok hy30) rfl rfl rfl Tryz.call19 (by simp) (by simp; rfl) ?_
                          refine ko [2, 5, 7, 13, 14, 15, 16, 20, 145, 146, 281, 282, 283, 284, 285] 2 (by simp; rfl) ?_
                          refine tops_nil ?_
                          cases hvv29
                          exact ⟨_, rfl, wk (by simp [weak_iff])⟩
                    · rw [if_neg (by rw [c130]; decide)] at h2
                      refine tr_skip ?_
                      refine lr (by simp; rfl) ?_
                      exact ⟨_, hg2 _ (Option.some.inj h2), wk (by simp [weak_iff])⟩
                  · refine kc ?_
                    refine ko [2, 5, 7, 13, 14, 15, 16, 20, 24, 25, 26, 37, 145, 146, 254] 1 (by simp; rfl) ?_
                    replace h2 := bnd h2; obtain ⟨y31, hy31, h2⟩ := h2
                    refine kcall [2, 5, 7, 13, 14, 15, 16, 20, 24, 25, 26, 37, 145, 146, 255] [70] (make_Tape_Next_ok hy31) rfl rfl rfl Tryz.call9 (by simp) (by simp; rfl) ?_
                    refine ko [2, 5, 7, 13, 14, 15, 16, 20, 24, 25, 26, 37, 145, 146, 256] 1 (by simp; rfl) ?_
                    refine tops_nil ?_
                    refine tr_cond (b := (y31.1 == 0)) (by simp) (fun c135 => ?_) (fun c135 => ?_)
                    · rw [if_pos c135] at h2
                      refine lr (by simp; rfl) ?_
                      exact ⟨_, h2, wk (by simp [weak_iff])⟩
                    · rw [if_neg (by rw [c135]; decide)] at h2
                      refine tr_skip ?_
                      exact ⟨_, h2, wk (by simp [weak_iff])⟩
                · refine tr_block (tr_iter (fun s32 : Int => ({ nt := 288, env := [(2, .d (.slice (rowsF api_Steward_row a2))), (5, .d (.int .i64 a5)), (7, .ptr 7 0), (13, .ptr 70 0), (14, .ptr 14 0), (15, .ptr 15 0), (16, .d (.slice (rowsF api_Steward_row y5.1))), (20, .ptr 20 0), (24, .d (.slice (rowsF api_Case_row x15))), (25, .ptr 25 0), (26, .d (.slice (rowsF api_Steward_row x19))), (145, .agg (arC (slRow api_Case_row) l11)), (146, .d (.int .i64 s14.1)), (172, .agg (arC (iRow .i64) l23)), (173, .d (.int .i64 s32))], box := [(7, [.d (.slice (rowsF (iRow .i64) a1.Kinds)), .d (.slice (rowsF api_Member_row a1.Events))]), (14, [.d (.int .i64 y3.1.Day), .d (.int .i64 y3.1.From), .d (.int .i64 y3.1.To), .d (.int .i64 y3.1.Week), .d (.slice (rowsF (iRow .i64) y3.1.Holidays))]), (15, [.d (.slice (rowsF (iRow .i64) y4.1.Kinds)), .d (.slice (rowsF api_Member_row y4.1.Events))]), (20, [.d (.int .i64 y3.1.Day), .d (.int .i64 y3.1.From), .d (.int .i64 y3.1.To), .d (.int .i64 0), .d (.slice (rowsF (iRow .i64) y3.1.Holidays))]), (25, [.d (.slice (rowsF (iRow .i64) x17.Kinds)), .d (.slice (rowsF api_Member_row x17.Events))]), (70, [.d (.slice (rowsF (iRow .i64) y22.2.L)), .d (.int .i64 y22.2.at_)])], vec := [] } : St)) hI3 (wk (by subst hl23; simp [weak_iff])) fun G3 s32 o3 h3 hg3 he3 => ?_)
                  unfold law41_NoticeExact_l3 at h3
                  refine kr [2, 5, 7, 13, 14, 15, 16, 20, 24, 25, 26, 145, 146, 172, 173, 174] (by simp; rfl) ?_
                  refine tr_seq ?_
                  refine tr_cond (b := (decide (s32 < 3))) (by simp) (fun c136 => ?_) (fun c136 => ?_)
                  · rw [if_pos c136] at h3
                    refine tr_skip ?_
                    refine tr_seq ?_
                    refine tr_block ?_
                    replace h3 := bnd h3; obtain ⟨_, p57, h3⟩ := h3
                    replace p57 := ck_some p57
                    have p57' := p57; try simp at p57'
                    replace h3 := bnd h3; obtain ⟨x33, p58, h3⟩ := h3
                    replace p58 := idx_some p58
                    have p58' := p58; try simp at p58'
                    have ix59 : indexVA Tryz.prog 43 (.agg (arC (iRow .i64) l23)) s32 = some (.d (.int .i64 x33)) := indexVA_arC Tryz.underlying43 sz3 p58.1 p57 p58.2 (by simp) (by simp)
                    refine kr [2, 5, 7, 13, 14, 15, 16, 20, 24, 25, 26, 28, 145, 146, 172, 173] (by simp [p57, p58, ix59, -indexVA, p57', p58']; rfl) ?_
                    refine sjv (fun v34 : Int => ({ nt := 288, env := [(2, .d (.slice (rowsF api_Steward_row a2))), (5, .d (.int .i64 a5)), (7, .ptr 7 0), (13, .ptr 70 0), (14, .ptr 14 0), (15, .ptr 15 0), (16, .d (.slice (rowsF api_Steward_row y5.1))), (20, .ptr 20 0), (24, .d (.slice (rowsF api_Case_row x15))), (25, .ptr 25 0), (26, .d (.slice (rowsF api_Steward_row x19))), (28, .d (.int .i64 v34)), (145, .agg (arC (slRow api_Case_row) l11)), (146, .d (.int .i64 s14.1)), (172, .agg (arC (iRow .i64) l23)), (173, .d (.int .i64 s32))], box := [(7, [.d (.slice (rowsF (iRow .i64) a1.Kinds)), .d (.slice (rowsF api_Member_row a1.Events))]), (14, [.d (.int .i64 y3.1.Day), .d (.int .i64 y3.1.From), .d (.int .i64 y3.1.To), .d (.int .i64 y3.1.Week), .d (.slice (rowsF (iRow .i64) y3.1.Holidays))]), (15, [.d (.slice (rowsF (iRow .i64) y4.1.Kinds)), .d (.slice (rowsF api_Member_row y4.1.Events))]), (20, [.d (.int .i64 y3.1.Day), .d (.int .i64 y3.1.From), .d (.int .i64 y3.1.To), .d (.int .i64 0), .d (.slice (rowsF (iRow .i64) y3.1.Holidays))]), (25, [.d (.slice (rowsF (iRow .i64) x17.Kinds)), .d (.slice (rowsF api_Member_row x17.Events))]), (70, [.d (.slice (rowsF (iRow .i64) y22.2.L)), .d (.int .i64 y22.2.at_)])], vec := [] } : St)) (fun v34 => law41_NoticeExact_j5 y3 x17 x19 x15 s32 v34 = some o3) (fun v34 h3 => ?_) ?_
                    · unfold law41_NoticeExact_j5 at h3
                      refine kc ?_
                      refine ko [2, 5, 7, 13, 14, 15, 16, 20, 24, 25, 26, 28, 145, 146, 172, 173, 185, 186, 187, 188, 189] 5 (by simp; rfl) ?_
                      replace h3 := bnd h3; obtain ⟨y35, hy35, h3⟩ := h3
                      refine kcall [2, 5, 7, 13, 14, 15, 16, 20, 24, 25, 26, 28, 145, 146, 172, 173, 190] [] (notice_All_ok hy35) rfl rfl rfl Tryz.call15 (by simp) (by simp; rfl) ?_
                      refine ko [2, 5, 7, 13, 14, 15, 16, 20, 24, 25, 26, 28, 29, 30, 145, 146, 172, 173] 5 (by simp; rfl) ?_
                      refine tops_nil ?_
                      refine kc ?_
                      refine ko [2, 5, 7, 13, 14, 15, 16, 20, 24, 25, 26, 28, 29, 30, 145, 146, 172, 173, 194, 195, 196, 197, 198] 5 (by simp; rfl) ?_
                      replace h3 := bnd h3; obtain ⟨y36, hy36, h3⟩ := h3
                      refine kcall [2, 5, 7, 13, 14, 15, 16, 20, 24, 25, 26, 28, 29, 30, 145, 146, 172, 173, 199] [] (ref41_All_ok hy36) rfl rfl rfl Tryz.call16 (by simp) (by simp; rfl) ?_
                      refine ko [2, 5, 7, 13, 14, 15, 16, 20, 24, 25, 26, 28, 29, 30, 31, 32, 145, 146, 172, 173] 5 (by simp; rfl) ?_
                      refine tops_nil ?_
                      refine kc ?_
                      refine ko [2, 5, 7, 13, 14, 15, 16, 20, 24, 25, 26, 28, 29, 30, 31, 32, 145, 146, 172, 173, 203, 204, 205, 206, 207] 5 (by simp; rfl) ?_
                      replace h3 := bnd h3; obtain ⟨y37, hy37, h3⟩ := h3
                      refine kcall [2, 5, 7, 13, 14, 15, 16, 20, 24, 25, 26, 28, 29, 30, 31, 32, 145, 146, 172, 173, 208] [] (notice_Late_ok hy37) rfl rfl rfl Tryz.call17 (by simp) (by simp; rfl) ?_
                      refine ko [2, 5, 7, 13, 14, 15, 16, 20, 24, 25, 26, 28, 29, 30, 31, 32, 33, 34, 145, 146, 172, 173] 5 (by simp; rfl) ?_
                      refine tops_nil ?_
                      refine kc ?_
                      refine ko [2, 5, 7, 13, 14, 15, 16, 20, 24, 25, 26, 28, 29, 30, 31, 32, 33, 34, 145, 146, 172, 173, 212, 213, 214, 215, 216] 5 (by simp; rfl) ?_
                      replace h3 := bnd h3; obtain ⟨y38, hy38, h3⟩ := h3
                      refine kcall [2, 5, 7, 13, 14, 15, 16, 20, 24, 25, 26, 28, 29, 30, 31, 32, 33, 34, 145, 146, 172, 173, 217] [] (ref41_Late_ok hy38) rfl rfl rfl Tryz.call18 (by simp) (by simp; rfl) ?_
                      refine ko [2, 5, 7, 13, 14, 15, 16, 20, 24, 25, 26, 28, 29, 30, 31, 32, 33, 34, 35, 36, 145, 146, 172, 173] 5 (by simp; rfl) ?_
                      refine tops_nil ?_
                      replace h3 := bnd h3; obtain ⟨v39, hvv39, h3⟩ := h3
                      refine sjv (fun v39_ : Bool => ({ nt := 288, env := [(2, .d (.slice (rowsF api_Steward_row a2))), (5, .d (.int .i64 a5)), (7, .ptr 7 0), (13, .ptr 70 0), (14, .ptr 14 0), (15, .ptr 15 0), (16, .d (.slice (rowsF api_Steward_row y5.1))), (20, .ptr 20 0), (24, .d (.slice (rowsF api_Case_row x15))), (25, .ptr 25 0), (26, .d (.slice (rowsF api_Steward_row x19))), (145, .agg (arC (slRow api_Case_row) l11)), (146, .d (.int .i64 s14.1)), (172, .agg (arC (iRow .i64) l23)), (173, .d (.int .i64 s32)), (251, .d (.bool v39_))], box := [(7, [.d (.slice (rowsF (iRow .i64) a1.Kinds)), .d (.slice (rowsF api_Member_row a1.Events))]), (14, [.d (.int .i64 y3.1.Day), .d (.int .i64 y3.1.From), .d (.int .i64 y3.1.To), .d (.int .i64 y3.1.Week), .d (.slice (rowsF (iRow .i64) y3.1.Holidays))]), (15, [.d (.slice (rowsF (iRow .i64) y4.1.Kinds)), .d (.slice (rowsF api_Member_row y4.1.Events))]), (20, [.d (.int .i64 y3.1.Day), .d (.int .i64 y3.1.From), .d (.int .i64 y3.1.To), .d (.int .i64 0), .d (.slice (rowsF (iRow .i64) y3.1.Holidays))]), (25, [.d (.slice (rowsF (iRow .i64) x17.Kinds)), .d (.slice (rowsF api_Member_row x17.Events))]), (70, [.d (.slice (rowsF (iRow .i64) y22.2.L)), .d (.int .i64 y22.2.at_)])], vec := [] } : St)) (fun v39_ => v39 = v39_) (fun v39_ e => ?_) ?_
                      · subst e
                        refine tr_cond (b := v39) (by simp) (fun c163 => ?_) (fun c163 => ?_)
                        · rw [if_pos c163] at h3
                          refine kr [12] (by simp; rfl) ?_
                          have k2 := he3 _ (Option.some.inj h3)
                          subst k2
                          dsimp only at h2
                          have k1 := he2 _ (Option.some.inj h2)
                          subst k1
                          dsimp only at h0
                          cases h0
                          exact tr_ret ⟨[], by simp, rfl, by simp⟩
                        · rw [if_neg (by rw [c163]; decide)] at h3
                          refine tr_skip ?_
                          refine lr (by simp; rfl) ?_
                          exact ⟨_, hg3 _ (Option.some.inj h3), wk (by simp [weak_iff])⟩
                      · refine kd1 [[], [], [0, 1], [2], [3], [3], [3, 4, 5], [3, 6], [3, 7], [8], [9], [9], [9, 10, 11], [9, 12], [13], [14], [14], [14, 15, 16], [14, 17], [14, 18], [19], [20], [20], [20], [20, 21, 22, 23], [20], [20], [20], [20, 25, 26, 27], [20, 24, 28], [20, 29], [20, 30]] [] [] none [] 32 fol (by decide +kernel) (by simp) ?_
                        refine dr_go 0 2 rfl (by simp (maxSteps := 1000000); rfl) ?_
                        refine dr_go 2 2 rfl (by simp (maxSteps := 1000000); rfl) ?_
                        refine dr_split 3 223 (y35.2 != y36.2) (by simp) (fun c172 => ?_) (fun c172 => ?_)
                        · rw [if_pos c172] at hvv39
                          refine dr_skip 4 288 [some 224, some 225, some 226, some 227] rfl rfl (by decide) (by kernel_rfl) (by simp only [skEf, List.map_cons, List.map_nil, List.cons_append, List.nil_append]; rfl) ?_
                          refine dr_go 8 2 rfl (by simp (maxSteps := 1000000); rfl) ?_
                          refine dr_skip 10 288 [some 230, some 231, some 232] rfl rfl (by decide) (by kernel_rfl) (by simp only [skEf, List.map_cons, List.map_nil, List.cons_append, List.nil_append]; rfl) ?_
                          refine dr_go 13 2 rfl (by simp (maxSteps := 1000000); rfl) ?_
                          refine dr_skip 15 288 [some 235, some 236, some 237, some 238] rfl rfl (by decide) (by kernel_rfl) (by simp only [skEf, List.map_cons, List.map_nil, List.cons_append, List.nil_append]; rfl) ?_
                          refine dr_go 19 2 rfl (by simp (maxSteps := 1000000); rfl) ?_
                          refine dr_skip 21 288 [some 241, some 242, some 243, some 244, some 245, some 246, some 247, some 248, some 249, some 250] rfl rfl (by decide) (by kernel_rfl) (by simp only [skEf, List.map_cons, List.map_nil, List.cons_append, List.nil_append]; rfl) ?_
                          refine dr_go 31 1 rfl (by simp (maxSteps := 1000000); rfl) ?_
                          refine dr_end rfl (tops_nil ?_)
                          cases hvv39
                          exact ⟨_, rfl, wk (by simp [weak_iff])⟩
                        · rw [if_neg (by rw [c172]; decide)] at hvv39
                          refine dr_go 4 2 rfl (by simp (maxSteps := 1000000); rfl) ?_
                          replace hvv39 := bnd hvv39; obtain ⟨y40, hy40, hvv39⟩ := hvv39
                          refine dr_call 6 [] (ref41_Same_ok hy40) rfl rfl rfl rfl rfl Tryz.call19 (by simp) ?_
                          refine dr_go 7 2 rfl (by simp (maxSteps := 1000000); rfl) ?_
                          refine dr_go 9 1 rfl (by simp (maxSteps := 1000000); rfl) ?_
                          refine dr_split 9 229 (!y40) (by simp) (fun c173 => ?_) (fun c173 => ?_)
                          · rw [if_pos c173] at hvv39
                            refine dr_skip 10 288 [some 230, some 231, some 232] rfl rfl (by decide) (by kernel_rfl) (by simp only [skEf, List.map_cons, List.map_nil, List.cons_append, List.nil_append]; rfl) ?_
                            refine dr_go 13 2 rfl (by simp (maxSteps := 1000000); rfl) ?_
                            refine dr_skip 15 288 [some 235, some 236, some 237, some 238] rfl rfl (by decide) (by kernel_rfl) (by simp only [skEf, List.map_cons, List.map_nil, List.cons_append, List.nil_append]; rfl) ?_
                            refine dr_go 19 2 rfl (by simp (maxSteps := 1000000); rfl) ?_
                            refine dr_skip 21 288 [some 241, some 242, some 243, some 244, some 245, some 246, some 247, some 248, some 249, some 250] rfl rfl (by decide) (by kernel_rfl) (by simp only [skEf, List.map_cons, List.map_nil, List.cons_append, List.nil_append]; rfl) ?_
                            refine dr_go 31 1 rfl (by simp (maxSteps := 1000000); rfl) ?_
                            refine dr_end rfl (tops_nil ?_)
                            cases hvv39
                            exact ⟨_, rfl, wk (by simp [weak_iff])⟩
                          · rw [if_neg (by rw [c173]; decide)] at hvv39
                            refine dr_go 10 2 rfl (by simp (maxSteps := 1000000); rfl) ?_
                            refine dr_go 12 2 rfl (by simp (maxSteps := 1000000); rfl) ?_
                            refine dr_go 14 1 rfl (by simp (maxSteps := 1000000); rfl) ?_
                            refine dr_split 14 234 (y37.2 != y38.2) (by simp) (fun c174 => ?_) (fun c174 => ?_)
                            · rw [if_pos c174] at hvv39
                              refine dr_skip 15 288 [some 235, some 236, some 237, some 238] rfl rfl (by decide) (by kernel_rfl) (by simp only [skEf, List.map_cons, List.map_nil, List.cons_append, List.nil_append]; rfl) ?_
                              refine dr_go 19 2 rfl (by simp (maxSteps := 1000000); rfl) ?_
                              refine dr_skip 21 288 [some 241, some 242, some 243, some 244, some 245, some 246, some 247, some 248, some 249, some 250] rfl rfl (by decide) (by kernel_rfl) (by simp only [skEf, List.map_cons, List.map_nil, List.cons_append, List.nil_append]; rfl) ?_
                              refine dr_go 31 1 rfl (by simp (maxSteps := 1000000); rfl) ?_
                              refine dr_end rfl (tops_nil ?_)
                              cases hvv39
                              exact ⟨_, rfl, wk (by simp [weak_iff])⟩
                            · rw [if_neg (by rw [c174]; decide)] at hvv39
                              refine dr_go 15 2 rfl (by simp (maxSteps := 1000000); rfl) ?_
                              replace hvv39 := bnd hvv39; obtain ⟨y41, hy41, hvv39⟩ := hvv39
                              refine dr_call 17 [] (ref23_Ints_ok hy41) rfl rfl rfl rfl rfl Tryz.call20 (by simp) ?_
                              refine dr_go 18 2 rfl (by simp (maxSteps := 1000000); rfl) ?_
                              refine dr_go 20 1 rfl (by simp (maxSteps := 1000000); rfl) ?_
                              refine dr_split 20 240 (!y41) (by simp) (fun c175 => ?_) (fun c175 => ?_)
                              · rw [if_pos c175] at hvv39
                                refine dr_skip 21 288 [some 241, some 242, some 243, some 244, some 245, some 246, some 247, some 248, some 249, some 250] rfl rfl (by decide) (by kernel_rfl) (by simp only [skEf, List.map_cons, List.map_nil, List.cons_append, List.nil_append]; rfl) ?_
                                refine dr_go 31 1 rfl (by simp (maxSteps := 1000000); rfl) ?_
                                refine dr_end rfl (tops_nil ?_)
                                cases hvv39
                                exact ⟨_, rfl, wk (by simp [weak_iff])⟩
                              · rw [if_neg (by rw [c175]; decide)] at hvv39
                                refine dr_go 21 2 rfl (by simp (maxSteps := 1000000); rfl) ?_
                                refine dr_go 23 1 rfl (by simp (maxSteps := 1000000); rfl) ?_
                                replace hvv39 := bnd hvv39; obtain ⟨y42, hy42, hvv39⟩ := hvv39
                                refine dr_call 24 [] (notice_Open_ok hy42) rfl rfl rfl rfl rfl Tryz.call21 (by simp) ?_
                                refine dr_go 25 2 rfl (by simp (maxSteps := 1000000); rfl) ?_
                                refine dr_go 27 1 rfl (by simp (maxSteps := 1000000); rfl) ?_
                                replace hvv39 := bnd hvv39; obtain ⟨y43, hy43, hvv39⟩ := hvv39
                                refine dr_call 28 [] (ref41_Open_ok hy43) rfl rfl rfl rfl rfl Tryz.call22 (by simp) ?_
                                replace hvv39 := bnd hvv39; obtain ⟨y44, hy44, hvv39⟩ := hvv39
                                refine dr_call 29 [] (ref23_Ints_ok hy44) rfl rfl rfl rfl rfl Tryz.call20 (by simp) ?_
                                refine dr_go 30 2 rfl (by simp (maxSteps := 1000000); rfl) ?_
                                refine dr_end rfl (tops_nil ?_)
                                cases hvv39
                                exact ⟨_, rfl, wk (by simp [weak_iff])⟩
                    · replace h3 := bnd h3; obtain ⟨v45, hvv45, h3⟩ := h3
                      refine sjv (fun v45_ : Bool => ({ nt := 288, env := [(2, .d (.slice (rowsF api_Steward_row a2))), (5, .d (.int .i64 a5)), (7, .ptr 7 0), (13, .ptr 70 0), (14, .ptr 14 0), (15, .ptr 15 0), (16, .d (.slice (rowsF api_Steward_row y5.1))), (20, .ptr 20 0), (24, .d (.slice (rowsF api_Case_row x15))), (25, .ptr 25 0), (26, .d (.slice (rowsF api_Steward_row x19))), (28, .d (.int .i64 x33)), (145, .agg (arC (slRow api_Case_row) l11)), (146, .d (.int .i64 s14.1)), (172, .agg (arC (iRow .i64) l23)), (173, .d (.int .i64 s32)), (181, .d (.bool v45_))], box := [(7, [.d (.slice (rowsF (iRow .i64) a1.Kinds)), .d (.slice (rowsF api_Member_row a1.Events))]), (14, [.d (.int .i64 y3.1.Day), .d (.int .i64 y3.1.From), .d (.int .i64 y3.1.To), .d (.int .i64 y3.1.Week), .d (.slice (rowsF (iRow .i64) y3.1.Holidays))]), (15, [.d (.slice (rowsF (iRow .i64) y4.1.Kinds)), .d (.slice (rowsF api_Member_row y4.1.Events))]), (20, [.d (.int .i64 y3.1.Day), .d (.int .i64 y3.1.From), .d (.int .i64 y3.1.To), .d (.int .i64 0), .d (.slice (rowsF (iRow .i64) y3.1.Holidays))]), (25, [.d (.slice (rowsF (iRow .i64) x17.Kinds)), .d (.slice (rowsF api_Member_row x17.Events))]), (70, [.d (.slice (rowsF (iRow .i64) y22.2.L)), .d (.int .i64 y22.2.at_)])], vec := [] } : St)) (fun v45_ => v45 = v45_) (fun v45_ e => ?_) ?_
                      · subst e
                        refine tr_cond (b := v45) (by simp) (fun c178 => ?_) (fun c178 => ?_)
                        · rw [if_pos c178] at h3
                          refine lr (by simp; rfl) ?_
                          exact ⟨_, h3, wk (by simp [weak_iff])⟩
                        · rw [if_neg (by rw [c178]; decide)] at h3
                          refine tr_skip ?_
                          exact ⟨_, h3, wk (by simp [weak_iff])⟩
                      · refine kc1 ?_
                        refine ko [2, 5, 7, 13, 14, 15, 16, 20, 24, 25, 26, 28, 145, 146, 172, 173, 178] 3 (by simp; rfl) ?_
                        refine tops_split 178 (decide (400 < x33)) (by simp) (fun c179 => ?_) (fun c179 => ?_)
                        · rw [c179] at hvv45
                          refine ko [2, 5, 7, 13, 14, 15, 16, 20, 24, 25, 26, 28, 145, 146, 172, 173, 179, 180, 181] 3 (by simp; rfl) ?_
                          refine tops_nil ?_
                          cases hvv45
                          exact ⟨_, rfl, wk (by simp [weak_iff])⟩
                        · rw [c179] at hvv45
                          refine ko [2, 5, 7, 13, 14, 15, 16, 20, 24, 25, 26, 28, 145, 146, 172, 173, 179, 180, 181] 3 (by simp; rfl) ?_
                          refine tops_nil ?_
                          cases hvv45
                          exact ⟨_, rfl, wk (by simp [weak_iff])⟩
                  · rw [if_neg (by rw [c136]; decide)] at h3
                    refine tr_exit ?_
                    exact ⟨_, he3 _ (Option.some.inj h3), wk (by simp [weak_iff])⟩
            · rw [if_neg (by rw [c95]; decide)] at h2
              refine tr_exit ?_
              exact ⟨_, he2 _ (Option.some.inj h2), wk (by simp [weak_iff])⟩
        · refine tr_block (tr_iter (fun s50 : Int => ({ nt := 288, env := [(2, .d (.slice (rowsF api_Steward_row a2))), (3, .d (.slice (rowsF api_Case_row a3))), (5, .d (.int .i64 a5)), (7, .ptr 7 0), (13, .ptr 70 0), (14, .ptr 14 0), (15, .ptr 15 0), (16, .d (.slice (rowsF api_Steward_row y5.1))), (17, .d (.slice (rowsF api_Case_row y6.1))), (18, .vec 82), (20, .ptr 20 0), (132, .agg (arC (iRow .i64) l9)), (133, .d (.int .i64 s50))], box := [(7, [.d (.slice (rowsF (iRow .i64) a1.Kinds)), .d (.slice (rowsF api_Member_row a1.Events))]), (14, [.d (.int .i64 y3.1.Day), .d (.int .i64 y3.1.From), .d (.int .i64 y3.1.To), .d (.int .i64 y3.1.Week), .d (.slice (rowsF (iRow .i64) y3.1.Holidays))]), (15, [.d (.slice (rowsF (iRow .i64) y4.1.Kinds)), .d (.slice (rowsF api_Member_row y4.1.Events))]), (20, [.d (.int .i64 y3.1.Day), .d (.int .i64 y3.1.From), .d (.int .i64 y3.1.To), .d (.int .i64 0), .d (.slice (rowsF (iRow .i64) y3.1.Holidays))]), (70, [.d (.slice (rowsF (iRow .i64) y8.2.L)), .d (.int .i64 y8.2.at_)])], vec := [(82, ⟨40, 5, rowsF api_Case_row v7.2.2⟩)] } : St)) hI1 (wk (by subst hl9; simp [weak_iff])) fun G3 s50 o3 h3 hg3 he3 => ?_)
          unfold law41_NoticeExact_l1 at h3
          refine kr [2, 3, 5, 7, 13, 14, 15, 16, 17, 18, 20, 132, 133, 134] (by simp; rfl) ?_
          refine tr_seq ?_
          refine tr_cond (b := (decide (s50 < 3))) (by simp) (fun c180 => ?_) (fun c180 => ?_)
          · rw [if_pos c180] at h3
            refine tr_skip ?_
            refine tr_seq ?_
            refine tr_block ?_
            replace h3 := bnd h3; obtain ⟨_, p60, h3⟩ := h3
            replace p60 := ck_some p60
            have p60' := p60; try simp at p60'
            replace h3 := bnd h3; obtain ⟨x51, p61, h3⟩ := h3
            replace p61 := idx_some p61
            have p61' := p61; try simp at p61'
            have ix62 : indexVA Tryz.prog 43 (.agg (arC (iRow .i64) l9)) s50 = some (.d (.int .i64 x51)) := indexVA_arC Tryz.underlying43 sz3 p61.1 p60 p61.2 (by simp) (by simp)
            refine kr [2, 3, 5, 7, 13, 14, 15, 16, 17, 18, 20, 22, 132, 133] (by simp [p60, p61, ix62, -indexVA, p60', p61']; rfl) ?_
            refine kc ?_
            refine ko [2, 3, 5, 7, 13, 14, 15, 16, 17, 18, 20, 22, 132, 133, 136] 1 (by simp; rfl) ?_
            replace h3 := bnd h3; obtain ⟨y52, hy52, h3⟩ := h3
            refine kcall [2, 3, 5, 7, 13, 14, 15, 16, 17, 18, 20, 22, 132, 133, 137] [] (notice_Deadline_ok hy52) rfl rfl rfl Tryz.call11 (by simp) (by simp; rfl) ?_
            refine ko [2, 3, 5, 7, 13, 14, 15, 16, 17, 18, 20, 132, 133, 137, 138] 1 (by simp; rfl) ?_
            replace h3 := bnd h3; obtain ⟨y53, hy53, h3⟩ := h3
            refine kcall [2, 3, 5, 7, 13, 14, 15, 16, 17, 18, 20, 132, 133, 137, 139] [] (ref41_Deadline_ok hy53) rfl rfl rfl Tryz.call12 (by simp) (by simp; rfl) ?_
            refine ko [2, 3, 5, 7, 13, 14, 15, 16, 17, 18, 20, 132, 133, 140] 1 (by simp; rfl) ?_
            refine tops_nil ?_
            refine tr_cond (b := (y52 != y53)) (by simp) (fun c181 => ?_) (fun c181 => ?_)
            · rw [if_pos c181] at h3
              refine kr [12] (by simp; rfl) ?_
              have k1 := he3 _ (Option.some.inj h3)
              subst k1
              dsimp only at h0
              cases h0
              exact tr_ret ⟨[], by simp, rfl, by simp⟩
            · rw [if_neg (by rw [c181]; decide)] at h3
              refine tr_skip ?_
              refine lr (by simp; rfl) ?_
              exact ⟨_, hg3 _ (Option.some.inj h3), wk (by simp [weak_iff])⟩
          · rw [if_neg (by rw [c180]; decide)] at h3
            refine tr_exit ?_
            exact ⟨_, he3 _ (Option.some.inj h3), wk (by simp [weak_iff])⟩
      · refine kr [2, 3, 4, 5, 7, 13, 14, 15, 16, 17, 18, 85] (by simp; rfl) ?_
        refine tr_cond (b := (decide (0 < ((y6.1).length : Int)))) (by simp) (fun c182 => ?_) (fun c182 => ?_)
        · rw [if_pos c182] at h0
          refine kc ?_
          refine ko [2, 3, 4, 5, 7, 13, 14, 15, 16, 17, 18, 86, 87, 89] 4 (by simp; rfl) ?_
          replace h0 := bnd h0; obtain ⟨y56, hy56, h0⟩ := h0
          refine kcall [2, 3, 4, 5, 7, 13, 14, 15, 16, 17, 18, 86, 90] [70] (make_Tape_Next_ok hy56) rfl rfl rfl Tryz.call9 (by simp) (by simp; rfl) ?_
          replace h0 := bnd h0; obtain ⟨_, p63, h0⟩ := h0
          replace p63 := ck_some p63
          have p63' := p63; try simp at p63'
          have p63o : y56.1 < (((y6.1)).length : Int) := by omega
          refine ko [2, 3, 4, 5, 7, 13, 14, 15, 16, 17, 18, 19] 2 (by simp [p63, p63o, p63']; rfl) ?_
          refine tops_nil ?_
          refine kc ?_
          refine ko [2, 3, 4, 5, 7, 13, 14, 15, 16, 17, 18, 19, 92] 1 (by simp; rfl) ?_
          replace h0 := bnd h0; obtain ⟨y57, hy57, h0⟩ := h0
          refine kcall [2, 3, 4, 5, 7, 13, 14, 15, 16, 17, 18, 19, 93] [70] (make_Tape_Next_ok hy57) rfl rfl rfl Tryz.call9 (by simp) (by simp; rfl) ?_
          refine tops_nil ?_
          refine tr_block ?_
          refine kr [2, 3, 4, 5, 7, 13, 14, 15, 16, 17, 18, 19, 93, 99] (by simp; rfl) ?_
          refine tr_cond (b := (y57.1 == 0)) (by simp) (fun c183 => ?_) (fun c183 => ?_)
          · rw [if_pos c183] at h0
            refine kc1 ?_
            refine ko [2, 3, 4, 5, 7, 13, 14, 15, 16, 17, 18, 101, 102] 2 (by simp; rfl) ?_
            replace h0 := bnd h0; obtain ⟨y58, hy58, h0⟩ := h0
            refine kcall [2, 3, 4, 5, 7, 13, 14, 15, 16, 17, 18, 101, 103] [70] (make_Tape_Between_ok hy58) rfl rfl rfl Tryz.call10 (by simp) (by simp; rfl) ?_
            replace h0 := bnd h0; obtain ⟨x59, p64, h0⟩ := h0
            replace p64 := idx_some p64
            have p64' := p64; try simp at p64'
            refine ko [2, 3, 4, 5, 7, 13, 14, 15, 16, 17, 18] 3 (by simp [-getElem?_pos, List.getElem?_cons_zero, List.getElem?_cons_succ, p64, (List.getElem?_eq_some_iff.1 p64.2).1, p64']; rfl) ?_
            refine tops_nil ?_
            exact ⟨_, h0, wk (by simp [weak_iff])⟩
          · rw [if_neg (by rw [c183]; decide)] at h0
            refine kr [2, 3, 4, 5, 7, 13, 14, 15, 16, 17, 18, 19, 93, 106] (by simp; rfl) ?_
            refine tr_cond (b := (y57.1 == 1)) (by simp) (fun c184 => ?_) (fun c184 => ?_)
            · rw [if_pos c184] at h0
              refine kc1 ?_
              refine ko [2, 3, 4, 5, 7, 13, 14, 15, 16, 17, 18, 108, 109] 2 (by simp; rfl) ?_
              replace h0 := bnd h0; obtain ⟨y60, hy60, h0⟩ := h0
              refine kcall [2, 3, 4, 5, 7, 13, 14, 15, 16, 17, 18, 108, 110] [70] (make_Tape_Next_ok hy60) rfl rfl rfl Tryz.call9 (by simp) (by simp; rfl) ?_
              replace h0 := bnd h0; obtain ⟨x61, p65, h0⟩ := h0
              replace p65 := idx_some p65
              have p65' := p65; try simp at p65'
              refine ko [2, 3, 4, 5, 7, 13, 14, 15, 16, 17, 18] 3 (by simp [-getElem?_pos, List.getElem?_cons_zero, List.getElem?_cons_succ, p65, (List.getElem?_eq_some_iff.1 p65.2).1, p65']; rfl) ?_
              refine tops_nil ?_
              exact ⟨_, h0, wk (by simp [weak_iff])⟩
            · rw [if_neg (by rw [c184]; decide)] at h0
              refine kr [2, 3, 4, 5, 7, 13, 14, 15, 16, 17, 18, 19, 93, 113] (by simp; rfl) ?_
              refine tr_cond (b := (y57.1 == 2)) (by simp) (fun c185 => ?_) (fun c185 => ?_)
              · rw [if_pos c185] at h0
                refine kc1 ?_
                refine ko [2, 3, 4, 5, 7, 13, 14, 15, 16, 17, 18, 115, 116] 2 (by simp; rfl) ?_
                replace h0 := bnd h0; obtain ⟨y62, hy62, h0⟩ := h0
                refine kcall [2, 3, 4, 5, 7, 13, 14, 15, 16, 17, 18, 115, 117] [70] (make_Tape_Between_ok hy62) rfl rfl rfl Tryz.call10 (by simp) (by simp; rfl) ?_
                replace h0 := bnd h0; obtain ⟨x63, p66, h0⟩ := h0
                replace p66 := idx_some p66
                have p66' := p66; try simp at p66'
                refine ko [2, 3, 4, 5, 7, 13, 14, 15, 16, 17, 18] 3 (by simp [-getElem?_pos, List.getElem?_cons_zero, List.getElem?_cons_succ, p66, (List.getElem?_eq_some_iff.1 p66.2).1, p66']; rfl) ?_
                refine tops_nil ?_
                exact ⟨_, h0, wk (by simp [weak_iff])⟩
              · rw [if_neg (by rw [c185]; decide)] at h0
                refine kr [2, 3, 4, 5, 7, 13, 14, 15, 16, 17, 18, 19, 120] (by simp; rfl) ?_
                refine tr_cond (b := (y57.1 == 3)) (by simp) (fun c186 => ?_) (fun c186 => ?_)
                · rw [if_pos c186] at h0
                  refine kc1 ?_
                  refine ko [2, 3, 4, 5, 7, 13, 14, 15, 16, 17, 18, 122, 123] 2 (by simp; rfl) ?_
                  replace h0 := bnd h0; obtain ⟨y64, hy64, h0⟩ := h0
                  refine kcall [2, 3, 4, 5, 7, 13, 14, 15, 16, 17, 18, 122, 124] [70] (make_Tape_Next_ok hy64) rfl rfl rfl Tryz.call9 (by simp) (by simp; rfl) ?_
                  replace h0 := bnd h0; obtain ⟨x65, p67, h0⟩ := h0
                  replace p67 := idx_some p67
                  have p67' := p67; try simp at p67'
                  refine ko [2, 3, 4, 5, 7, 13, 14, 15, 16, 17, 18] 3 (by simp [-getElem?_pos, List.getElem?_cons_zero, List.getElem?_cons_succ, p67, (List.getElem?_eq_some_iff.1 p67.2).1, p67']; rfl) ?_
                  refine tops_nil ?_
                  exact ⟨_, h0, wk (by simp [weak_iff])⟩
                · rw [if_neg (by rw [c186]; decide)] at h0
                  refine kc1 ?_
                  refine ko [2, 3, 4, 5, 7, 13, 14, 15, 16, 17, 18, 94, 95] 2 (by simp; rfl) ?_
                  replace h0 := bnd h0; obtain ⟨y66, hy66, h0⟩ := h0
                  refine kcall [2, 3, 4, 5, 7, 13, 14, 15, 16, 17, 18, 94, 96] [70] (make_Tape_Between_ok hy66) rfl rfl rfl Tryz.call10 (by simp) (by simp; rfl) ?_
                  replace h0 := bnd h0; obtain ⟨x67, p68, h0⟩ := h0
                  replace p68 := idx_some p68
                  have p68' := p68; try simp at p68'
                  refine ko [2, 3, 4, 5, 7, 13, 14, 15, 16, 17, 18] 3 (by simp [-getElem?_pos, List.getElem?_cons_zero, List.getElem?_cons_succ, p68, (List.getElem?_eq_some_iff.1 p68.2).1, p68']; rfl) ?_
                  refine tops_nil ?_
                  exact ⟨_, h0, wk (by simp [weak_iff])⟩
        · rw [if_neg (by rw [c182]; decide)] at h0
          refine tr_skip ?_
          exact ⟨_, h0, wk (by simp [weak_iff])⟩
  · refine kc1 ?_
    refine ko [0, 2, 3, 4, 5, 7, 45] 4 (by simp; rfl) ?_
    refine tops_split 45 (decide (400 < ((a0).length : Int))) (by simp) (fun c187 => ?_) (fun c187 => ?_)
    · rw [c187] at hvv1
      refine kskip 4 [] (by kernel_rfl) ?_
      refine ko [0, 2, 3, 4, 5, 7, 51] 2 (by simp; rfl) ?_
      refine kskip 4 [] (by kernel_rfl) ?_
      refine ko [0, 2, 3, 4, 5, 7, 57] 2 (by simp; rfl) ?_
      refine kskip 3 [] (by kernel_rfl) ?_
      refine ko [0, 2, 3, 4, 5, 7, 62] 2 (by simp; rfl) ?_
      refine kskip 3 [] (by kernel_rfl) ?_
      refine ko [0, 2, 3, 4, 5, 7, 66] 1 (by simp; rfl) ?_
      refine tops_nil ?_
      cases hvv1
      exact ⟨_, rfl, wk (by simp [weak_iff])⟩
    · rw [c187] at hvv1
      refine ko [0, 2, 3, 4, 5, 7, 51] 6 (by simp; rfl) ?_
      refine tops_split 51 (decide (26 < ((a1.Kinds).length : Int))) (by simp) (fun c188 => ?_) (fun c188 => ?_)
      · rw [c188] at hvv1
        refine kskip 4 [] (by kernel_rfl) ?_
        refine ko [0, 2, 3, 4, 5, 7, 57] 2 (by simp; rfl) ?_
        refine kskip 3 [] (by kernel_rfl) ?_
        refine ko [0, 2, 3, 4, 5, 7, 62] 2 (by simp; rfl) ?_
        refine kskip 3 [] (by kernel_rfl) ?_
        refine ko [0, 2, 3, 4, 5, 7, 66] 1 (by simp; rfl) ?_
        refine tops_nil ?_
        cases hvv1
        exact ⟨_, rfl, wk (by simp [weak_iff])⟩
      · rw [c188] at hvv1
        refine ko [0, 2, 3, 4, 5, 7, 57] 6 (by simp; rfl) ?_
        refine tops_split 57 (decide (20 < ((a1.Events).length : Int))) (by simp) (fun c189 => ?_) (fun c189 => ?_)
        · rw [c189] at hvv1
          refine kskip 3 [] (by kernel_rfl) ?_
          refine ko [0, 2, 3, 4, 5, 7, 62] 2 (by simp; rfl) ?_
          refine kskip 3 [] (by kernel_rfl) ?_
          refine ko [0, 2, 3, 4, 5, 7, 66] 1 (by simp; rfl) ?_
          refine tops_nil ?_
          cases hvv1
          exact ⟨_, rfl, wk (by simp [weak_iff])⟩
        · rw [c189] at hvv1
          refine ko [0, 2, 3, 4, 5, 7, 62] 5 (by simp; rfl) ?_
          refine tops_split 62 (decide (20 < ((a2).length : Int))) (by simp) (fun c190 => ?_) (fun c190 => ?_)
          · rw [c190] at hvv1
            refine kskip 3 [] (by kernel_rfl) ?_
            refine ko [0, 2, 3, 4, 5, 7, 66] 1 (by simp; rfl) ?_
            refine tops_nil ?_
            cases hvv1
            exact ⟨_, rfl, wk (by simp [weak_iff])⟩
          · rw [c190] at hvv1
            refine ko [0, 2, 3, 4, 5, 7, 66] 4 (by simp; rfl) ?_
            refine tops_nil ?_
            cases hvv1
            exact ⟨_, rfl, wk (by simp [weak_iff])⟩
end Go.Vl
