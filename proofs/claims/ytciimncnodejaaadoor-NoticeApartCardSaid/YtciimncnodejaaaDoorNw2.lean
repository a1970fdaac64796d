/- Walks: each function of the given program computes what its mirror says. Conditions: none. -/
import Derived.Test.YtciimncnodejaaaDoorNw1
set_option linter.unusedSimpArgs false
set_option linter.unusedVariables false
namespace Go.Vl
open Go Go.Proofs
set_option maxHeartbeats 1000000 in
theorem make_Clock_ok {a0 : make_Tape} {a1 : Int} {r : (List Int) × make_Tape} (h0 : make_Clock a0 a1 = some r) : FnOK Tryd.prog 24 [make_Tape_av a0] [.ptr (InO 0) 0, .d (.int .i64 a1)] (.d (.slice (rowsF (iRow .i64) r.1))) [make_Tape_av r.2] := by
  unfold make_Clock at h0
  refine fn_ok (nt := 24) (rs := [.tmp 4]) Tryd.func24 rfl Tryd.ntmps24 rfl (by simp) (by decide) rfl fun K => ?_
  refine kr [0, 1] (by simp; rfl) ?_
  refine kr [0, 1, 5] (by simp; rfl) ?_
  refine kc ?_
  refine ko [0, 1, 5, 8] 1 (by simp; rfl) ?_
  replace h0 := bnd h0; obtain ⟨y1, hy1, h0⟩ := h0
  refine kcall [0, 1, 5, 9] [1000000] (make_Tape_Next_ok hy1) rfl rfl rfl Tryd.call17 (by simp) (by simp; rfl) ?_
  refine ko [0, 1, 5, 6] 1 (by simp; rfl) ?_
  refine tops_nil ?_
  refine tr_seq ?_
  refine kr [0, 1, 5, 6, 7] (by simp; rfl) ?_
  refine tr_wk (wk_own 5 22 3 1 (by simp) (by simp)) ?_
  replace h0 := bnd h0; obtain ⟨e1, hI1, h0⟩ := h0
  refine tjv (fun v2 : (List Int) × Int × (List Int) => ({ nt := 24, env := [(5, .vec 22)], box := [(1000000, [.d (.slice (rowsF (iRow .i64) v2.1)), .d (.int .i64 v2.2.1)])], vec := [(22, ⟨3, 1, rowsF (iRow .i64) v2.2.2⟩)] } : St)) (fun v2 => v2 = e1) (fun v2 hI1e _ W1 => ?_) ?_
  · subst hI1e
    refine tr_wk W1 ?_
    refine kr [4] (by simp; rfl) ?_
    cases h0
    exact tr_ret ⟨[22], by simp, rfl, by simp⟩
  · refine tr_block (tr_iter (fun s3 : Int × Int × (List Int) × Int × (List Int) => ({ nt := 24, env := [(0, .ptr 1000000 0), (1, .d (.int .i64 a1)), (5, .vec 22), (6, .d (.int .i64 s3.1)), (7, .d (.int .i64 s3.2.1))], box := [(1000000, [.d (.slice (rowsF (iRow .i64) s3.2.2.1)), .d (.int .i64 s3.2.2.2.1)])], vec := [(22, ⟨3, 1, rowsF (iRow .i64) s3.2.2.2.2⟩)] } : St)) hI1 (wk (by simp [weak_iff])) fun G1 s3 o1 h1 hg1 he1 => ?_)
    unfold make_Clock_l0 at h1
    refine tr_seq ?_
    refine kr [0, 1, 5, 6, 7, 12] (by simp; rfl) ?_
    refine tr_cond (b := (decide (s3.2.1 < a1))) (by simp) (fun c4 => ?_) (fun c4 => ?_)
    · rw [if_pos c4] at h1
      refine tr_skip ?_
      refine tr_seq ?_
      refine tr_block ?_
      refine kc ?_
      refine ko [0, 1, 5, 7, 15, 16] 2 (by simp; rfl) ?_
      replace h1 := bnd h1; obtain ⟨y4, hy4, h1⟩ := h1
      refine kcall [0, 1, 5, 7, 15, 17] [1000000] (make_Tape_Next_ok hy4) rfl rfl rfl Tryd.call17 (by simp) (by simp; rfl) ?_
      refine ko [0, 1, 5, 6, 7] 2 (by simp; rfl) ?_
      refine tops_nil ?_
      replace h1 := bnd h1; obtain ⟨_, p3, h1⟩ := h1
      replace p3 := ck_some p3
      have p3' := p3; try simp at p3'
      refine lr (by simp [p3, p3']; rfl) ?_
      refine lr (by simp; rfl) ?_
      exact ⟨_, hg1 _ (Option.some.inj h1), wk (by simp [weak_iff])⟩
    · rw [if_neg (by rw [c4]; decide)] at h1
      refine tr_exit ?_
      exact ⟨_, he1 _ (Option.some.inj h1), wk (by simp [weak_iff])⟩
set_option maxHeartbeats 1000000 in
theorem make_Directory_ok {a0 : make_Tape} {r : api_Directory × make_Tape} (h0 : make_Directory a0 = some r) : FnOK Tryd.prog 9 [make_Tape_av a0] [.ptr (InO 0) 0] (.agg (api_Directory_av r.1)) [make_Tape_av r.2] := by
  unfold make_Directory at h0
  refine fn_ok (nt := 86) (rs := [.cell 2 32]) Tryd.func9 rfl Tryd.ntmps9 rfl (by simp) (by decide) rfl fun K => ?_
  refine kr [0, 2] (by simp; rfl) ?_
  refine kr [0, 2, 3] (by simp; rfl) ?_
  refine tr_seq ?_
  refine kc ?_
  refine ko [0, 2, 3, 13] 1 (by simp; rfl) ?_
  replace h0 := bnd h0; obtain ⟨y1, hy1, h0⟩ := h0
  refine kcall [0, 2, 3, 14] [1000000] (make_Tape_Between_ok hy1) rfl rfl rfl Tryd.call21 (by simp) (by simp; rfl) ?_
  refine ko [0, 2, 3, 4] 1 (by simp; rfl) ?_
  refine tops_nil ?_
  replace h0 := bnd h0; obtain ⟨l2, hl2, h0⟩ := h0
  replace hl2 := Option.some.inj hl2
  replace h0 := bnd h0; obtain ⟨e1, hI1, h0⟩ := h0
  refine tjv (fun v3 : (List Int) × Int × (List Int) => ({ nt := 86, env := [(0, .ptr 1000000 0), (2, .ptr 2 0), (3, .ptr 3 0)], box := [(2, [.nilS, .nilS]), (3, [.vec 11, .nilS]), (1000000, [.d (.slice (rowsF (iRow .i64) v3.1)), .d (.int .i64 v3.2.1)])], vec := [(11, ⟨3, 1, rowsF (iRow .i64) v3.2.2⟩)] } : St)) (fun v3 => v3 = e1) (fun v3 hI1e _ W1 => ?_) ?_
  · subst hI1e
    refine tr_wk W1 ?_
    refine kr [0, 2, 3, 5] (by simp; rfl) ?_
    refine tr_seq ?_
    refine kr [0, 2, 3, 5, 28, 29, 30] (by simp; rfl) ?_
    refine tr_wk (wk_own 5 40 3 1 (by simp) (by simp)) ?_
    replace h0 := bnd h0; obtain ⟨e2, hI2, h0⟩ := h0
    refine tjv (fun v4 : (List Int) => ({ nt := 86, env := [(0, .ptr 1000000 0), (2, .ptr 2 0), (3, .ptr 3 0), (5, .vec 40)], box := [(2, [.nilS, .nilS]), (3, [.vec 11, .nilS]), (1000000, [.d (.slice (rowsF (iRow .i64) v3.1)), .d (.int .i64 v3.2.1)])], vec := [(11, ⟨3, 1, rowsF (iRow .i64) v3.2.2⟩), (40, ⟨3, 1, rowsF (iRow .i64) v4⟩)] } : St)) (fun v4 => v4 = e2) (fun v4 hI2e _ W2 => ?_) ?_
    · subst hI2e
      refine tr_wk W2 ?_
      refine tr_seq ?_
      refine kr [0, 2, 3, 5, 44] (by simp; rfl) ?_
      refine tr_cond (b := (((v4).length : Int) == 0)) (by simp) (fun c9 => ?_) (fun c9 => ?_)
      · rw [if_pos c9] at h0
        refine kr [2] (by simp; rfl) ?_
        cases h0
        exact tr_ret ⟨[11], by simp, rfl, by simp⟩
      · rw [if_neg (by rw [c9]; decide)] at h0
        refine tr_skip ?_
        refine tr_seq ?_
        refine kc ?_
        refine ko [0, 2, 3, 5, 46, 47] 2 (by simp; rfl) ?_
        replace h0 := bnd h0; obtain ⟨y5, hy5, h0⟩ := h0
        refine kcall [0, 2, 3, 5, 46, 48] [1000000] (make_Tape_Next_ok hy5) rfl rfl rfl Tryd.call17 (by simp) (by simp; rfl) ?_
        replace h0 := bnd h0; obtain ⟨y6, hy6, h0⟩ := h0
        refine kcall [0, 2, 3, 5, 49] [1000000] (make_Clock_ok hy6) rfl rfl rfl Tryd.call24 (by simp) (by simp; rfl) ?_
        refine ko [0, 2, 3, 5, 49, 50, 51] 2 (by simp; rfl) ?_
        refine tops_nil ?_
        refine tr_wk (wk_ownbox 3 1 82 61 4 (by simp; rfl) (by simp) (by simp)) ?_
        replace h0 := bnd h0; obtain ⟨e3, hI3, h0⟩ := h0
        refine tjv (fun v7 : (List Int) × Int × (List api_Member) => ({ nt := 86, env := [(2, .ptr 2 0), (3, .ptr 3 0)], box := [(2, [.nilS, .nilS]), (3, [.vec 11, .vec 82]), (1000000, [.d (.slice (rowsF (iRow .i64) v7.1)), .d (.int .i64 v7.2.1)])], vec := [(11, ⟨3, 1, rowsF (iRow .i64) v3.2.2⟩), (82, ⟨61, 4, rowsF api_Member_row v7.2.2⟩)] } : St)) (fun v7 => v7 = e3) (fun v7 hI3e _ W3 => ?_) ?_
        · subst hI3e
          refine tr_wk W3 ?_
          refine kr [2] (by simp; rfl) ?_
          cases h0
          exact tr_ret ⟨[11, 82], by simp, rfl, by simp⟩
        · refine tr_block (tr_iter (fun s8 : Int × (List Int) × Int × (List api_Member) => ({ nt := 86, env := [(0, .ptr 1000000 0), (2, .ptr 2 0), (3, .ptr 3 0), (5, .vec 40), (49, .d (.slice (rowsF (iRow .i64) y6.1))), (50, .d (.int .i64 ((y6.1).length : Int))), (51, .d (.int .i64 s8.1))], box := [(2, [.nilS, .nilS]), (3, [.vec 11, .vec 82]), (1000000, [.d (.slice (rowsF (iRow .i64) s8.2.1)), .d (.int .i64 s8.2.2.1)])], vec := [(11, ⟨3, 1, rowsF (iRow .i64) v3.2.2⟩), (40, ⟨3, 1, rowsF (iRow .i64) v4⟩), (82, ⟨61, 4, rowsF api_Member_row s8.2.2.2⟩)] } : St)) hI3 (wk (by simp [weak_iff])) fun G3 s8 o3 h3 hg3 he3 => ?_)
          unfold make_Directory_l2 at h3
          refine kr [0, 2, 3, 5, 49, 50, 51, 52] (by simp; rfl) ?_
          refine tr_seq ?_
          refine tr_cond (b := (decide (s8.1 < ((y6.1).length : Int)))) (by simp) (fun c19 => ?_) (fun c19 => ?_)
          · rw [if_pos c19] at h3
            refine tr_skip ?_
            refine tr_seq ?_
            refine tr_block ?_
            replace h3 := bnd h3; obtain ⟨x9, p26, h3⟩ := h3
            replace p26 := idx_some p26
            have p26' := p26; try simp at p26'
            refine kr [0, 2, 3, 5, 9, 49, 50, 51] (by simp [p26, p26']; rfl) ?_
            refine kc ?_
            refine ko [0, 2, 3, 5, 49, 50, 51, 55, 56, 59] 5 (by simp; rfl) ?_
            replace h3 := bnd h3; obtain ⟨y10, hy10, h3⟩ := h3
            refine kcall [0, 2, 3, 5, 49, 50, 51, 55, 60] [1000000] (make_Tape_Next_ok hy10) rfl rfl rfl Tryd.call17 (by simp) (by simp; rfl) ?_
            refine ko [0, 2, 3, 5, 49, 50, 51, 55, 60, 61, 62, 64] 4 (by simp; rfl) ?_
            replace h3 := bnd h3; obtain ⟨y11, hy11, h3⟩ := h3
            refine kcall [0, 2, 3, 5, 49, 50, 51, 55, 60, 61, 65] [1000000] (make_Tape_Next_ok hy11) rfl rfl rfl Tryd.call17 (by simp) (by simp; rfl) ?_
            replace h3 := bnd h3; obtain ⟨_, p27, h3⟩ := h3
            replace p27 := ck_some p27
            have p27' := p27; try simp at p27'
            have p27o : y11.1 < (((v4)).length : Int) := by omega
            replace h3 := bnd h3; obtain ⟨x12, p28, h3⟩ := h3
            replace p28 := idx_some p28
            have p28' := p28; try simp at p28'
            refine ko [0, 2, 3, 5, 10, 49, 50, 51] 5 (by simp [-getElem?_pos, List.getElem?_cons_zero, List.getElem?_cons_succ, p27, p27o, p28, p27', p28']; rfl) ?_
            refine tops_nil ?_
            refine sjv (fun v13 : (List Int) × Int × Int => ({ nt := 86, env := [(0, .ptr 1000000 0), (2, .ptr 2 0), (3, .ptr 3 0), (5, .vec 40), (10, .ptr 10 0), (49, .d (.slice (rowsF (iRow .i64) y6.1))), (50, .d (.int .i64 ((y6.1).length : Int))), (51, .d (.int .i64 s8.1))], box := [(2, [.nilS, .nilS]), (3, [.vec 11, .vec 82]), (10, [.d (.int .i64 x9), .d (.int .i64 v13.2.2), .d (.int .i64 y10.1), .d (.int .i64 x12)]), (1000000, [.d (.slice (rowsF (iRow .i64) v13.1)), .d (.int .i64 v13.2.1)])], vec := [(11, ⟨3, 1, rowsF (iRow .i64) v3.2.2⟩), (40, ⟨3, 1, rowsF (iRow .i64) v4⟩), (82, ⟨61, 4, rowsF api_Member_row s8.2.2.2⟩)] } : St)) (fun v13 => make_Directory_j3 y10 x12 s8 x9 v13 = some o3) (fun v13 h3 => ?_) ?_
            · unfold make_Directory_j3 at h3
              refine kr [0, 2, 3, 5, 10, 49, 50, 51, 77] (by simp; rfl) ?_
              refine tr_cond (b := (y10.1 != x12)) (by simp) (fun c21 => ?_) (fun c21 => ?_)
              · rw [if_pos c21] at h3
                replace h3 := bnd h3; obtain ⟨_, p29, h3⟩ := h3
                replace p29 := ck_some p29
                have p29' := p29; try simp at p29'
                refine lr (by simp [p29, p29']; rfl) ?_
                refine lr (by simp; rfl) ?_
                exact ⟨_, hg3 _ (Option.some.inj h3), wk (by simp [weak_iff])⟩
              · rw [if_neg (by rw [c21]; decide)] at h3
                refine tr_skip ?_
                refine lr (by simp; rfl) ?_
                exact ⟨_, hg3 _ (Option.some.inj h3), wk (by simp [weak_iff])⟩
            · refine kc ?_
              refine ko [0, 2, 3, 5, 10, 49, 50, 51, 69] 1 (by simp; rfl) ?_
              replace h3 := bnd h3; obtain ⟨y14, hy14, h3⟩ := h3
              refine kcall [0, 2, 3, 5, 10, 49, 50, 51, 70] [1000000] (make_Tape_Next_ok hy14) rfl rfl rfl Tryd.call17 (by simp) (by simp; rfl) ?_
              refine ko [0, 2, 3, 5, 10, 49, 50, 51, 71] 1 (by simp; rfl) ?_
              refine tops_nil ?_
              refine tr_cond (b := (y14.1 == 3)) (by simp) (fun c22 => ?_) (fun c22 => ?_)
              · rw [if_pos c22] at h3
                refine lr (by simp; rfl) ?_
                exact ⟨_, h3, wk (by simp [weak_iff])⟩
              · rw [if_neg (by rw [c22]; decide)] at h3
                refine tr_skip ?_
                exact ⟨_, h3, wk (by simp [weak_iff])⟩
          · rw [if_neg (by rw [c19]; decide)] at h3
            refine tr_exit ?_
            exact ⟨_, he3 _ (Option.some.inj h3), wk (by simp [weak_iff])⟩
    · refine tr_block (tr_iter (fun s15 : Int × (List Int) => ({ nt := 86, env := [(0, .ptr 1000000 0), (2, .ptr 2 0), (3, .ptr 3 0), (5, .vec 40), (28, .vec 11), (29, .d (.int .i64 ((v3.2.2).length : Int))), (30, .d (.int .i64 s15.1))], box := [(2, [.nilS, .nilS]), (3, [.vec 11, .nilS]), (1000000, [.d (.slice (rowsF (iRow .i64) v3.1)), .d (.int .i64 v3.2.1)])], vec := [(11, ⟨3, 1, rowsF (iRow .i64) v3.2.2⟩), (40, ⟨3, 1, rowsF (iRow .i64) s15.2⟩)] } : St)) hI2 (wk (by simp [weak_iff])) fun G3 s15 o3 h3 hg3 he3 => ?_)
      unfold make_Directory_l1 at h3
      refine kr [0, 2, 3, 5, 28, 29, 30, 31] (by simp; rfl) ?_
      refine tr_seq ?_
      refine tr_cond (b := (decide (s15.1 < ((v3.2.2).length : Int)))) (by simp) (fun c23 => ?_) (fun c23 => ?_)
      · rw [if_pos c23] at h3
        refine tr_skip ?_
        refine tr_seq ?_
        refine tr_block ?_
        replace h3 := bnd h3; obtain ⟨_, p30, h3⟩ := h3
        replace p30 := ck_some p30
        have p30' := p30; try simp at p30'
        have p30o : s15.1 < (((v3.2.2)).length : Int) := by omega
        replace h3 := bnd h3; obtain ⟨x16, p31, h3⟩ := h3
        replace p31 := idx_some p31
        have p31' := p31; try simp at p31'
        refine kr [0, 2, 3, 5, 6, 7, 28, 29, 30] (by simp [-getElem?_pos, List.getElem?_cons_zero, List.getElem?_cons_succ, p30, p30o, p31, p30', p31']; rfl) ?_
        refine kr [0, 2, 3, 5, 6, 28, 29, 30, 36] (by simp; rfl) ?_
        refine tr_cond (b := (x16 == 2)) (by simp) (fun c24 => ?_) (fun c24 => ?_)
        · rw [if_pos c24] at h3
          replace h3 := bnd h3; obtain ⟨_, p32, h3⟩ := h3
          replace p32 := ck_some p32
          have p32' := p32; try simp at p32'
          refine lr (by simp [p32, p32']; rfl) ?_
          refine lr (by simp; rfl) ?_
          exact ⟨_, hg3 _ (Option.some.inj h3), wk (by simp [weak_iff])⟩
        · rw [if_neg (by rw [c24]; decide)] at h3
          refine tr_skip ?_
          refine lr (by simp; rfl) ?_
          exact ⟨_, hg3 _ (Option.some.inj h3), wk (by simp [weak_iff])⟩
      · rw [if_neg (by rw [c23]; decide)] at h3
        refine tr_exit ?_
        exact ⟨_, he3 _ (Option.some.inj h3), wk (by simp [weak_iff])⟩
  · refine tr_block (tr_iter (fun s17 : Int × (List Int) × Int × (List Int) => ({ nt := 86, env := [(0, .ptr 1000000 0), (2, .ptr 2 0), (3, .ptr 3 0), (4, .d (.int .i64 s17.1))], box := [(2, [.nilS, .nilS]), (3, [.vec 11, .nilS]), (1000000, [.d (.slice (rowsF (iRow .i64) s17.2.1)), .d (.int .i64 s17.2.2.1)])], vec := [(11, ⟨3, 1, rowsF (iRow .i64) s17.2.2.2⟩)] } : St)) hI1 (wk (by subst hl2; simp [weak_iff])) fun G3 s17 o3 h3 hg3 he3 => ?_)
    unfold make_Directory_l0 at h3
    refine tr_seq ?_
    refine kr [0, 2, 3, 4, 16] (by simp; rfl) ?_
    refine tr_cond (b := (decide (0 < s17.1))) (by simp) (fun c25 => ?_) (fun c25 => ?_)
    · rw [if_pos c25] at h3
      refine tr_skip ?_
      refine tr_seq ?_
      refine tr_block ?_
      refine kd1 [[], [0], [], [], [2, 3], [4], [1, 4, 5], [6], [1, 6, 7]] [4, 6, 8] [(3, [6, 8]), (1000000, [4, 6])] (some (6, 11)) [20] 9 fol (by decide +kernel) (by simp) ?_
      refine dr_go 0 2 rfl (by simp (maxSteps := 1000000); rfl) ?_
      refine dr_go 2 2 rfl (by simp (maxSteps := 1000000); rfl) ?_
      replace h3 := bnd h3; obtain ⟨y18, hy18, h3⟩ := h3
      refine dr_call 4 [1000000] (make_Pick_ok hy18) rfl rfl rfl rfl rfl Tryd.call22 (by simp) ?_
      replace h3 := bnd h3; obtain ⟨_, p35, h3⟩ := h3
      replace p35 := ck_some p35
      have p35' := p35; try simp at p35'
      refine dr_go 5 2 rfl (by simp (maxSteps := 1000000) [p35, p35']; rfl) ?_
      refine dr_go 7 2 rfl (by simp (maxSteps := 1000000) [p35, p35']; rfl) ?_
      refine dr_end rfl (tops_nil ?_)
      refine lr (by simp; rfl) ?_
      exact ⟨_, hg3 _ (Option.some.inj h3), Wk.trans (wk_ren 25 11) (wk (by simp [weak_iff]))⟩
    · rw [if_neg (by rw [c25]; decide)] at h3
      refine tr_exit ?_
      exact ⟨_, he3 _ (Option.some.inj h3), wk (by simp [weak_iff])⟩
set_option maxHeartbeats 1000000 in
theorem make_Stewards_ok {a0 : make_Tape} {a1 : api_Directory} {r : (List api_Steward) × make_Tape} (h0 : make_Stewards a0 a1 = some r) : FnOK Tryd.prog 10 [make_Tape_av a0] [.ptr (InO 0) 0, .agg (api_Directory_av a1)] (.d (.slice (rowsF api_Steward_row r.1))) [make_Tape_av r.2] := by
  unfold make_Stewards at h0
  refine fn_ok (nt := 42) (rs := [.tmp 4]) Tryd.func10 rfl Tryd.ntmps10 rfl (by simp) (by decide) rfl fun K => ?_
  refine kr [0, 3] (by simp; rfl) ?_
  refine kr [0, 3, 5] (by simp; rfl) ?_
  refine tr_seq ?_
  refine kc ?_
  refine ko [0, 3, 5, 9, 10] 2 (by simp; rfl) ?_
  replace h0 := bnd h0; obtain ⟨y1, hy1, h0⟩ := h0
  refine kcall [0, 3, 5, 9, 11] [1000000] (make_Tape_Next_ok hy1) rfl rfl rfl Tryd.call17 (by simp) (by simp; rfl) ?_
  replace h0 := bnd h0; obtain ⟨y2, hy2, h0⟩ := h0
  refine kcall [0, 3, 5, 12] [1000000] (make_Clock_ok hy2) rfl rfl rfl Tryd.call24 (by simp) (by simp; rfl) ?_
  refine ko [0, 3, 5, 12, 13, 14] 2 (by simp; rfl) ?_
  refine tops_nil ?_
  refine tr_wk (wk_own 5 39 63 3 (by simp) (by simp)) ?_
  replace h0 := bnd h0; obtain ⟨e1, hI1, h0⟩ := h0
  refine tjv (fun v3 : (List Int) × Int × (List api_Steward) => ({ nt := 42, env := [(5, .vec 39)], box := [(1000000, [.d (.slice (rowsF (iRow .i64) v3.1)), .d (.int .i64 v3.2.1)])], vec := [(39, ⟨63, 3, rowsF api_Steward_row v3.2.2⟩)] } : St)) (fun v3 => v3 = e1) (fun v3 hI1e _ W1 => ?_) ?_
  · subst hI1e
    refine tr_wk W1 ?_
    refine kr [4] (by simp; rfl) ?_
    cases h0
    exact tr_ret ⟨[39], by simp, rfl, by simp⟩
  · refine tr_block (tr_iter (fun s4 : Int × (List Int) × Int × (List api_Steward) => ({ nt := 42, env := [(0, .ptr 1000000 0), (3, .ptr 3 0), (5, .vec 39), (12, .d (.slice (rowsF (iRow .i64) y2.1))), (13, .d (.int .i64 ((y2.1).length : Int))), (14, .d (.int .i64 s4.1))], box := [(3, [.d (.slice (rowsF (iRow .i64) a1.Kinds)), .d (.slice (rowsF api_Member_row a1.Events))]), (1000000, [.d (.slice (rowsF (iRow .i64) s4.2.1)), .d (.int .i64 s4.2.2.1)])], vec := [(39, ⟨63, 3, rowsF api_Steward_row s4.2.2.2⟩)] } : St)) hI1 (wk (by simp [weak_iff])) fun G1 s4 o1 h1 hg1 he1 => ?_)
    unfold make_Stewards_l0 at h1
    refine kr [0, 3, 5, 12, 13, 14, 15] (by simp; rfl) ?_
    refine tr_seq ?_
    refine tr_cond (b := (decide (s4.1 < ((y2.1).length : Int)))) (by simp) (fun c7 => ?_) (fun c7 => ?_)
    · rw [if_pos c7] at h1
      refine tr_skip ?_
      refine tr_seq ?_
      refine tr_block ?_
      replace h1 := bnd h1; obtain ⟨x5, p6, h1⟩ := h1
      replace p6 := idx_some p6
      have p6' := p6; try simp at p6'
      refine kr [0, 3, 5, 7, 12, 13, 14] (by simp [p6, p6']; rfl) ?_
      refine kd [[], [], [], [2], [3], [1, 4], [], [], [7], [8], [9], [4, 5, 6, 9, 10], [0, 4, 5, 9, 11], [], [4, 9, 12, 13]] [5, 11, 13, 14] [(8, [13, 14]), (1000000, [5, 11])] none [] 15 fol (by decide +kernel) (by simp) ?_
      refine dr_go 0 2 rfl (by simp (maxSteps := 1000000); rfl) ?_
      refine dr_go 2 2 rfl (by simp (maxSteps := 1000000); rfl) ?_
      refine dr_go 4 1 rfl (by simp (maxSteps := 1000000); rfl) ?_
      replace h1 := bnd h1; obtain ⟨y6, hy6, h1⟩ := h1
      refine dr_call 5 [1000000] (make_Tape_Next_ok hy6) rfl rfl rfl rfl rfl Tryd.call17 (by simp) ?_
      refine dr_go 6 2 rfl (by simp (maxSteps := 1000000); rfl) ?_
      refine dr_go 8 2 rfl (by simp (maxSteps := 1000000); rfl) ?_
      refine dr_go 10 1 rfl (by simp (maxSteps := 1000000); rfl) ?_
      replace h1 := bnd h1; obtain ⟨y7, hy7, h1⟩ := h1
      refine dr_call 11 [1000000] (make_Tape_Between_ok hy7) rfl rfl rfl rfl rfl Tryd.call21 (by simp) ?_
      refine dr_go 12 2 rfl (by simp (maxSteps := 1000000); rfl) ?_
      refine dr_go 14 1 rfl (by simp (maxSteps := 1000000); rfl) ?_
      refine dr_end rfl (tops_nil ?_)
      refine kr [0, 3, 5, 8, 12, 13, 14, 35] (by simp; rfl) ?_
      refine tr_cond (b := (y6.1 != y7.1)) (by simp) (fun c8 => ?_) (fun c8 => ?_)
      · rw [if_pos c8] at h1
        replace h1 := bnd h1; obtain ⟨_, p7, h1⟩ := h1
        replace p7 := ck_some p7
        have p7' := p7; try simp at p7'
        refine lr (by simp [p7, p7']; rfl) ?_
        refine lr (by simp; rfl) ?_
        exact ⟨_, hg1 _ (Option.some.inj h1), wk (by simp [weak_iff])⟩
      · rw [if_neg (by rw [c8]; decide)] at h1
        refine tr_skip ?_
        refine lr (by simp; rfl) ?_
        exact ⟨_, hg1 _ (Option.some.inj h1), wk (by simp [weak_iff])⟩
    · rw [if_neg (by rw [c7]; decide)] at h1
      refine tr_exit ?_
      exact ⟨_, he1 _ (Option.some.inj h1), wk (by simp [weak_iff])⟩
set_option maxHeartbeats 1000000 in
theorem make_Cases_ok {a0 : make_Tape} {a1 : api_Directory} {r : (List api_Case) × make_Tape} (h0 : make_Cases a0 a1 = some r) : FnOK Tryd.prog 11 [make_Tape_av a0] [.ptr (InO 0) 0, .agg (api_Directory_av a1)] (.d (.slice (rowsF api_Case_row r.1))) [make_Tape_av r.2] := by
  unfold make_Cases at h0
  refine fn_ok (nt := 125) (rs := [.tmp 4]) Tryd.func11 rfl Tryd.ntmps11 rfl (by simp) (by decide) rfl fun K => ?_
  refine kr [0, 3] (by simp; rfl) ?_
  refine kr [0, 3, 5] (by simp; rfl) ?_
  refine kr [0, 3, 5, 6] (by simp; rfl) ?_
  refine tr_seq ?_
  refine kc ?_
  refine ko [0, 3, 5, 6, 10, 11] 2 (by simp; rfl) ?_
  replace h0 := bnd h0; obtain ⟨y1, hy1, h0⟩ := h0
  refine kcall [0, 3, 5, 6, 10, 12] [1000000] (make_Tape_Next_ok hy1) rfl rfl rfl Tryd.call17 (by simp) (by simp; rfl) ?_
  replace h0 := bnd h0; obtain ⟨y2, hy2, h0⟩ := h0
  refine kcall [0, 3, 5, 6, 13] [1000000] (make_Clock_ok hy2) rfl rfl rfl Tryd.call24 (by simp) (by simp; rfl) ?_
  refine ko [0, 3, 5, 6, 13, 14, 15] 2 (by simp; rfl) ?_
  refine tops_nil ?_
  refine tr_wk (wk_own 5 45 43 5 (by simp) (by simp)) ?_
  refine tr_wk (wk_own 6 50 3 1 (by simp) (by simp)) ?_
  replace h0 := bnd h0; obtain ⟨e1, hI1, h0⟩ := h0
  refine tjv (fun v3 : (List Int) × Int × (List api_Case) => ({ nt := 125, env := [(5, .vec 45)], box := [(1000000, [.d (.slice (rowsF (iRow .i64) v3.1)), .d (.int .i64 v3.2.1)])], vec := [(45, ⟨43, 5, rowsF api_Case_row v3.2.2⟩)] } : St)) (fun v3 => v3 = e1) (fun v3 hI1e _ W1 => ?_) ?_
  · subst hI1e
    refine tr_wk W1 ?_
    refine tr_seq ?_
    refine kr [5, 9] (by simp; rfl) ?_
    replace h0 := bnd h0; obtain ⟨e2, hI2, h0⟩ := h0
    refine tjv (fun v4 : (List api_Case) => ({ nt := 125, env := [(5, .vec 45)], box := [(1000000, [.d (.slice (rowsF (iRow .i64) v3.1)), .d (.int .i64 v3.2.1)])], vec := [(45, ⟨43, 5, rowsF api_Case_row v4⟩)] } : St)) (fun v4 => v4 = e2) (fun v4 hI2e _ W2 => ?_) ?_
    · subst hI2e
      refine tr_wk W2 ?_
      refine kr [4] (by simp; rfl) ?_
      cases h0
      exact tr_ret ⟨[45], by simp, rfl, by simp⟩
    · refine tr_block (tr_iter (fun s5 : Int × (List api_Case) => ({ nt := 125, env := [(5, .vec 45), (9, .d (.int .i64 s5.1))], box := [(1000000, [.d (.slice (rowsF (iRow .i64) v3.1)), .d (.int .i64 v3.2.1)])], vec := [(45, ⟨43, 5, rowsF api_Case_row s5.2⟩)] } : St)) hI2 (wk (by simp [weak_iff])) fun G2 s5 o2 h2 hg2 he2 => ?_)
      unfold make_Cases_l1 at h2
      refine tr_seq ?_
      refine kr [5, 9, 105] (by simp; rfl) ?_
      refine tr_cond (b := (decide (s5.1 < ((s5.2).length : Int)))) (by simp) (fun c27 => ?_) (fun c27 => ?_)
      · rw [if_pos c27] at h2
        refine tr_skip ?_
        refine tr_seq ?_
        refine tr_block ?_
        refine kd1 [[], [], [], [], [2, 3], [4], [5], [], [], [8], [7, 9], [10], [11], [6, 12], [0, 1, 13], [13, 14], [0, 1, 2, 3, 4, 5, 6, 7, 8, 9, 10, 11, 12, 13, 14, 15]] [] [] none [] 16 fol (by decide +kernel) (by simp) ?_
        replace h2 := bnd h2; obtain ⟨_, p124, h2⟩ := h2
        replace p124 := ck_some p124
        have p124' := p124; try simp at p124'
        have p124o : s5.1 < (((s5.2)).length : Int) := by omega
        replace h2 := bnd h2; obtain ⟨x6, p125, h2⟩ := h2
        replace p125 := idx_some p125
        have p125' := p125; try simp at p125'
        replace h2 := bnd h2; obtain ⟨_, p126, h2⟩ := h2
        replace p126 := ck_some p126
        have p126' := p126; try simp at p126'
        have p126o : IntKind.i64.wrap (s5.1 - 1) < (((s5.2)).length : Int) := by omega
        replace h2 := bnd h2; obtain ⟨x7, p127, h2⟩ := h2
        replace p127 := idx_some p127
        have p127' := p127; try simp at p127'
        replace h2 := bnd h2; obtain ⟨_, p128, h2⟩ := h2
        replace p128 := ck_some p128
        have p128' := p128; try simp at p128'
        have p128o : s5.1 < (((s5.2)).length : Int) := by omega
        refine dr_go 0 2 rfl (by simp (maxSteps := 1000000) [-getElem?_pos, List.getElem?_cons_zero, List.getElem?_cons_succ, p124, p124o, p125, p126, p126o, p127, p128, p128o, p124', p125', p126', p127', p128']; rfl) ?_
        refine dr_go 2 2 rfl (by simp (maxSteps := 1000000) [-getElem?_pos, List.getElem?_cons_zero, List.getElem?_cons_succ, p124, p124o, p125, p126, p126o, p127, p128, p128o, p124', p125', p126', p127', p128']; rfl) ?_
        refine dr_go 4 2 rfl (by simp (maxSteps := 1000000) [-getElem?_pos, List.getElem?_cons_zero, List.getElem?_cons_succ, p124, p124o, p125, p126, p126o, p127, p128, p128o, p124', p125', p126', p127', p128']; rfl) ?_
        refine dr_go 6 2 rfl (by simp (maxSteps := 1000000) [-getElem?_pos, List.getElem?_cons_zero, List.getElem?_cons_succ, p124, p124o, p125, p126, p126o, p127, p128, p128o, p124', p125', p126', p127', p128']; rfl) ?_
        refine dr_go 8 2 rfl (by simp (maxSteps := 1000000) [-getElem?_pos, List.getElem?_cons_zero, List.getElem?_cons_succ, p124, p124o, p125, p126, p126o, p127, p128, p128o, p124', p125', p126', p127', p128']; rfl) ?_
        refine dr_go 10 2 rfl (by simp (maxSteps := 1000000) [-getElem?_pos, List.getElem?_cons_zero, List.getElem?_cons_succ, p124, p124o, p125, p126, p126o, p127, p128, p128o, p124', p125', p126', p127', p128']; rfl) ?_
        refine dr_go 12 2 rfl (by simp (maxSteps := 1000000) [-getElem?_pos, List.getElem?_cons_zero, List.getElem?_cons_succ, p124, p124o, p125, p126, p126o, p127, p128, p128o, p124', p125', p126', p127', p128']; rfl) ?_
        refine dr_go 14 2 rfl (by simp (maxSteps := 1000000) [-getElem?_pos, List.getElem?_cons_zero, List.getElem?_cons_succ, p124, p124o, p125, p126, p126o, p127, p128, p128o, p124', p125', p126', p127', p128']; rfl) ?_
        refine dr_end rfl ?_
        refine ko [5, 9] 1 (by simp [-getElem?_pos, List.getElem?_cons_zero, List.getElem?_cons_succ, p125, (List.getElem?_eq_some_iff.1 p125.2).1, p125']; rfl) ?_
        refine tops_nil ?_
        refine lr (by simp; rfl) ?_
        exact ⟨_, hg2 _ (Option.some.inj h2), wk (by simp [weak_iff])⟩
      · rw [if_neg (by rw [c27]; decide)] at h2
        refine tr_exit ?_
        exact ⟨_, he2 _ (Option.some.inj h2), wk (by simp [weak_iff])⟩
  · refine tr_block (tr_iter (fun s8 : Int × (List Int) × Int × (List api_Case) × (List Int) => ({ nt := 125, env := [(0, .ptr 1000000 0), (3, .ptr 3 0), (5, .vec 45), (6, .vec 50), (13, .d (.slice (rowsF (iRow .i64) y2.1))), (14, .d (.int .i64 ((y2.1).length : Int))), (15, .d (.int .i64 s8.1))], box := [(3, [.d (.slice (rowsF (iRow .i64) a1.Kinds)), .d (.slice (rowsF api_Member_row a1.Events))]), (1000000, [.d (.slice (rowsF (iRow .i64) s8.2.1)), .d (.int .i64 s8.2.2.1)])], vec := [(45, ⟨43, 5, rowsF api_Case_row s8.2.2.2.1⟩), (50, ⟨3, 1, rowsF (iRow .i64) s8.2.2.2.2⟩)] } : St)) hI1 (wk (by simp [weak_iff])) fun G2 s8 o2 h2 hg2 he2 => ?_)
    unfold make_Cases_l0 at h2
    refine kr [0, 3, 5, 6, 13, 14, 15, 16] (by simp; rfl) ?_
    refine tr_seq ?_
    refine tr_cond (b := (decide (s8.1 < ((y2.1).length : Int)))) (by simp) (fun c28 => ?_) (fun c28 => ?_)
    · rw [if_pos c28] at h2
      refine tr_skip ?_
      refine tr_seq ?_
      refine tr_block ?_
      replace h2 := bnd h2; obtain ⟨x9, p129, h2⟩ := h2
      replace p129 := idx_some p129
      have p129' := p129; try simp at p129'
      refine kr [0, 3, 5, 6, 8, 13, 14, 15] (by simp [p129, p129']; rfl) ?_
      refine tr_seq ?_
      replace h2 := bnd h2; obtain ⟨v10, hvv10, h2⟩ := h2
      refine sjv (fun v10_ : Bool × (List Int) × Int => ({ nt := 125, env := [(0, .ptr 1000000 0), (3, .ptr 3 0), (5, .vec 45), (6, .vec 50), (8, .d (.int .i64 x9)), (13, .d (.slice (rowsF (iRow .i64) y2.1))), (14, .d (.int .i64 ((y2.1).length : Int))), (15, .d (.int .i64 s8.1)), (31, .d (.bool v10_.1))], box := [(3, [.d (.slice (rowsF (iRow .i64) a1.Kinds)), .d (.slice (rowsF api_Member_row a1.Events))]), (1000000, [.d (.slice (rowsF (iRow .i64) v10_.2.1)), .d (.int .i64 v10_.2.2)])], vec := [(45, ⟨43, 5, rowsF api_Case_row s8.2.2.2.1⟩), (50, ⟨3, 1, rowsF (iRow .i64) s8.2.2.2.2⟩)] } : St)) (fun v10_ => v10 = v10_) (fun v10_ e => ?_) ?_
      · subst e
        refine tr_cond (b := v10.1) (by simp) (fun c33 => ?_) (fun c33 => ?_)
        · rw [if_pos c33] at h2
          refine tr_wk (wk_ren 45 700045) ?_
          refine kd [[], [], [], [2], [], [4], [], [], [7], [8], [5, 6, 9], [1, 3, 5, 9, 10], [3, 5, 9, 11], [0, 3, 5, 9, 10, 12], [0, 3, 9, 13]] [5, 10, 13] [(1000000, [5, 10, 13])] (some (13, 700045)) [5, 32] 15 fol (by decide +kernel) (by simp) ?_
          refine dr_go 0 2 rfl (by simp (maxSteps := 1000000); rfl) ?_
          refine dr_go 2 2 rfl (by simp (maxSteps := 1000000); rfl) ?_
          refine dr_go 4 1 rfl (by simp (maxSteps := 1000000); rfl) ?_
          replace h2 := bnd h2; obtain ⟨y11, hy11, h2⟩ := h2
          refine dr_call 5 [1000000] (make_Tape_Between_ok hy11) rfl rfl rfl rfl rfl Tryd.call21 (by simp) ?_
          refine dr_go 6 2 rfl (by simp (maxSteps := 1000000); rfl) ?_
          refine dr_go 8 2 rfl (by simp (maxSteps := 1000000); rfl) ?_
          replace h2 := bnd h2; obtain ⟨y12, hy12, h2⟩ := h2
          refine dr_call 10 [1000000] (make_Tape_Next_ok hy12) rfl rfl rfl rfl rfl Tryd.call17 (by simp) ?_
          replace h2 := bnd h2; obtain ⟨_, p133, h2⟩ := h2
          replace p133 := ck_some p133
          have p133' := p133; try simp at p133'
          refine dr_go 11 2 rfl (by simp (maxSteps := 1000000) [p133, p133']; rfl) ?_
          refine dr_go 13 2 rfl (by simp (maxSteps := 1000000) [p133, p133']; rfl) ?_
          refine dr_end rfl (tops_nil ?_)
          replace h2 := bnd h2; obtain ⟨_, p134, h2⟩ := h2
          replace p134 := ck_some p134
          have p134' := p134; try simp at p134'
          refine kr [0, 3, 5, 6, 13, 14, 15] (by simp [p134, p134']; rfl) ?_
          refine tr_exit ?_
          refine lr (by simp; rfl) ?_
          exact ⟨_, hg2 _ (Option.some.inj h2), wk (by simp [weak_iff])⟩
        · rw [if_neg (by rw [c33]; decide)] at h2
          refine tr_skip ?_
          refine kc ?_
          refine ko [0, 3, 6, 13, 14, 15, 51, 52, 53] 3 (by simp; rfl) ?_
          replace h2 := bnd h2; obtain ⟨y13, hy13, h2⟩ := h2
          refine kcall [0, 3, 6, 13, 14, 15, 51, 52, 54] [1000000] (make_Tape_Next_ok hy13) rfl rfl rfl Tryd.call17 (by simp) (by simp; rfl) ?_
          refine ko [0, 3, 6, 13, 14, 15, 51, 55, 56] 2 (by simp; rfl) ?_
          replace h2 := bnd h2; obtain ⟨y14, hy14, h2⟩ := h2
          refine kcall [0, 3, 6, 13, 14, 15, 51, 55, 57] [1000000] (make_Tape_Between_ok hy14) rfl rfl rfl Tryd.call21 (by simp) (by simp; rfl) ?_
          refine ko [0, 3, 6, 13, 14, 15, 51, 55, 57, 58, 59, 61] 4 (by simp; rfl) ?_
          replace h2 := bnd h2; obtain ⟨y15, hy15, h2⟩ := h2
          refine kcall [0, 3, 6, 13, 14, 15, 51, 55, 57, 58, 62] [1000000] (make_Tape_Next_ok hy15) rfl rfl rfl Tryd.call17 (by simp) (by simp; rfl) ?_
          replace h2 := bnd h2; obtain ⟨_, p135, h2⟩ := h2
          replace p135 := ck_some p135
          have p135' := p135; try simp at p135'
          have p135o : y15.1 < (((s8.2.2.2.2)).length : Int) := by omega
          replace h2 := bnd h2; obtain ⟨x16, p136, h2⟩ := h2
          replace p136 := idx_some p136
          have p136' := p136; try simp at p136'
          replace h2 := bnd h2; obtain ⟨_, p137, h2⟩ := h2
          replace p137 := ck_some p137
          have p137' := p137; try simp at p137'
          refine ko [0, 3, 5, 6, 13, 14, 15] 6 (by simp [-getElem?_pos, List.getElem?_cons_zero, List.getElem?_cons_succ, p135, p135o, p136, p137, p135', p136', p137']; rfl) ?_
          refine tops_nil ?_
          replace h2 := bnd h2; obtain ⟨v17, hvv17, h2⟩ := h2
          refine sjv (fun v17_ : Bool => ({ nt := 125, env := [(0, .ptr 1000000 0), (3, .ptr 3 0), (5, .vec 67), (6, .vec 50), (13, .d (.slice (rowsF (iRow .i64) y2.1))), (14, .d (.int .i64 ((y2.1).length : Int))), (15, .d (.int .i64 s8.1)), (87, .d (.bool v17_))], box := [(3, [.d (.slice (rowsF (iRow .i64) a1.Kinds)), .d (.slice (rowsF api_Member_row a1.Events))]), (1000000, [.d (.slice (rowsF (iRow .i64) y15.2.L)), .d (.int .i64 y15.2.at_)])], vec := [(50, ⟨3, 1, rowsF (iRow .i64) s8.2.2.2.2⟩), (67, ⟨43, 5, rowsF api_Case_row (s8.2.2.2.1 ++ [(⟨IntKind.i64.wrap (x9 + y13.1), y14.1, x16, 0, 0⟩ : api_Case)])⟩)] } : St)) (fun v17_ => v17 = v17_) (fun v17_ e => ?_) ?_
          · subst e
            refine tr_cond (b := v17) (by simp) (fun c40 => ?_) (fun c40 => ?_)
            · rw [if_pos c40] at h2
              replace h2 := bnd h2; obtain ⟨_, p162, h2⟩ := h2
              replace p162 := ck_some p162
              have p162' := p162; try simp at p162'
              have p162o : IntKind.i64.wrap ((((s8.2.2.2.1 ++ [(⟨IntKind.i64.wrap (x9 + y13.1), y14.1, x16, 0, 0⟩ : api_Case)])).length : Int) - 2) < ((((s8.2.2.2.1 ++ [(⟨IntKind.i64.wrap (x9 + y13.1), y14.1, x16, 0, 0⟩ : api_Case)]))).length : Int) := by omega
              replace h2 := bnd h2; obtain ⟨x18, p163, h2⟩ := h2
              replace p163 := idx_some p163
              have p163' := p163; try simp at p163'
              have p163q : (rowsF api_Case_row (s8.2.2.2.1 ++ [(⟨IntKind.i64.wrap (x9 + y13.1), y14.1, x16, 0, 0⟩ : api_Case)]))[(Int.toNat (IntKind.i64.wrap ((((s8.2.2.2.1 ++ [(⟨IntKind.i64.wrap (x9 + y13.1), y14.1, x16, 0, 0⟩ : api_Case)])).length : Int) - 2)))]? = some (api_Case_row x18) := by (first | (rw [rowsF_get, p163.2]; rfl) | (have q := p163.2; simp at q; subst q; rfl))
              try simp [-getElem?_pos] at p163q
              replace h2 := bnd h2; obtain ⟨_, p164, h2⟩ := h2
              replace p164 := ck_some p164
              have p164' := p164; try simp at p164'
              have p164o : IntKind.i64.wrap ((((s8.2.2.2.1 ++ [(⟨IntKind.i64.wrap (x9 + y13.1), y14.1, x16, 0, 0⟩ : api_Case)])).length : Int) - 1) < ((((s8.2.2.2.1 ++ [(⟨IntKind.i64.wrap (x9 + y13.1), y14.1, x16, 0, 0⟩ : api_Case)]))).length : Int) := by omega
              replace h2 := bnd h2; obtain ⟨x19, p165, h2⟩ := h2
              replace p165 := idx_some p165
              have p165' := p165; try simp at p165'
              have p165q : (rowsF api_Case_row (s8.2.2.2.1 ++ [(⟨IntKind.i64.wrap (x9 + y13.1), y14.1, x16, 0, 0⟩ : api_Case)]))[(Int.toNat (IntKind.i64.wrap ((((s8.2.2.2.1 ++ [(⟨IntKind.i64.wrap (x9 + y13.1), y14.1, x16, 0, 0⟩ : api_Case)])).length : Int) - 1)))]? = some (api_Case_row x19) := by (first | (rw [rowsF_get, p165.2]; rfl) | (have q := p165.2; simp at q; subst q; rfl))
              try simp [-getElem?_pos] at p165q
              refine lr (by simp [-getElem?_pos, List.getElem?_cons_zero, List.getElem?_cons_succ, p162, p162o, p163, p163q, p164, p164o, p165, p165q, (List.getElem?_eq_some_iff.1 p165.2).1, p162', p163', p164', p165']; rfl) ?_
              refine lr (by simp; rfl) ?_
              exact ⟨_, hg2 _ (Option.some.inj h2), Wk.trans (wk_ren 67 45) (wk (by simp [weak_iff]))⟩
            · rw [if_neg (by rw [c40]; decide)] at h2
              refine tr_skip ?_
              refine lr (by simp; rfl) ?_
              exact ⟨_, hg2 _ (Option.some.inj h2), Wk.trans (wk_ren 67 45) (wk (by simp [weak_iff]))⟩
          · refine kd1 [[], [0], [1], [1, 2], [1, 3], [1, 3], [1, 3, 5], [1, 3, 6], [1, 3, 4, 6, 7], [1, 3, 6, 8], [1, 3, 6, 9], [1, 3], [1, 3], [1, 3, 12], [1, 3, 13], [1, 3, 11, 13, 14], [1, 3, 13, 15], [1, 3, 13, 16], [1, 3, 6, 10, 13, 17], [1, 3, 6, 13, 18]] [] [] none [] 20 fol (by decide +kernel) (by simp) ?_
            refine dr_go 0 2 rfl (by simp (maxSteps := 1000000); rfl) ?_
            refine dr_go 2 2 rfl (by simp (maxSteps := 1000000); rfl) ?_
            refine dr_split 3 71 (decide (1 < (((s8.2.2.2.1 ++ [(⟨IntKind.i64.wrap (x9 + y13.1), y14.1, x16, 0, 0⟩ : api_Case)])).length : Int))) (by simp) (fun c43 => ?_) (fun c43 => ?_)
            · rw [if_pos c43] at hvv17
              replace hvv17 := bnd hvv17; obtain ⟨_, p174, hvv17⟩ := hvv17
              replace p174 := ck_some p174
              have p174' := p174; try simp at p174'
              have p174o : IntKind.i64.wrap ((((s8.2.2.2.1 ++ [(⟨IntKind.i64.wrap (x9 + y13.1), y14.1, x16, 0, 0⟩ : api_Case)])).length : Int) - 1) < ((((s8.2.2.2.1 ++ [(⟨IntKind.i64.wrap (x9 + y13.1), y14.1, x16, 0, 0⟩ : api_Case)]))).length : Int) := by omega
              replace hvv17 := bnd hvv17; obtain ⟨x20, p175, hvv17⟩ := hvv17
              replace p175 := idx_some p175
              have p175' := p175; try simp at p175'
              have p175q : (rowsF api_Case_row (s8.2.2.2.1 ++ [(⟨IntKind.i64.wrap (x9 + y13.1), y14.1, x16, 0, 0⟩ : api_Case)]))[(Int.toNat (IntKind.i64.wrap ((((s8.2.2.2.1 ++ [(⟨IntKind.i64.wrap (x9 + y13.1), y14.1, x16, 0, 0⟩ : api_Case)])).length : Int) - 1)))]? = some (api_Case_row x20) := by (first | (rw [rowsF_get, p175.2]; rfl) | (have q := p175.2; simp at q; subst q; rfl))
              try simp [-getElem?_pos] at p175q
              replace hvv17 := bnd hvv17; obtain ⟨_, p176, hvv17⟩ := hvv17
              replace p176 := ck_some p176
              have p176' := p176; try simp at p176'
              have p176o : IntKind.i64.wrap ((((s8.2.2.2.1 ++ [(⟨IntKind.i64.wrap (x9 + y13.1), y14.1, x16, 0, 0⟩ : api_Case)])).length : Int) - 2) < ((((s8.2.2.2.1 ++ [(⟨IntKind.i64.wrap (x9 + y13.1), y14.1, x16, 0, 0⟩ : api_Case)]))).length : Int) := by omega
              replace hvv17 := bnd hvv17; obtain ⟨x21, p177, hvv17⟩ := hvv17
              replace p177 := idx_some p177
              have p177' := p177; try simp at p177'
              have p177q : (rowsF api_Case_row (s8.2.2.2.1 ++ [(⟨IntKind.i64.wrap (x9 + y13.1), y14.1, x16, 0, 0⟩ : api_Case)]))[(Int.toNat (IntKind.i64.wrap ((((s8.2.2.2.1 ++ [(⟨IntKind.i64.wrap (x9 + y13.1), y14.1, x16, 0, 0⟩ : api_Case)])).length : Int) - 2)))]? = some (api_Case_row x21) := by (first | (rw [rowsF_get, p177.2]; rfl) | (have q := p177.2; simp at q; subst q; rfl))
              try simp [-getElem?_pos] at p177q
              refine dr_go 4 2 rfl (by simp (maxSteps := 1000000) [-getElem?_pos, List.getElem?_cons_zero, List.getElem?_cons_succ, p174, p174o, p175, p175q, p176, p176o, p177, p177q, p174', p175', p176', p177']; rfl) ?_
              refine dr_go 6 2 rfl (by simp (maxSteps := 1000000) [-getElem?_pos, List.getElem?_cons_zero, List.getElem?_cons_succ, p174, p174o, p175, p175q, p176, p176o, p177, p177q, p174', p175', p176', p177']; rfl) ?_
              refine dr_go 8 2 rfl (by simp (maxSteps := 1000000) [-getElem?_pos, List.getElem?_cons_zero, List.getElem?_cons_succ, p174, p174o, p175, p175q, p176, p176o, p177, p177q, p174', p175', p176', p177']; rfl) ?_
              refine dr_go 10 2 rfl (by simp (maxSteps := 1000000) [-getElem?_pos, List.getElem?_cons_zero, List.getElem?_cons_succ, p174, p174o, p175, p175q, p176, p176o, p177, p177q, p174', p175', p176', p177']; rfl) ?_
              refine dr_go 12 2 rfl (by simp (maxSteps := 1000000) [-getElem?_pos, List.getElem?_cons_zero, List.getElem?_cons_succ, p174, p174o, p175, p175q, p176, p176o, p177, p177q, p174', p175', p176', p177']; rfl) ?_
              refine dr_go 14 2 rfl (by simp (maxSteps := 1000000) [-getElem?_pos, List.getElem?_cons_zero, List.getElem?_cons_succ, p174, p174o, p175, p175q, p176, p176o, p177, p177q, p174', p175', p176', p177']; rfl) ?_
              refine dr_go 16 2 rfl (by simp (maxSteps := 1000000) [-getElem?_pos, List.getElem?_cons_zero, List.getElem?_cons_succ, p174, p174o, p175, p175q, p176, p176o, p177, p177q, p174', p175', p176', p177']; rfl) ?_
              refine dr_go 18 2 rfl (by simp (maxSteps := 1000000) [-getElem?_pos, List.getElem?_cons_zero, List.getElem?_cons_succ, p174, p174o, p175, p175q, p176, p176o, p177, p177q, p174', p175', p176', p177']; rfl) ?_
              refine dr_end rfl (tops_nil ?_)
              cases hvv17
              exact ⟨_, rfl, wk (by simp [weak_iff])⟩
            · rw [if_neg (by rw [c43]; decide)] at hvv17
              refine dr_skip 4 125 [some 72, some 73, some 74, some 75, some 76, some 77, some 78, some 79, some 80, some 81, some 82, some 83, some 84, some 85, some 86] rfl rfl (by decide) (by kernel_rfl) (by simp only [skEf, List.map_cons, List.map_nil, List.cons_append, List.nil_append]; rfl) ?_
              refine dr_go 19 1 rfl (by simp (maxSteps := 1000000); rfl) ?_
              refine dr_end rfl (tops_nil ?_)
              cases hvv17
              exact ⟨_, rfl, wk (by simp [weak_iff])⟩
      · refine kc1 ?_
        refine ko [0, 3, 5, 6, 8, 13, 14, 15, 22] 4 (by simp; rfl) ?_
        refine tops_split 22 (decide (((s8.2.2.2.2).length : Int) < 3)) (by simp) (fun c44 => ?_) (fun c44 => ?_)
        · rw [if_pos c44] at hvv10
          refine ko [0, 3, 5, 6, 8, 13, 14, 15, 22, 23, 24, 25, 26] 4 (by simp; rfl) ?_
          refine tops_split 26 (((s8.2.2.2.2).length : Int) == 0) (by simp) (fun c45 => ?_) (fun c45 => ?_)
          · rw [if_pos c45] at hvv10
            refine kskip 3 [] (by kernel_rfl) ?_
            refine ko [0, 3, 5, 6, 8, 13, 14, 15, 23, 24, 25, 26, 30, 31] 2 (by simp; rfl) ?_
            refine tops_nil ?_
            cases hvv10
            exact ⟨_, rfl, wk (by simp [weak_iff])⟩
          · rw [if_neg (by rw [c45]; decide)] at hvv10
            refine ko [0, 3, 5, 6, 8, 13, 14, 15, 22, 23, 24, 25, 26, 27] 1 (by simp; rfl) ?_
            replace hvv10 := bnd hvv10; obtain ⟨y22, hy22, hvv10⟩ := hvv10
            refine kcall [0, 3, 5, 6, 8, 13, 14, 15, 22, 23, 24, 25, 26, 27, 28] [1000000] (make_Tape_Next_ok hy22) rfl rfl rfl Tryd.call17 (by simp) (by simp; rfl) ?_
            refine ko [0, 3, 5, 6, 8, 13, 14, 15, 23, 24, 25, 26, 27, 28, 29, 30, 31] 3 (by simp; rfl) ?_
            refine tops_nil ?_
            cases hvv10
            exact ⟨_, rfl, wk (by simp [weak_iff])⟩
        · rw [if_neg (by rw [c44]; decide)] at hvv10
          refine kskip 8 [] (by kernel_rfl) ?_
          refine ko [0, 3, 5, 6, 8, 13, 14, 15, 31] 1 (by simp; rfl) ?_
          refine tops_nil ?_
          cases hvv10
          exact ⟨_, rfl, wk (by simp [weak_iff])⟩
    · rw [if_neg (by rw [c28]; decide)] at h2
      refine tr_exit ?_
      exact ⟨_, he2 _ (Option.some.inj h2), wk (by simp [weak_iff])⟩
set_option maxHeartbeats 1000000 in
theorem ref23_Has_ok {a0 : List Int} {a1 : Int} {r : Bool} (h0 : ref23_Has a0 a1 = some r) : FnOK Tryd.prog 13 [] [.d (.slice (rowsF (iRow .i64) a0)), .d (.int .i64 a1)] (.d (.bool r)) [] := by
  unfold ref23_Has at h0
  refine fn_ok (nt := 17) (rs := [.tmp 4]) Tryd.func13 rfl Tryd.ntmps13 rfl (by simp) (by decide) rfl fun K => ?_
  refine kr [0, 1] (by simp; rfl) ?_
  refine tr_seq ?_
  refine kr [1, 7, 8, 9] (by simp; rfl) ?_
  replace h0 := bnd h0; obtain ⟨e1, hI1, h0⟩ := h0
  refine tjv (fun v1 : Unit => ({ nt := 17, env := [], box := [], vec := [] } : St)) (fun v1 => .inl v1 = e1) (fun v1 hI1e _ W1 => ?_) ?_
  · subst hI1e
    dsimp only at h0
    refine tr_wk W1 ?_
    refine kr [4] (by simp; rfl) ?_
    cases h0
    exact tr_ret ⟨[], by simp, rfl, by simp⟩
  · refine tr_block (tr_iter (fun s2 : Int => ({ nt := 17, env := [(1, .d (.int .i64 a1)), (7, .d (.slice (rowsF (iRow .i64) a0))), (8, .d (.int .i64 ((a0).length : Int))), (9, .d (.int .i64 s2))], box := [], vec := [] } : St)) hI1 (wk (by simp [weak_iff])) fun G1 s2 o1 h1 hg1 he1 => ?_)
    unfold ref23_Has_l0 at h1
    refine kr [1, 7, 8, 9, 10] (by simp; rfl) ?_
    refine tr_seq ?_
    refine tr_cond (b := (decide (s2 < ((a0).length : Int)))) (by simp) (fun c5 => ?_) (fun c5 => ?_)
    · rw [if_pos c5] at h1
      refine tr_skip ?_
      refine tr_seq ?_
      refine tr_block ?_
      replace h1 := bnd h1; obtain ⟨x3, p3, h1⟩ := h1
      replace p3 := idx_some p3
      have p3' := p3; try simp at p3'
      refine kr [1, 6, 7, 8, 9] (by simp [p3, p3']; rfl) ?_
      refine kr [1, 7, 8, 9, 15] (by simp; rfl) ?_
      refine tr_cond (b := (x3 == a1)) (by simp) (fun c6 => ?_) (fun c6 => ?_)
      · rw [if_pos c6] at h1
        refine kr [4] (by simp; rfl) ?_
        have k1 := he1 _ (Option.some.inj h1)
        subst k1
        dsimp only at h0
        cases h0
        exact tr_ret ⟨[], by simp, rfl, by simp⟩
      · rw [if_neg (by rw [c6]; decide)] at h1
        refine tr_skip ?_
        refine lr (by simp; rfl) ?_
        exact ⟨_, hg1 _ (Option.some.inj h1), wk (by simp [weak_iff])⟩
    · rw [if_neg (by rw [c5]; decide)] at h1
      refine tr_exit ?_
      exact ⟨_, he1 _ (Option.some.inj h1), wk (by simp [weak_iff])⟩
set_option maxHeartbeats 1000000 in
theorem ref41_Same_ok {a0 : List api_Notice} {a1 : List api_Notice} {r : Bool} (h0 : ref41_Same a0 a1 = some r) : FnOK Tryd.prog 18 [] [.d (.slice (rowsF api_Notice_row a0)), .d (.slice (rowsF api_Notice_row a1))] (.d (.bool r)) [] := by
  unfold ref41_Same at h0
  refine fn_ok (nt := 26) (rs := [.tmp 4]) Tryd.func18 rfl Tryd.ntmps18 rfl (by simp) (by decide) rfl fun K => ?_
  refine kr [0, 1] (by simp; rfl) ?_
  refine tr_seq ?_
  refine kr [0, 1, 10] (by simp; rfl) ?_
  refine tr_cond (b := (((a0).length : Int) != ((a1).length : Int))) (by simp) (fun c1 => ?_) (fun c1 => ?_)
  · rw [if_pos c1] at h0
    refine kr [4] (by simp; rfl) ?_
    cases h0
    exact tr_ret ⟨[], by simp, rfl, by simp⟩
  · rw [if_neg (by rw [c1]; decide)] at h0
    refine tr_skip ?_
    refine tr_seq ?_
    refine kr [0, 1, 12, 13] (by simp; rfl) ?_
    replace h0 := bnd h0; obtain ⟨e1, hI1, h0⟩ := h0
    refine tjv (fun v1 : Unit => ({ nt := 26, env := [], box := [], vec := [] } : St)) (fun v1 => .inl v1 = e1) (fun v1 hI1e _ W1 => ?_) ?_
    · subst hI1e
      dsimp only at h0
      refine tr_wk W1 ?_
      refine kr [4] (by simp; rfl) ?_
      cases h0
      exact tr_ret ⟨[], by simp, rfl, by simp⟩
    · refine tr_block (tr_iter (fun s2 : Int => ({ nt := 26, env := [(0, .d (.slice (rowsF api_Notice_row a0))), (1, .d (.slice (rowsF api_Notice_row a1))), (12, .d (.int .i64 ((a0).length : Int))), (13, .d (.int .i64 s2))], box := [], vec := [] } : St)) hI1 (wk (by simp [weak_iff])) fun G1 s2 o1 h1 hg1 he1 => ?_)
      unfold ref41_Same_l0 at h1
      refine kr [0, 1, 12, 13, 14] (by simp; rfl) ?_
      refine tr_seq ?_
      refine tr_cond (b := (decide (s2 < ((a0).length : Int)))) (by simp) (fun c6 => ?_) (fun c6 => ?_)
      · rw [if_pos c6] at h1
        refine tr_skip ?_
        refine tr_seq ?_
        refine tr_block ?_
        refine kr [0, 1, 5, 12, 13] (by simp; rfl) ?_
        refine kd [[], [], [0, 1], [2], [], [], [4, 5], [6], [3, 7]] [] [] none [] 9 fol (by decide +kernel) (by simp) ?_
        replace h1 := bnd h1; obtain ⟨x3, p17, h1⟩ := h1
        replace p17 := idx_some p17
        have p17' := p17; try simp at p17'
        replace h1 := bnd h1; obtain ⟨x4, p18, h1⟩ := h1
        replace p18 := idx_some p18
        have p18' := p18; try simp at p18'
        refine dr_go 0 2 rfl (by simp (maxSteps := 1000000) [p17, p18, p17', p18']; rfl) ?_
        refine dr_go 2 2 rfl (by simp (maxSteps := 1000000) [p17, p18, p17', p18']; rfl) ?_
        refine dr_go 4 2 rfl (by simp (maxSteps := 1000000) [p17, p18, p17', p18']; rfl) ?_
        refine dr_go 6 2 rfl (by simp (maxSteps := 1000000) [p17, p18, p17', p18']; rfl) ?_
        refine dr_go 8 1 rfl (by simp (maxSteps := 1000000) [p17, p18, p17', p18']; rfl) ?_
        refine dr_end rfl (tops_nil ?_)
        refine tr_cond (b := (!((x3.Time == x4.Time) && ((x3.Case == x4.Case) && ((x3.To == x4.To) && (x3.Step == x4.Step)))))) (by simp) (fun c7 => ?_) (fun c7 => ?_)
        · rw [if_pos c7] at h1
          refine kr [4] (by simp; rfl) ?_
          have k1 := he1 _ (Option.some.inj h1)
          subst k1
          dsimp only at h0
          cases h0
          exact tr_ret ⟨[], by simp, rfl, by simp⟩
        · rw [if_neg (by rw [c7]; decide)] at h1
          refine tr_skip ?_
          refine lr (by simp; rfl) ?_
          exact ⟨_, hg1 _ (Option.some.inj h1), wk (by simp [weak_iff])⟩
      · rw [if_neg (by rw [c6]; decide)] at h1
        refine tr_exit ?_
        exact ⟨_, he1 _ (Option.some.inj h1), wk (by simp [weak_iff])⟩
end Go.Vl
