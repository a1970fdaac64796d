/- Walks: how two notices are compared. Conditions: none. -/
import Derived.Test.YtciimncnodejaaaGreatDoorXs
import Derived.Test.YtciimncnodejaaaGreatDoorVmLz
import Derived.Test.YtciimncnodejaaaGreatDoorXd
import Derived.Test.YtciimncnodejaaaGreatDoorTyX
set_option linter.unusedSimpArgs false
set_option linter.unusedVariables false
namespace Go.Vl
open Go Go.Proofs
noncomputable def kcmp_isNaN_int (a0 : Int) : Option (Bool) :=
  some (a0 != a0)
noncomputable def kcmp_Compare_int (a0 : Int) (a1 : Int) : Option (Int) :=
  (kcmp_isNaN_int a0).bind fun y1 =>
  (kcmp_isNaN_int a1).bind fun y2 =>
  if y1 = true then
    if y2 = true then
      some 0
    else
      some (-1)
  else
  if y2 = true then
    some 1
  else
  if (decide (a0 < a1)) = true then
    some (-1)
  else
  if (decide (a1 < a0)) = true then
    some 1
  else
    some 0
noncomputable def kcmp_Or_int_l0 (a0 : List Int) (s2 : Int) : Option (Lp Int (Unit ⊕ Int)) :=
  if (decide (s2 < ((a0).length : Int))) = true then
    (idx a0 s2).bind fun x3 =>
    if (x3 != 0) = true then
      some (.out (.inr x3))
    else
      some (.go (IntKind.i64.wrap (s2 + 1)))
  else
    some (.out (.inl ()))
noncomputable def kcmp_Or_int (a0 : List Int) : Option (Int) :=
  (iter (kcmp_Or_int_l0 a0) 0).bind fun q5 =>
  match q5 with
  | .inl v1 =>
    some 0
  | .inr r4 =>
    some r4
noncomputable def knotice_All_1 (a0 : api_Notice) (a1 : api_Notice) : Option (Int) :=
  (kcmp_Compare_int a0.Time a1.Time).bind fun y1 =>
  (kcmp_Compare_int a0.Case a1.Case).bind fun y2 =>
  (kcmp_Compare_int a0.Step a1.Step).bind fun y3 =>
  (kcmp_Or_int [y1, y2, y3]).bind fun y4 =>
  some y4
set_option maxHeartbeats 1000000 in
theorem kcmp_isNaN_int_ok {a0 : Int} {r : Bool} (h0 : kcmp_isNaN_int a0 = some r) : FnOK Tryz.prog 60 [] [.d (.int .i64 a0)] (.d (.bool r)) [] := by
  unfold kcmp_isNaN_int at h0
  refine fn_ok (nt := 6) (rs := [.tmp 2]) Tryz.func60 rfl Tryz.ntmps60 rfl (by simp) (by decide) rfl fun K => ?_
  refine kr [0] (by simp; rfl) ?_
  refine kr [2] (by simp; rfl) ?_
  cases h0
  exact tr_ret ⟨[], by simp, rfl, by simp⟩
set_option maxHeartbeats 1000000 in
theorem kcmp_Compare_int_ok {a0 : Int} {a1 : Int} {r : Int} (h0 : kcmp_Compare_int a0 a1 = some r) : FnOK Tryz.prog 38 [] [.d (.int .i64 a0), .d (.int .i64 a1)] (.d (.int .i64 r)) [] := by
  unfold kcmp_Compare_int at h0
  refine fn_ok (nt := 20) (rs := [.tmp 4]) Tryz.func38 rfl Tryz.ntmps38 rfl (by simp) (by decide) rfl fun K => ?_
  refine kr [0, 1] (by simp; rfl) ?_
  refine kc ?_
  refine ko [0, 1, 7] 1 (by simp; rfl) ?_
  replace h0 := bnd h0; obtain ⟨y1, hy1, h0⟩ := h0
  refine kcall [0, 1, 8] [] (kcmp_isNaN_int_ok hy1) rfl rfl rfl Tryz.call60 (by simp) (by simp; rfl) ?_
  refine ko [0, 1, 5] 1 (by simp; rfl) ?_
  refine tops_nil ?_
  refine kc ?_
  refine ko [0, 1, 5, 9] 1 (by simp; rfl) ?_
  replace h0 := bnd h0; obtain ⟨y2, hy2, h0⟩ := h0
  refine kcall [0, 1, 5, 10] [] (kcmp_isNaN_int_ok hy2) rfl rfl rfl Tryz.call60 (by simp) (by simp; rfl) ?_
  refine ko [0, 1, 5, 6] 1 (by simp; rfl) ?_
  refine tops_nil ?_
  refine tr_seq ?_
  refine kr [0, 1, 6, 11] (by simp; rfl) ?_
  refine tr_cond (b := y1) (by simp) (fun c1 => ?_) (fun c1 => ?_)
  · rw [if_pos c1] at h0
    refine tr_seq ?_
    refine kr [12] (by simp; rfl) ?_
    refine tr_cond (b := y2) (by simp) (fun c2 => ?_) (fun c2 => ?_)
    · rw [if_pos c2] at h0
      refine kr [4] (by simp; rfl) ?_
      cases h0
      exact tr_ret ⟨[], by simp, rfl, by simp⟩
    · rw [if_neg (by rw [c2]; decide)] at h0
      refine tr_skip ?_
      refine kr [4] (by simp; rfl) ?_
      cases h0
      exact tr_ret ⟨[], by simp, rfl, by simp⟩
  · rw [if_neg (by rw [c1]; decide)] at h0
    refine tr_skip ?_
    refine tr_seq ?_
    refine kr [0, 1, 13] (by simp; rfl) ?_
    refine tr_cond (b := y2) (by simp) (fun c3 => ?_) (fun c3 => ?_)
    · rw [if_pos c3] at h0
      refine kr [4] (by simp; rfl) ?_
      cases h0
      exact tr_ret ⟨[], by simp, rfl, by simp⟩
    · rw [if_neg (by rw [c3]; decide)] at h0
      refine tr_skip ?_
      refine tr_seq ?_
      refine kr [0, 1, 16] (by simp; rfl) ?_
      refine tr_cond (b := (decide (a0 < a1))) (by simp) (fun c4 => ?_) (fun c4 => ?_)
      · rw [if_pos c4] at h0
        refine kr [4] (by simp; rfl) ?_
        cases h0
        exact tr_ret ⟨[], by simp, rfl, by simp⟩
      · rw [if_neg (by rw [c4]; decide)] at h0
        refine tr_skip ?_
        refine tr_seq ?_
        refine kr [19] (by simp; rfl) ?_
        refine tr_cond (b := (decide (a1 < a0))) (by simp) (fun c5 => ?_) (fun c5 => ?_)
        · rw [if_pos c5] at h0
          refine kr [4] (by simp; rfl) ?_
          cases h0
          exact tr_ret ⟨[], by simp, rfl, by simp⟩
        · rw [if_neg (by rw [c5]; decide)] at h0
          refine tr_skip ?_
          refine kr [4] (by simp; rfl) ?_
          cases h0
          exact tr_ret ⟨[], by simp, rfl, by simp⟩
set_option maxHeartbeats 1000000 in
theorem kcmp_Or_int_ok {a0 : List Int} {r : Int} (h0 : kcmp_Or_int a0 = some r) : FnOK Tryz.prog 37 [] [.d (.slice (rowsF (iRow .i64) a0))] (.d (.int .i64 r)) [] := by
  unfold kcmp_Or_int at h0
  refine fn_ok (nt := 18) (rs := [.tmp 2]) Tryz.func37 rfl Tryz.ntmps37 rfl (by simp) (by decide) rfl fun K => ?_
  refine kr [0] (by simp; rfl) ?_
  refine kr [0, 3] (by simp; rfl) ?_
  refine tr_seq ?_
  refine kr [3, 6, 7, 8] (by simp; rfl) ?_
  replace h0 := bnd h0; obtain ⟨e1, hI1, h0⟩ := h0
  refine tjv (fun v1 : Unit => ({ nt := 18, env := [(3, .d (.int .i64 0))], box := [], vec := [] } : St)) (fun v1 => .inl v1 = e1) (fun v1 hI1e _ W1 => ?_) ?_
  · subst hI1e
    dsimp only at h0
    refine tr_wk W1 ?_
    refine kr [2] (by simp; rfl) ?_
    cases h0
    exact tr_ret ⟨[], by simp, rfl, by simp⟩
  · refine tr_block (tr_iter (fun s2 : Int => ({ nt := 18, env := [(3, .d (.int .i64 0)), (6, .d (.slice (rowsF (iRow .i64) a0))), (7, .d (.int .i64 ((a0).length : Int))), (8, .d (.int .i64 s2))], box := [], vec := [] } : St)) hI1 (wk (by simp [weak_iff])) fun G1 s2 o1 h1 hg1 he1 => ?_)
    unfold kcmp_Or_int_l0 at h1
    refine kr [3, 6, 7, 8, 9] (by simp; rfl) ?_
    refine tr_seq ?_
    refine tr_cond (b := (decide (s2 < ((a0).length : Int)))) (by simp) (fun c5 => ?_) (fun c5 => ?_)
    · rw [if_pos c5] at h1
      refine tr_skip ?_
      refine tr_seq ?_
      refine tr_block ?_
      replace h1 := bnd h1; obtain ⟨x3, p3, h1⟩ := h1
      replace p3 := idx_some p3
      have p3' := p3; try simp at p3'
      refine kr [3, 5, 6, 7, 8] (by simp [p3, p3']; rfl) ?_
      refine kr [3, 5, 6, 7, 8, 14] (by simp; rfl) ?_
      refine tr_cond (b := (x3 != 0)) (by simp) (fun c6 => ?_) (fun c6 => ?_)
      · rw [if_pos c6] at h1
        refine kr [2] (by simp; rfl) ?_
        have k1 := he1 _ (Option.some.inj h1)
        subst k1
        dsimp only at h0
        cases h0
        exact tr_ret ⟨[], by simp, rfl, by simp⟩
      · rw [if_neg (by rw [c6]; decide)] at h1
        refine tr_skip ?_
        refine lr (by simp; rfl) ?_
        exact ⟨_, hg1 _ (Option.some.inj h1), wk (by simp [weak_iff])⟩
    · rw [if_neg (by rw [c5]; decide)] at h1
      refine tr_exit ?_
      exact ⟨_, he1 _ (Option.some.inj h1), wk (by simp [weak_iff])⟩
set_option maxHeartbeats 1000000 in
theorem knotice_All_1_ok {a0 : api_Notice} {a1 : api_Notice} {r : Int} (h0 : knotice_All_1 a0 a1 = some r) : FnOK Tryz.prog 36 [] [.agg (api_Notice_av a0), .agg (api_Notice_av a1)] (.d (.int .i64 r)) [] := by
  unfold knotice_All_1 at h0
  refine fn_ok (nt := 22) (rs := [.tmp 4]) Tryz.func36 rfl Tryz.ntmps36 rfl (by simp) (by decide) rfl fun K => ?_
  refine kr [2, 3] (by simp; rfl) ?_
  refine kd [[], [0], [], [2], [1, 3], [], [5], [], [7], [6, 8], [], [10], [], [12], [11, 13], [4, 9, 14], [15], [16]] [] [] none [] 18 fol (by decide +kernel) (by simp) ?_
  refine dr_go 0 2 rfl (by simp (maxSteps := 1000000); rfl) ?_
  refine dr_go 2 2 rfl (by simp (maxSteps := 1000000); rfl) ?_
  replace h0 := bnd h0; obtain ⟨y1, hy1, h0⟩ := h0
  refine dr_call 4 [] (kcmp_Compare_int_ok hy1) rfl rfl rfl rfl rfl Tryz.call38 (by simp) ?_
  refine dr_go 5 2 rfl (by simp (maxSteps := 1000000); rfl) ?_
  refine dr_go 7 2 rfl (by simp (maxSteps := 1000000); rfl) ?_
  replace h0 := bnd h0; obtain ⟨y2, hy2, h0⟩ := h0
  refine dr_call 9 [] (kcmp_Compare_int_ok hy2) rfl rfl rfl rfl rfl Tryz.call38 (by simp) ?_
  refine dr_go 10 2 rfl (by simp (maxSteps := 1000000); rfl) ?_
  refine dr_go 12 2 rfl (by simp (maxSteps := 1000000); rfl) ?_
  replace h0 := bnd h0; obtain ⟨y3, hy3, h0⟩ := h0
  refine dr_call 14 [] (kcmp_Compare_int_ok hy3) rfl rfl rfl rfl rfl Tryz.call38 (by simp) ?_
  refine dr_go 15 1 rfl (by simp (maxSteps := 1000000); rfl) ?_
  replace h0 := bnd h0; obtain ⟨y4, hy4, h0⟩ := h0
  refine dr_call 16 [] (kcmp_Or_int_ok hy4) rfl rfl rfl rfl rfl Tryz.call37 (by simp) ?_
  refine dr_go 17 1 rfl (by simp (maxSteps := 1000000); rfl) ?_
  refine dr_end rfl (tops_nil ?_)
  cases h0
  exact tr_ret ⟨[], by simp, rfl, by simp⟩
end Go.Vl
