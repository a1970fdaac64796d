/- history.named: the IDs that an object names. Conditions: none. -/
import Derived.Test.YtjnflahicimmlaaDoorDn
import Derived.Test.YtjnflahicimmlaaDoorVmSt
import Derived.Test.YtjnflahicimmlaaDoorTyD
import Derived.Test.YtjnflahicimmlaaDoorVmLz
import Derived.Test.YtjnflahicimmlaaDoorPlG
set_option linter.unusedSimpArgs false
set_option linter.unusedVariables false
namespace Go.Vl
open Go Go.Proofs
noncomputable def cloneO (a0 : List Int) : Option (List Int) :=
  (ck ((a0).length ≤ 268435456)).bind fun _ =>
  some a0
noncomputable def hnamed_l0 (a0 : api_Object) (s3 : Int × (List Int)) : Option (Lp (Int × (List Int)) (List Int)) :=
  if (decide (s3.1 < ((a0.Items).length : Int))) = true then
    (idx a0.Items s3.1).bind fun x4 =>
    (ck ((s3.2).length + ([x4.ID]).length ≤ 268435456)).bind fun _ =>
    some (.go (IntKind.i64.wrap (s3.1 + 1), (s3.2 ++ [x4.ID])))
  else
    some (.out s3.2)
noncomputable def hnamed (a0 : api_Object) : Option ((List Int)) :=
  (cloneO a0.Parents).bind fun y1 =>
  (iter (hnamed_l0 a0) (0, y1)).bind fun v2 =>
  if (a0.Kind == 3) = true then
    (ck ((v2).length + ([a0.Tree]).length ≤ 268435456)).bind fun _ =>
    some (v2 ++ [a0.Tree])
  else
    some v2
set_option maxHeartbeats 1000000 in
theorem cloneO_ok {a0 : List Int} {r : List Int} (h0 : cloneO a0 = some r) : FnOKv Tryd.prog 59 [] [] [.d (.slice (rowsF (iRow .i64) a0))] (.vec (InV 0)) [] [⟨3, 1, rowsF (iRow .i64) r⟩] := by
  unfold cloneO at h0
  replace h0 := bnd h0; obtain ⟨_, p1, h0⟩ := h0; replace p1 := ck_some p1; cases h0
  refine fn_okv (nt := 8) (rs := [.tmp 2]) Tryd.func59 rfl Tryd.ntmps59 rfl (by simp) (by decide) rfl fun K => ?_
  refine kr [0, 2] (by simp; rfl) ?_
  cases a0 with
  | nil =>
    refine tr_seq ?_
    refine kc ?_
    refine ko [0, 3] 1 (by simp; rfl) ?_
    refine tops_nilq (by simp) rfl rfl (by simp) (by simp) (by simp) Tryd.underlying24 fun b => ?_
    refine tops_nil ?_
    refine tr_cond (b := b) (by simp) (fun h => ?_) (fun h => ?_)
    · refine kr [2] (by simp; rfl) ?_
      refine tr_wk (wk_own 2 7 3 1 (by simp) (by simp)) ?_
      exact tr_ret ⟨[], [7], by simp, by simp, by simp, by simp, by simp⟩
    · refine tr_skip ?_
      refine kr [2] (by simp; rfl) ?_
      exact tr_ret ⟨[], [7], by simp, by simp, by simp, by simp, by simp⟩
  | cons x l =>
    refine tr_seq ?_
    refine kr [0, 4] (by simp; rfl) ?_
    refine tr_cond (b := false) (by simp) (fun h => by cases h) (fun _ => ?_)
    refine tr_skip ?_
    have p2 := p1; simp at p2
    refine kr [2] (by simp [p1, p2]; rfl) ?_
    exact tr_ret ⟨[], [7], by simp, by simp, by simp, by simp, by simp⟩
set_option maxHeartbeats 1000000 in
theorem hnamed_ok {a0 : api_Object} {r : (List Int)} (h0 : hnamed a0 = some r) : FnOK Tryd.prog 47 [] [.agg (api_Object_av a0)] (.d (.slice (rowsF (iRow .i64) r))) [] := by
  unfold hnamed at h0
  refine fn_ok (nt := 31) (rs := [.tmp 2]) Tryd.func47 rfl Tryd.ntmps47 rfl (by simp) (by decide) rfl fun K => ?_
  refine kr [1] (by simp; rfl) ?_
  refine kc ?_
  refine ko [1, 7] 2 (by simp; rfl) ?_
  replace h0 := bnd h0; obtain ⟨y1, hy1, h0⟩ := h0
  refine kcallV [1, 8] [] [] [600032] (cloneO_ok hy1) rfl rfl rfl Tryd.call59 (by simp) (by simp; rfl) ?_
  refine ko [1, 3] 1 (by simp; rfl) ?_
  refine tops_nil ?_
  refine tr_seq ?_
  refine kr [1, 3, 10, 11, 12] (by simp; rfl) ?_
  replace h0 := bnd h0; obtain ⟨e1, hI1, h0⟩ := h0
  refine tjv (fun v2 : (List Int) => ({ nt := 31, env := [(1, .ptr 1 0), (3, .vec 600032)], box := [(1, [.d (.int .i64 a0.ID), .d (.int .i64 a0.Kind), .d (.slice (rowsF (iRow .u8) a0.Data)), .d (.slice (rowsF api_Item_row a0.Items)), .d (.int .i64 a0.Tree), .d (.slice (rowsF (iRow .i64) a0.Parents)), .d (.str a0.Author), .d (.int .i64 a0.Time)])], vec := [(600032, ⟨3, 1, rowsF (iRow .i64) v2⟩)] } : St)) (fun v2 => v2 = e1) (fun v2 hI1e _ W1 => ?_) ?_
  · subst hI1e
    refine tr_wk W1 ?_
    refine tr_seq ?_
    refine kr [1, 3, 24] (by simp; rfl) ?_
    refine tr_cond (b := (a0.Kind == 3)) (by simp) (fun c3 => ?_) (fun c3 => ?_)
    · rw [if_pos c3] at h0
      replace h0 := bnd h0; obtain ⟨_, p5, h0⟩ := h0
      replace p5 := ck_some p5
      have p5' := p5; try simp at p5'
      refine lr (by simp [p5, p5']; rfl) ?_
      refine kr [2] (by simp; rfl) ?_
      cases h0
      exact tr_ret ⟨[29], by simp, rfl, by simp⟩
    · rw [if_neg (by rw [c3]; decide)] at h0
      refine tr_skip ?_
      refine kr [2] (by simp; rfl) ?_
      cases h0
      exact tr_ret ⟨[600032], by simp, rfl, by simp⟩
  · refine tr_block (tr_iter (fun s3 : Int × (List Int) => ({ nt := 31, env := [(1, .ptr 1 0), (3, .vec 600032), (10, .d (.slice (rowsF api_Item_row a0.Items))), (11, .d (.int .i64 ((a0.Items).length : Int))), (12, .d (.int .i64 s3.1))], box := [(1, [.d (.int .i64 a0.ID), .d (.int .i64 a0.Kind), .d (.slice (rowsF (iRow .u8) a0.Data)), .d (.slice (rowsF api_Item_row a0.Items)), .d (.int .i64 a0.Tree), .d (.slice (rowsF (iRow .i64) a0.Parents)), .d (.str a0.Author), .d (.int .i64 a0.Time)])], vec := [(600032, ⟨3, 1, rowsF (iRow .i64) s3.2⟩)] } : St)) hI1 (wk (by simp [weak_iff])) fun G1 s3 o1 h1 hg1 he1 => ?_)
    unfold hnamed_l0 at h1
    refine kr [1, 3, 10, 11, 12, 13] (by simp; rfl) ?_
    refine tr_seq ?_
    refine tr_cond (b := (decide (s3.1 < ((a0.Items).length : Int)))) (by simp) (fun c4 => ?_) (fun c4 => ?_)
    · rw [if_pos c4] at h1
      refine tr_skip ?_
      refine tr_seq ?_
      refine tr_block ?_
      replace h1 := bnd h1; obtain ⟨x4, p6, h1⟩ := h1
      replace p6 := idx_some p6
      have p6' := p6; try simp at p6'
      refine kr [1, 3, 5, 10, 11, 12] (by simp [p6, p6']; rfl) ?_
      replace h1 := bnd h1; obtain ⟨_, p7, h1⟩ := h1
      replace p7 := ck_some p7
      have p7' := p7; try simp at p7'
      refine lr (by simp [p7, p7']; rfl) ?_
      refine lr (by simp; rfl) ?_
      exact ⟨_, hg1 _ (Option.some.inj h1), Wk.trans (wk_ren 20 600032) (wk (by simp [weak_iff]))⟩
    · rw [if_neg (by rw [c4]; decide)] at h1
      refine tr_exit ?_
      exact ⟨_, he1 _ (Option.some.inj h1), wk (by simp [weak_iff])⟩
theorem hnamed_sp {o : api_Object} (h : fitO o = true) : hnamed o = some (namesO o) := by
  unfold fitO at h
  simp only [Bool.and_eq_true, decide_eq_true_eq] at h
  unfold hnamed cloneO namesO
  rw [ck_t (by omega)]
  simp only [Option.bind_some]
  have hl := iter_foldlS (body := hnamed_l0 o) o.Items (fun i l => ((i : Int), l)) (fun l x => l ++ [x.ID]) (fun l => l) (fun i l => l.length = o.Parents.length + i) (fun i hi l h1 => by
    refine ⟨?_, by simp [h1]; omega⟩
    unfold hnamed_l0
    simp only
    rw [if_pos (by simp <;> omega), idx_lt hi, w64 (by omega) (by omega)]
    simp only [Option.bind_some]
    rw [ck_t (by simp; omega)]
    rfl) (fun l _ => by
    unfold hnamed_l0
    simp only
    rw [if_neg (by simp)]) o.Parents (by simp)
  have hf : ∀ (l : List api_Item) (s : List Int), l.foldl (fun l x => l ++ [x.ID]) s = s ++ l.map (·.ID) := fun l => by
    induction l with
    | nil => intro s; simp
    | cons x l ih => intro s; rw [List.foldl_cons, ih]; simp
  rw [hf] at hl
  rw [show ((0, o.Parents) : Int × List Int) = (((0 : Nat) : Int), o.Parents) from rfl, hl.1]
  simp only [Option.bind_some]
  by_cases hk : o.Kind = 3
  · rw [if_pos (by simpa using hk), ck_t (by have := hl.2; simp at this ⊢; omega), if_pos hk]; rfl
  · rw [if_neg (by simpa using hk), if_neg hk]; simp
theorem history_named_ok {a0 : api_Object} {r : List Int} (h0 : history_named a0 = some r) : FnOK Tryd.prog 47 [] [.agg (api_Object_av a0)] (.d (.slice (rowsF (iRow .i64) r))) [] := by
  unfold history_named at h0
  split at h0
  case isFalse => cases h0
  rename_i h
  cases h0
  exact hnamed_ok (hnamed_sp h)
end Go.Vl
