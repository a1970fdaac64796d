/- Walks: each function of the given program computes what its mirror says. Conditions: none. -/
import Derived.Test.YtclmnpkhopioiaaRw1
set_option linter.unusedSimpArgs false
set_option linter.unusedVariables false
namespace Go.Vl
open Go Go.Proofs
set_option maxHeartbeats 1000000 in
theorem fleet_Units_ok {a0 : api_Fleet} {a1 : Int} {r : (List Int)} (h0 : fleet_Units a0 a1 = some r) : FnOK Try.prog 39 [] [.agg (api_Fleet_av a0), .d (.int .i64 a1)] (.d (.slice (rowsF (iRow .i64) r))) [] := by
  unfold fleet_Units at h0
  refine fn_ok (nt := 29) (rs := [.tmp 4]) Try.func39 rfl Try.ntmps39 rfl (by simp) (by decide) rfl fun K => ?_
  refine kr [1, 2] (by simp; rfl) ?_
  refine tr_seq ?_
  refine kc ?_
  refine ko [1, 2, 8] 1 (by simp; rfl) ?_
  replace h0 := bnd h0; obtain ⟨y1, hy1, h0⟩ := h0
  refine kcall [1, 2, 9] [] (fleet_Check_ok hy1) rfl rfl rfl Try.call28 (by simp) (by simp; rfl) ?_
  refine ko [1, 2, 10] 1 (by simp; rfl) ?_
  refine tops_nil ?_
  refine tr_cond (b := (y1 != 0)) (by simp) (fun c1 => ?_) (fun c1 => ?_)
  · rw [if_pos c1] at h0
    refine kr [4] (by simp; rfl) ?_
    cases h0
    exact tr_ret ⟨[], by simp, rfl, by simp⟩
  · rw [if_neg (by rw [c1]; decide)] at h0
    refine tr_skip ?_
    refine kr [1, 2, 5] (by simp; rfl) ?_
    refine tr_seq ?_
    refine kr [1, 5, 12, 13, 14] (by simp; rfl) ?_
    refine tr_wk (wk_own 5 26 3 1 (by simp) (by simp)) ?_
    replace h0 := bnd h0; obtain ⟨e1, hI1, h0⟩ := h0
    refine tjv (fun v2 : (List Int) => ({ nt := 29, env := [(5, .vec 26)], box := [], vec := [(26, ⟨3, 1, rowsF (iRow .i64) v2⟩)] } : St)) (fun v2 => v2 = e1) (fun v2 hI1e _ W1 => ?_) ?_
    · subst hI1e
      refine tr_wk W1 ?_
      refine kr [4] (by simp; rfl) ?_
      cases h0
      exact tr_ret ⟨[26], by simp, rfl, by simp⟩
    · refine tr_block (tr_iter (fun s3 : Int × (List Int) => ({ nt := 29, env := [(1, .d (.int .i64 a1)), (5, .vec 26), (12, .d (.slice (rowsF api_Consumer_row a0.Consumers))), (13, .d (.int .i64 ((a0.Consumers).length : Int))), (14, .d (.int .i64 s3.1))], box := [], vec := [(26, ⟨3, 1, rowsF (iRow .i64) s3.2⟩)] } : St)) hI1 (wk (by simp [weak_iff])) fun G1 s3 o1 h1 hg1 he1 => ?_)
      unfold fleet_Units_l0 at h1
      refine kr [1, 5, 12, 13, 14, 15] (by simp; rfl) ?_
      refine tr_seq ?_
      refine tr_cond (b := (decide (s3.1 < ((a0.Consumers).length : Int)))) (by simp) (fun c8 => ?_) (fun c8 => ?_)
      · rw [if_pos c8] at h1
        refine tr_skip ?_
        refine tr_seq ?_
        refine tr_block ?_
        replace h1 := bnd h1; obtain ⟨x4, p6, h1⟩ := h1
        replace p6 := idx_some p6
        have p6' := p6; try simp at p6'
        refine kr [1, 5, 6, 7, 12, 13, 14] (by simp [p6, p6']; rfl) ?_
        refine kr [1, 5, 6, 12, 13, 14, 22] (by simp; rfl) ?_
        refine tr_cond (b := (x4.Pool == a1)) (by simp) (fun c9 => ?_) (fun c9 => ?_)
        · rw [if_pos c9] at h1
          replace h1 := bnd h1; obtain ⟨_, p7, h1⟩ := h1
          replace p7 := ck_some p7
          have p7' := p7; try simp at p7'
          refine lr (by simp [p7, p7']; rfl) ?_
          refine lr (by simp; rfl) ?_
          exact ⟨_, hg1 _ (Option.some.inj h1), wk (by simp [weak_iff])⟩
        · rw [if_neg (by rw [c9]; decide)] at h1
          refine tr_skip ?_
          refine lr (by simp; rfl) ?_
          exact ⟨_, hg1 _ (Option.some.inj h1), wk (by simp [weak_iff])⟩
      · rw [if_neg (by rw [c8]; decide)] at h1
        refine tr_exit ?_
        exact ⟨_, he1 _ (Option.some.inj h1), wk (by simp [weak_iff])⟩
end Go.Vl
