/- history.reachable: what is reachable, in whatever order it is met. Conditions: none. -/
import Derived.Test.YtjnflahicimmlaaHAw
import Derived.Test.YtjnflahicimmlaaHvp
import Derived.Test.YtjnflahicimmlaaVmCc
set_option linter.unusedSimpArgs false
set_option linter.unusedVariables false
namespace Go.Vl
open Go Go.Proofs
noncomputable def history_reachable_l0 (a1 : List (Int × api_Object)) (s5 : (List (Int × Bool)) × (List Int)) : Option (Lp ((List (Int × Bool)) × (List Int)) (List (Int × Bool))) :=
  if (decide (0 < ((s5.2).length : Int))) = true then
    (ck (0 ≤ IntKind.i64.wrap (((s5.2).length : Int) - 1) ∧ (Int.toNat (IntKind.i64.wrap (((s5.2).length : Int) - 1))) < (s5.2).length)).bind fun _ =>
    (idx s5.2 (IntKind.i64.wrap (((s5.2).length : Int) - 1))).bind fun x6 =>
    (ck (0 ≤ 0 ∧ 0 ≤ IntKind.i64.wrap (((s5.2).length : Int) - 1) ∧ IntKind.i64.wrap (((s5.2).length : Int) - 1) ≤ (((s5.2).length : Nat) : Int))).bind fun _ =>
    if (!((mget inE s5.1 x6).getD false)) = true then
      (history_named ((mget inE a1 x6).getD (⟨0, 0, [], [], 0, [], ByteArray.empty, 0⟩ : api_Object))).bind fun y7 =>
      (ck ((((s5.2).take (Int.toNat (IntKind.i64.wrap (((s5.2).length : Int) - 1))))).length + (y7).length ≤ 268435456)).bind fun _ =>
      some (.go ((mset inE s5.1 x6 true), (((s5.2).take (Int.toNat (IntKind.i64.wrap (((s5.2).length : Int) - 1)))) ++ y7)))
    else
      some (.go (s5.1, ((s5.2).take (Int.toNat (IntKind.i64.wrap (((s5.2).length : Int) - 1))))))
  else
    some (.out s5.1)
set_option maxHeartbeats 1000000 in
theorem history_reachable_ok {a0 : api_Repository} {a1 : List (Int × api_Object)} {a2 : Int} {m : List (ByteArray × Int)} (h1m : history_refs a0 a2 = some m) (hm : m.length ≤ 1000000) {Φ : List (Int × Bool) → Prop}
    (h0 : ∀ ss : List Int, ss.Perm (m.map (·.2)) → ∃ r, iter (history_reachable_l0 a1) ([], ss) = some r ∧ Φ r) :
    FnOKr Try.prog 41 [.agg (api_Repository_av a0), .d (.mp (mTag 69 1 false true) 9 (rowsF (mRow (iRow .i64) api_Object_row) a1)), .d (.int .i64 a2)] Φ (fun r => .d (.mp (mTag 49 1 false false) 2 (rowsF (mRow (iRow .i64) bRow) r))) (fun _ => []) := by
  refine fn_okrK (nt := 43) (rs := [.tmp 6]) Try.func41 rfl Try.ntmps41 rfl (by simp) (by decide) fun K _ => ?_
  refine kr [1, 2, 3] (by simp; rfl) ?_
  refine kr [1, 2, 3, 7] (by simp; rfl) ?_
  refine kc ?_
  refine ko [1, 7, 11, 12] 2 (by simp; rfl) ?_
  refine kcall [1, 7, 13] [] (history_refs_ok h1m) rfl rfl rfl Try.call43 (by simp) (by simp; rfl) ?_
  refine kcall [1, 7, 14] [] (maps_Values_ok (e := mTag 81 1 false false) (z := 2) (rows := rowsF (mRow sRow (iRow .i64)) m)) rfl rfl rfl Try.call62 (by simp) (by simp; rfl) ?_
  refine kcallR [1, 7, 15] [600060] (slices_Collect_ok hm) rfl rfl rfl Try.call47 (by simp) (fun _ => rfl) (fun ss => by simp; rfl) fun ss hss => ?_
  refine ko [1, 7, 8] 1 (by simp; rfl) ?_
  refine tops_nil ?_
  obtain ⟨e1, hI1, hΦ⟩ := h0 ss hss
  refine sjv (fun v4 : (List (Int × Bool)) => ({ nt := 43, env := [(7, .vec 10)], box := [], vec := [(10, ⟨mTag 49 1 false false, 2, rowsF (mRow (iRow .i64) bRow) v4⟩)] } : St)) (fun v4 => v4 = e1) (fun v4 hI1e => ?_) ?_
  · subst hI1e
    refine kr [6] (by simp; rfl) ?_
    exact tr_ret ⟨_, hΦ, [10], [], by simp, by simp, by simp, by simp, by simp⟩
  · refine tr_block (tr_iter (fun s5 : (List (Int × Bool)) × (List Int) => ({ nt := 43, env := [(1, .d (.mp (mTag 69 1 false true) 9 (rowsF (mRow (iRow .i64) api_Object_row) a1))), (7, .vec 10), (8, .vec 600060)], box := [], vec := [(10, ⟨mTag 49 1 false false, 2, rowsF (mRow (iRow .i64) bRow) s5.1⟩), (600060, ⟨3, 1, rowsF (iRow .i64) s5.2⟩)] } : St)) hI1 (wk (by simp [weak_iff])) fun G1 s5 o1 h1 hg1 he1 => ?_)
    unfold history_reachable_l0 at h1
    refine tr_seq ?_
    refine kr [1, 7, 8, 18] (by simp; rfl) ?_
    refine tr_cond (b := (decide (0 < ((s5.2).length : Int)))) (by simp) (fun c5 => ?_) (fun c5 => ?_)
    · rw [if_pos c5] at h1
      refine tr_skip ?_
      refine tr_block ?_
      replace h1 := bnd h1; obtain ⟨_, p9, h1⟩ := h1
      replace p9 := ck_some p9
      have p9' := p9; try simp at p9'
      have p9o : IntKind.i64.wrap (((s5.2).length : Int) - 1) < (((s5.2)).length : Int) := by omega
      replace h1 := bnd h1; obtain ⟨x6, p10, h1⟩ := h1
      replace p10 := idx_some p10
      have p10' := p10; try simp at p10'
      refine kr [1, 7, 8, 9] (by simp [-getElem?_pos, List.getElem?_cons_zero, List.getElem?_cons_succ, p9, p9o, p10, p9', p10']; rfl) ?_
      replace h1 := bnd h1; obtain ⟨_, p11, h1⟩ := h1
      replace p11 := ck_some p11
      have p11' := p11; try simp at p11'
      refine kr [1, 7, 8, 9] (by simp [p11, p11']; rfl) ?_
      refine tr_wk (wk_cut (z := 1) (k := Int.toNat (IntKind.i64.wrap (((s5.2).length : Int) - 1))) 8 600060 600060 (by simp) (by simp; rfl) (by simp)) ?_
      refine kr [1, 7, 8, 9, 33] (by simp; rfl) ?_
      refine tr_cond (b := (!((mget inE s5.1 x6).getD false))) (by simp) (fun c6 => ?_) (fun c6 => ?_)
      · rw [if_pos c6] at h1
        refine kr [1, 7, 8, 9] (by simp; rfl) ?_
        refine kc1 ?_
        refine ko [1, 7, 36, 39] 4 (by simp; rfl) ?_
        replace h1 := bnd h1; obtain ⟨y7, hy7, h1⟩ := h1
        refine kcall [1, 7, 36, 40] [] (history_named_ok hy7) rfl rfl rfl Try.call58 (by simp) (by simp; rfl) ?_
        replace h1 := bnd h1; obtain ⟨_, p12, h1⟩ := h1
        replace p12 := ck_some p12
        have p12' := p12; try simp at p12'
        refine ko [1, 7, 8] 2 (by simp [p12, p12']; rfl) ?_
        refine tops_nil ?_
        exact ⟨_, hg1 _ (Option.some.inj h1), Wk.trans (wk_ren 41 600060) (wk (by simp [weak_iff]))⟩
      · rw [if_neg (by rw [c6]; decide)] at h1
        refine tr_skip ?_
        exact ⟨_, hg1 _ (Option.some.inj h1), wk (by simp [weak_iff])⟩
    · rw [if_neg (by rw [c5]; decide)] at h1
      refine tr_exit ?_
      exact ⟨_, he1 _ (Option.some.inj h1), wk (by simp [weak_iff])⟩
end Go.Vl
