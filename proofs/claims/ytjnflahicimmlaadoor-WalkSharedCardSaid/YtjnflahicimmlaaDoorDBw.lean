/- Walks: each function of the given program computes what its mirror says. Conditions: none. -/
import Derived.Test.YtjnflahicimmlaaDoorDBm
import Derived.Test.YtjnflahicimmlaaDoorVmCb
import Derived.Test.YtjnflahicimmlaaDoorVmQ
import Derived.Test.YtjnflahicimmlaaDoorVmSt
import Derived.Test.YtjnflahicimmlaaDoorVmLz
import Derived.Test.YtjnflahicimmlaaDoorDq
import Derived.Test.YtjnflahicimmlaaDoorTyD
import Derived.Test.YtjnflahicimmlaaDoorDAw
import Derived.Test.YtjnflahicimmlaaDoorDz
set_option linter.unusedSimpArgs false
set_option linter.unusedVariables false
namespace Go.Vl
open Go Go.Proofs
set_option maxHeartbeats 1000000 in
theorem slices_Clone_api_Item_ok {a0 : List api_Item} {r : List api_Item} (h0 : slices_Clone_api_Item a0 = some r) : FnOK Tryd.prog 31 [] [.d (.slice (rowsF api_Item_row a0))] (.d (.slice (rowsF api_Item_row r))) [] := by
  unfold slices_Clone_api_Item at h0
  replace h0 := bnd h0; obtain ⟨_, p1, h0⟩ := h0; replace p1 := ck_some p1; cases h0
  refine fn_ok (nt := 8) (rs := [.tmp 2]) Tryd.func31 rfl Tryd.ntmps31 rfl (by simp) (by decide) rfl fun K => ?_
  refine kr [0, 2] (by simp; rfl) ?_
  cases a0 with
  | nil =>
    refine tr_seq ?_
    refine kc ?_
    refine ko [0, 3] 1 (by simp; rfl) ?_
    refine tops_isnil (by simp) rfl rfl (by simp) Tryd.underlying23 (by simp) (by simp) fun b => ?_
    refine tops_nil ?_
    refine tr_cond (b := b) (by simp) (fun cb => ?_) (fun cb => ?_)
    · refine kr [2] (by simp; rfl) ?_
      exact tr_ret ⟨[], by simp, rfl, by simp⟩
    · refine tr_skip ?_
      refine kr [2] (by simp; rfl) ?_
      exact tr_ret ⟨[7], by simp, rfl, by simp⟩
  | cons x l =>
    refine tr_seq ?_
    refine kr [0, 4] (by simp; rfl) ?_
    refine tr_cond (b := false) (by simp) (fun h => by cases h) (fun _ => ?_)
    refine tr_skip ?_
    have p2 := p1; simp at p2
    refine kr [2] (by simp [p1, p2]; rfl) ?_
    exact tr_ret ⟨[7], by simp, rfl, by simp⟩
set_option maxHeartbeats 1000000 in
theorem internal_strconv_log10Pow2_ok {a0 : Int} {r : Int} (h0 : internal_strconv_log10Pow2 a0 = some r) : FnOK Tryd.prog 82 [] [.d (.int .i64 a0)] (.d (.int .i64 r)) [] := by
  unfold internal_strconv_log10Pow2 at h0
  refine fn_ok (nt := 6) (rs := [.tmp 2]) Tryd.func82 rfl Tryd.ntmps82 rfl (by simp) (by decide) rfl fun K => ?_
  refine kr [0] (by simp; rfl) ?_
  refine kr [2] (by simp; rfl) ?_
  cases h0
  exact tr_ret ⟨[], by simp, rfl, by simp⟩
set_option maxHeartbeats 1000000 in
theorem internal_strconv_bool2_int_ok {a0 : Bool} {r : Int} (h0 : internal_strconv_bool2_int a0 = some r) : FnOK Tryd.prog 83 [] [.d (.bool a0)] (.d (.int .i64 r)) [] := by
  unfold internal_strconv_bool2_int at h0
  refine fn_ok (nt := 4) (rs := [.tmp 2]) Tryd.func83 rfl Tryd.ntmps83 rfl (by simp) (by decide) rfl fun K => ?_
  refine kr [0] (by simp; rfl) ?_
  refine tr_seq ?_
  refine kr [3] (by simp; rfl) ?_
  refine tr_cond (b := a0) (by simp) (fun c1 => ?_) (fun c1 => ?_)
  · rw [if_pos c1] at h0
    refine kr [2] (by simp; rfl) ?_
    cases h0
    exact tr_ret ⟨[], by simp, rfl, by simp⟩
  · rw [if_neg (by rw [c1]; decide)] at h0
    refine tr_skip ?_
    refine kr [2] (by simp; rfl) ?_
    cases h0
    exact tr_ret ⟨[], by simp, rfl, by simp⟩
set_option maxHeartbeats 1000000 in
theorem internal_strconv_isPowerOfTwo_ok {a0 : Int} {r : Bool} (h0 : internal_strconv_isPowerOfTwo a0 = some r) : FnOK Tryd.prog 84 [] [.d (.int .i64 a0)] (.d (.bool r)) [] := by
  unfold internal_strconv_isPowerOfTwo at h0
  refine fn_ok (nt := 8) (rs := [.tmp 2]) Tryd.func84 rfl Tryd.ntmps84 rfl (by simp) (by decide) rfl fun K => ?_
  refine kr [0] (by simp; rfl) ?_
  refine kr [2] (by simp; rfl) ?_
  cases h0
  exact tr_ret ⟨[], by simp, rfl, by simp⟩
set_option maxHeartbeats 1000000 in
theorem slices_xorshift_Next_ok {a0 : Int} {r : Int × Int} (h0 : slices_xorshift_Next a0 = some r) : FnOK Tryd.prog 78 [[.d (.int .u64 a0)]] [.ptr (InO 0) 0] (.d (.int .u64 r.1)) [[.d (.int .u64 r.2)]] := by
  unfold slices_xorshift_Next at h0
  refine fn_ok (nt := 33) (rs := [.tmp 2]) Tryd.func78 rfl Tryd.ntmps78 rfl (by simp) (by decide) rfl fun K => ?_
  refine kr [0] (by simp; rfl) ?_
  refine kd [[], [0], [1], [], [3], [4], [5], [2, 6], [0], [2, 5, 7, 8]] [9] [(1000000, [9])] none [] 10 fol (by decide +kernel) (by simp) ?_
  refine dr_go 0 2 rfl (by simp (maxSteps := 1000000); rfl) ?_
  refine dr_go 2 2 rfl (by simp (maxSteps := 1000000); rfl) ?_
  refine dr_go 4 2 rfl (by simp (maxSteps := 1000000); rfl) ?_
  refine dr_go 6 2 rfl (by simp (maxSteps := 1000000); rfl) ?_
  refine dr_go 8 2 rfl (by simp (maxSteps := 1000000); rfl) ?_
  refine dr_end rfl (tops_nil ?_)
  refine kd [[], [0], [1], [], [3], [4], [5], [2, 6], [0], [2, 5, 7, 8]] [9] [(1000000, [9])] none [] 10 fol (by decide +kernel) (by simp) ?_
  refine dr_go 0 2 rfl (by simp (maxSteps := 1000000); rfl) ?_
  refine dr_go 2 2 rfl (by simp (maxSteps := 1000000); rfl) ?_
  refine dr_go 4 2 rfl (by simp (maxSteps := 1000000); rfl) ?_
  refine dr_go 6 2 rfl (by simp (maxSteps := 1000000); rfl) ?_
  refine dr_go 8 2 rfl (by simp (maxSteps := 1000000); rfl) ?_
  refine dr_end rfl (tops_nil ?_)
  refine kd [[], [0], [1], [], [3], [4], [5], [2, 6], [0], [2, 5, 7, 8]] [9] [(1000000, [9])] none [] 10 fol (by decide +kernel) (by simp) ?_
  refine dr_go 0 2 rfl (by simp (maxSteps := 1000000); rfl) ?_
  refine dr_go 2 2 rfl (by simp (maxSteps := 1000000); rfl) ?_
  refine dr_go 4 2 rfl (by simp (maxSteps := 1000000); rfl) ?_
  refine dr_go 6 2 rfl (by simp (maxSteps := 1000000); rfl) ?_
  refine dr_go 8 2 rfl (by simp (maxSteps := 1000000); rfl) ?_
  refine dr_end rfl (tops_nil ?_)
  refine kr [2] (by simp; rfl) ?_
  cases h0
  exact tr_ret ⟨[], by simp, rfl, by simp⟩
set_option maxHeartbeats 1000000 in
theorem cmp_isNaN_string_ok {a0 : ByteArray} {r : Bool} (h0 : cmp_isNaN_string a0 = some r) : FnOK Tryd.prog 54 [] [.d (.str a0)] (.d (.bool r)) [] := by
  unfold cmp_isNaN_string at h0
  refine fn_ok (nt := 6) (rs := [.tmp 2]) Tryd.func54 rfl Tryd.ntmps54 rfl (by simp) (by decide) rfl fun K => ?_
  refine kr [0] (by simp; rfl) ?_
  refine kr [2] (by simp; rfl) ?_
  cases h0
  exact tr_ret ⟨[], by simp, rfl, by simp⟩
set_option maxHeartbeats 1000000 in
theorem cmp_Compare_string_ok {a0 : ByteArray} {a1 : ByteArray} {r : Int} (h0 : cmp_Compare_string a0 a1 = some r) : FnOK Tryd.prog 37 [] [.d (.str a0), .d (.str a1)] (.d (.int .i64 r)) [] := by
  unfold cmp_Compare_string at h0
  refine fn_ok (nt := 20) (rs := [.tmp 4]) Tryd.func37 rfl Tryd.ntmps37 rfl (by simp) (by decide) rfl fun K => ?_
  refine kr [0, 1] (by simp; rfl) ?_
  refine kc ?_
  refine ko [0, 1, 7] 1 (by simp; rfl) ?_
  replace h0 := bnd h0; obtain ⟨y1, hy1, h0⟩ := h0
  refine kcall [0, 1, 8] [] (cmp_isNaN_string_ok hy1) rfl rfl rfl Tryd.call54 (by simp) (by simp; rfl) ?_
  refine ko [0, 1, 5] 1 (by simp; rfl) ?_
  refine tops_nil ?_
  refine kc ?_
  refine ko [0, 1, 5, 9] 1 (by simp; rfl) ?_
  replace h0 := bnd h0; obtain ⟨y2, hy2, h0⟩ := h0
  refine kcall [0, 1, 5, 10] [] (cmp_isNaN_string_ok hy2) rfl rfl rfl Tryd.call54 (by simp) (by simp; rfl) ?_
  refine ko [0, 1, 5, 6] 1 (by simp; rfl) ?_
  refine tops_nil ?_
  refine tr_seq ?_
  refine kr [0, 1, 6, 11] (by simp; rfl) ?_
  refine tr_cond (b := y1) (by simp) (fun c1 => ?_) (fun c1 => ?_)
  · rw [if_pos c1] at h0
    refine tr_seq ?_
    refine kr [12] (by simp; rfl) ?_
    refine tr_cond (b := y2) (by simp) (fun c2 => ?_) (fun c2 => ?_)
    · rw [if_pos c2] at h0
      refine kr [4] (by simp; rfl) ?_
      cases h0
      exact tr_ret ⟨[], by simp, rfl, by simp⟩
    · rw [if_neg (by rw [c2]; decide)] at h0
      refine tr_skip ?_
      refine kr [4] (by simp; rfl) ?_
      cases h0
      exact tr_ret ⟨[], by simp, rfl, by simp⟩
  · rw [if_neg (by rw [c1]; decide)] at h0
    refine tr_skip ?_
    refine tr_seq ?_
    refine kr [0, 1, 13] (by simp; rfl) ?_
    refine tr_cond (b := y2) (by simp) (fun c3 => ?_) (fun c3 => ?_)
    · rw [if_pos c3] at h0
      refine kr [4] (by simp; rfl) ?_
      cases h0
      exact tr_ret ⟨[], by simp, rfl, by simp⟩
    · rw [if_neg (by rw [c3]; decide)] at h0
      refine tr_skip ?_
      refine tr_seq ?_
      refine kr [0, 1, 16] (by simp; rfl) ?_
      refine tr_cond (b := (Op.bytesLess (a0).toList (a1).toList)) (by simp) (fun c4 => ?_) (fun c4 => ?_)
      · rw [if_pos c4] at h0
        refine kr [4] (by simp; rfl) ?_
        cases h0
        exact tr_ret ⟨[], by simp, rfl, by simp⟩
      · rw [if_neg (by rw [c4]; decide)] at h0
        refine tr_skip ?_
        refine tr_seq ?_
        refine kr [19] (by simp; rfl) ?_
        refine tr_cond (b := (!(Op.bytesLess (a0).toList (a1).toList || (a0).toList == (a1).toList))) (by simp) (fun c5 => ?_) (fun c5 => ?_)
        · rw [if_pos c5] at h0
          refine kr [4] (by simp; rfl) ?_
          cases h0
          exact tr_ret ⟨[], by simp, rfl, by simp⟩
        · rw [if_neg (by rw [c5]; decide)] at h0
          refine tr_skip ?_
          refine kr [4] (by simp; rfl) ?_
          cases h0
          exact tr_ret ⟨[], by simp, rfl, by simp⟩
set_option maxHeartbeats 1000000 in
theorem walk_paths_1_ok {a0 : api_Item} {a1 : api_Item} {r : Int} (h0 : walk_paths_1 a0 a1 = some r) : FnOK Tryd.prog 36 [] [.agg (api_Item_av a0), .agg (api_Item_av a1)] (.d (.int .i64 r)) [] := by
  unfold walk_paths_1 at h0
  refine fn_ok (nt := 10) (rs := [.tmp 4]) Tryd.func36 rfl Tryd.ntmps36 rfl (by simp) (by decide) rfl fun K => ?_
  refine kr [2, 3] (by simp; rfl) ?_
  refine kc ?_
  refine ko [6, 8] 4 (by simp; rfl) ?_
  replace h0 := bnd h0; obtain ⟨y1, hy1, h0⟩ := h0
  refine kcall [9] [] (cmp_Compare_string_ok hy1) rfl rfl rfl Tryd.call37 (by simp) (by simp; rfl) ?_
  refine ko [4] 1 (by simp; rfl) ?_
  refine tops_nil ?_
  cases h0
  exact tr_ret ⟨[], by simp, rfl, by simp⟩
set_option maxHeartbeats 1000000 in
theorem walk_walker_tree_o0_2R_ok {f0 : walk_walker → ByteArray → Int → Option (Bool × walk_walker)} (f0_ok : ∀ {a0 : walk_walker} {a1 : ByteArray} {a2 : Int} {r : Bool × walk_walker}, f0 a0 a1 a2 = some r → FnOKv Tryd.prog 33 [[.d (.mp (mTag 45 1 false true) 9 (rowsF (mRow (iRow .i64) api_Object_row) a0.objects)), .d (.int .i64 a0.left), .vec (InV 0)]] [⟨28, 2, rowsF api_Item_row a0.out⟩] [.ptr (InO 0) 0, .d (.str a1), .d (.int .i64 a2)] (.d (.bool r.1)) [[.d (.mp (mTag 45 1 false true) 9 (rowsF (mRow (iRow .i64) api_Object_row) r.2.objects)), .d (.int .i64 r.2.left), .vec (InV 0)]] [⟨28, 2, rowsF api_Item_row r.2.out⟩]) {a0 : walk_walker} {a1 : ByteArray} {a2 : Int} {r : Bool × walk_walker} (h0 : walk_walker_tree_o0_2R f0 a0 a1 a2 = some r) : FnOKv Tryd.prog 33 [[.d (.mp (mTag 45 1 false true) 9 (rowsF (mRow (iRow .i64) api_Object_row) a0.objects)), .d (.int .i64 a0.left), .vec (InV 0)]] [⟨28, 2, rowsF api_Item_row a0.out⟩] [.ptr (InO 0) 0, .d (.str a1), .d (.int .i64 a2)] (.d (.bool r.1)) [[.d (.mp (mTag 45 1 false true) 9 (rowsF (mRow (iRow .i64) api_Object_row) r.2.objects)), .d (.int .i64 r.2.left), .vec (InV 0)]] [⟨28, 2, rowsF api_Item_row r.2.out⟩] := by
  unfold walk_walker_tree_o0_2R at h0
  refine fn_okv (nt := 68) (rs := [.tmp 6]) Tryd.func33 rfl Tryd.ntmps33 rfl (by simp) (by decide) rfl fun K => ?_
  refine kr [0, 1, 2] (by simp; rfl) ?_
  refine tr_seq ?_
  refine kr [0, 1, 16, 17, 18] (by simp; rfl) ?_
  replace h0 := bnd h0; obtain ⟨e1, hI1, h0⟩ := h0
  refine tjv (fun v1 : (List (Int × api_Object)) × Int × (List api_Item) => ({ nt := 68, env := [], box := [(1000000, [.d (.mp (mTag 45 1 false true) 9 (rowsF (mRow (iRow .i64) api_Object_row) v1.1)), .d (.int .i64 v1.2.1), .vec 2000000])], vec := [(2000000, ⟨28, 2, rowsF api_Item_row v1.2.2⟩)] } : St)) (fun v1 => .inl v1 = e1) (fun v1 hI1e _ W1 => ?_) ?_
  · subst hI1e
    dsimp only at h0
    refine tr_wk W1 ?_
    refine kr [6] (by simp; rfl) ?_
    cases h0
    exact tr_ret ⟨[], [2000000], by simp, by simp, by simp, by simp, by simp⟩
  · refine tr_block (tr_iter (fun s2 : Int × (List (Int × api_Object)) × Int × (List api_Item) => ({ nt := 68, env := [(0, .ptr 1000000 0), (1, .d (.str a1)), (16, .d (.slice (rowsF api_Item_row (((mget inE a0.objects a2).getD (⟨0, 0, [], [], 0, [], ByteArray.empty, 0⟩ : api_Object)).Items)))), (17, .d (.int .i64 ((((mget inE a0.objects a2).getD (⟨0, 0, [], [], 0, [], ByteArray.empty, 0⟩ : api_Object)).Items).length : Int))), (18, .d (.int .i64 s2.1))], box := [(1000000, [.d (.mp (mTag 45 1 false true) 9 (rowsF (mRow (iRow .i64) api_Object_row) s2.2.1)), .d (.int .i64 s2.2.2.1), .vec 2000000])], vec := [(2000000, ⟨28, 2, rowsF api_Item_row s2.2.2.2⟩)] } : St)) hI1 (wk (by simp [weak_iff])) fun G1 s2 o1 h1 hg1 he1 => ?_)
    unfold walk_walker_tree_o0_2_l0 at h1
    refine kr [0, 1, 16, 17, 18, 19] (by simp; rfl) ?_
    refine tr_seq ?_
    refine tr_cond (b := (decide (s2.1 < ((((mget inE a0.objects a2).getD (⟨0, 0, [], [], 0, [], ByteArray.empty, 0⟩ : api_Object)).Items).length : Int)))) (by simp) (fun c9 => ?_) (fun c9 => ?_)
    · rw [if_pos c9] at h1
      refine tr_skip ?_
      refine tr_seq ?_
      refine tr_block ?_
      replace h1 := bnd h1; obtain ⟨x3, p13, h1⟩ := h1
      replace p13 := idx_some p13
      have p13' := p13; try simp at p13'
      refine kr [0, 1, 8, 16, 17, 18] (by simp [p13, p13']; rfl) ?_
      replace h1 := bnd h1; obtain ⟨_, p14, h1⟩ := h1
      replace p14 := ck_some p14
      have p14' := p14; try simp at p14'
      refine kr [0, 1, 8, 9, 16, 17, 18] (by simp [p14, p14']; rfl) ?_
      refine tr_seq ?_
      refine kd [[], [0], [1], [2], [], [4], [3, 5], [6], [7]] [] [] none [] 9 fol (by decide +kernel) (by simp) ?_
      refine dr_go 0 2 rfl (by simp (maxSteps := 1000000); rfl) ?_
      refine dr_go 2 2 rfl (by simp (maxSteps := 1000000); rfl) ?_
      refine dr_go 4 2 rfl (by simp (maxSteps := 1000000); rfl) ?_
      refine dr_go 6 2 rfl (by simp (maxSteps := 1000000); rfl) ?_
      refine dr_go 8 1 rfl (by simp (maxSteps := 1000000); rfl) ?_
      refine dr_end rfl (tops_nil ?_)
      refine tr_cond (b := ((((mget inE s2.2.1 x3.ID).getD (⟨0, 0, [], [], 0, [], ByteArray.empty, 0⟩ : api_Object)).Kind) == 2)) (by simp) (fun c10 => ?_) (fun c10 => ?_)
      · rw [if_pos c10] at h1
        refine tr_seq ?_
        refine kc ?_
        replace h1 := bnd h1; obtain ⟨_, p15, h1⟩ := h1
        replace p15 := ck_some p15
        have p15' := p15; try simp at p15'
        refine ko [0, 1, 16, 17, 18, 35, 37, 39] 5 (by simp [p15, p15']; rfl) ?_
        replace h1 := bnd h1; obtain ⟨y4, hy4, h1⟩ := h1
        refine kcallV [0, 1, 16, 17, 18, 40] [1000000] [2000000] [2000000] (f0_ok hy4) rfl rfl rfl Tryd.call33 (by simp) (by simp; rfl) ?_
        refine ko [0, 1, 16, 17, 18, 41] 1 (by simp; rfl) ?_
        refine tops_nil ?_
        refine tr_cond (b := (!y4.1)) (by simp) (fun c11 => ?_) (fun c11 => ?_)
        · rw [if_pos c11] at h1
          refine kr [6] (by simp; rfl) ?_
          have k1 := he1 _ (Option.some.inj h1)
          subst k1
          dsimp only at h0
          cases h0
          exact tr_ret ⟨[], [2000000], by simp, by simp, by simp, by simp, by simp⟩
        · rw [if_neg (by rw [c11]; decide)] at h1
          refine tr_skip ?_
          refine tr_exit ?_
          refine lr (by simp; rfl) ?_
          exact ⟨_, hg1 _ (Option.some.inj h1), wk (by simp [weak_iff])⟩
      · rw [if_neg (by rw [c10]; decide)] at h1
        refine tr_skip ?_
        refine tr_seq ?_
        refine kr [0, 1, 8, 9, 16, 17, 18] (by simp; rfl) ?_
        refine kr [0, 1, 8, 9, 16, 17, 18, 53] (by simp; rfl) ?_
        refine tr_cond (b := (decide ((IntKind.i64.wrap (s2.2.2.1 - 1)) < 0))) (by simp) (fun c12 => ?_) (fun c12 => ?_)
        · rw [if_pos c12] at h1
          refine kr [6] (by simp; rfl) ?_
          have k1 := he1 _ (Option.some.inj h1)
          subst k1
          dsimp only at h0
          cases h0
          exact tr_ret ⟨[], [2000000], by simp, by simp, by simp, by simp, by simp⟩
        · rw [if_neg (by rw [c12]; decide)] at h1
          refine tr_skip ?_
          refine kd1 [[], [], [1], [2], [3], [], [], [6], [5, 7], [8], [4, 9], [0, 10], [10, 11], [4, 10, 12]] [10, 13] [(1000000, [10, 13])] (some (10, 2000000)) [58] 14 fol (by decide +kernel) (by simp) ?_
          replace h1 := bnd h1; obtain ⟨_, p18, h1⟩ := h1
          replace p18 := ck_some p18
          have p18' := p18; try simp at p18'
          refine dr_go 0 2 rfl (by simp (maxSteps := 1000000) [p18, p18']; rfl) ?_
          refine dr_go 2 2 rfl (by simp (maxSteps := 1000000) [p18, p18']; rfl) ?_
          refine dr_go 4 2 rfl (by simp (maxSteps := 1000000) [p18, p18']; rfl) ?_
          refine dr_go 6 2 rfl (by simp (maxSteps := 1000000) [p18, p18']; rfl) ?_
          refine dr_go 8 2 rfl (by simp (maxSteps := 1000000) [p18, p18']; rfl) ?_
          refine dr_go 10 2 rfl (by simp (maxSteps := 1000000) [p18, p18']; rfl) ?_
          refine dr_go 12 2 rfl (by simp (maxSteps := 1000000) [p18, p18']; rfl) ?_
          refine dr_end rfl (tops_nil ?_)
          refine lr (by simp; rfl) ?_
          exact ⟨_, hg1 _ (Option.some.inj h1), Wk.trans (wk_ren 64 2000000) (wk (by simp [weak_iff]))⟩
    · rw [if_neg (by rw [c9]; decide)] at h1
      refine tr_exit ?_
      exact ⟨_, he1 _ (Option.some.inj h1), wk (by simp [weak_iff])⟩
set_option maxHeartbeats 1000000 in
theorem walk_walker_tree_o0_2N_ok (n : Nat) : ∀ {a0 : walk_walker} {a1 : ByteArray} {a2 : Int} {r : Bool × walk_walker}, walk_walker_tree_o0_2N n a0 a1 a2 = some r → FnOKv Tryd.prog 33 [[.d (.mp (mTag 45 1 false true) 9 (rowsF (mRow (iRow .i64) api_Object_row) a0.objects)), .d (.int .i64 a0.left), .vec (InV 0)]] [⟨28, 2, rowsF api_Item_row a0.out⟩] [.ptr (InO 0) 0, .d (.str a1), .d (.int .i64 a2)] (.d (.bool r.1)) [[.d (.mp (mTag 45 1 false true) 9 (rowsF (mRow (iRow .i64) api_Object_row) r.2.objects)), .d (.int .i64 r.2.left), .vec (InV 0)]] [⟨28, 2, rowsF api_Item_row r.2.out⟩] := by
  induction n with
  | zero => intro _ _ _ _ h; cases h
  | succ n ih => intro _ _ _ _ h; exact walk_walker_tree_o0_2R_ok ih h
set_option maxHeartbeats 1000000 in
theorem walk_walker_tree_o0_2_ok {a0 : walk_walker} {a1 : ByteArray} {a2 : Int} {r : Bool × walk_walker} (h0 : walk_walker_tree_o0_2 a0 a1 a2 = some r) : FnOKv Tryd.prog 33 [[.d (.mp (mTag 45 1 false true) 9 (rowsF (mRow (iRow .i64) api_Object_row) a0.objects)), .d (.int .i64 a0.left), .vec (InV 0)]] [⟨28, 2, rowsF api_Item_row a0.out⟩] [.ptr (InO 0) 0, .d (.str a1), .d (.int .i64 a2)] (.d (.bool r.1)) [[.d (.mp (mTag 45 1 false true) 9 (rowsF (mRow (iRow .i64) api_Object_row) r.2.objects)), .d (.int .i64 r.2.left), .vec (InV 0)]] [⟨28, 2, rowsF api_Item_row r.2.out⟩] := by
  unfold walk_walker_tree_o0_2 at h0
  split at h0
  · exact walk_walker_tree_o0_2N_ok _ h0
  · cases h0
set_option maxHeartbeats 1000000 in
theorem walk_paths_ok {a0 : List (Int × api_Object)} {a1 : Int} {a2 : Int} {r : (List api_Item) × Bool} (h0 : walk_paths a0 a1 a2 = some r) : FnOK Tryd.prog 10 [] [.d (.mp (mTag 45 1 false true) 9 (rowsF (mRow (iRow .i64) api_Object_row) a0)), .d (.int .i64 a1), .d (.int .i64 a2)] (.tup [.d (.slice (rowsF api_Item_row r.1)), .d (.bool r.2)]) [] := by
  unfold walk_paths at h0
  refine fn_ok (nt := 32) (rs := [.tmp 6, .tmp 7]) Tryd.func10 rfl Tryd.ntmps10 rfl (by simp) (by decide) rfl fun K => ?_
  refine kr [0, 1, 2] (by simp; rfl) ?_
  refine kr [0, 1, 8] (by simp; rfl) ?_
  refine tr_seq ?_
  refine tr_wk (wk_ownbox 12 2 400482 28 2 (by simp; rfl) (by simp) (by simp)) ?_
  refine kd [[], [], [1], [1, 2], [], [], [4, 5], [4, 5, 6], [0, 1, 2, 3, 4, 5, 6, 7], [0, 1, 2, 3, 4, 5, 6, 7]] [] [] none [] 8 fol (by decide +kernel) (by simp) ?_
  refine dr_go 0 2 rfl (by simp (maxSteps := 1000000); rfl) ?_
  replace h0 := bnd h0; obtain ⟨y1, hy1, h0⟩ := h0
  refine dr_call 2 [] (strconv_Itoa_ok hy1) rfl rfl rfl rfl rfl Tryd.call34 (by simp) ?_
  replace h0 := bnd h0; obtain ⟨_, p4, h0⟩ := h0
  replace p4 := ck_some p4
  have p4' := p4; try simp at p4'
  refine dr_go 3 2 rfl (by simp (maxSteps := 1000000) [p4, p4']; rfl) ?_
  refine dr_go 5 2 rfl (by simp (maxSteps := 1000000) [p4, p4']; rfl) ?_
  refine dr_go 7 1 rfl (by simp (maxSteps := 1000000) [p4, p4']; rfl) ?_
  refine dr_end rfl ?_
  replace h0 := bnd h0; obtain ⟨y2, hy2, h0⟩ := h0
  refine kcallV [8, 21] [12] [400482] [400482] (walk_walker_tree_o0_2_ok hy2) rfl rfl rfl Tryd.call33 (by simp) (by simp; rfl) ?_
  refine ko [8, 22] 1 (by simp; rfl) ?_
  refine tops_nil ?_
  refine tr_cond (b := (!y2.1)) (by simp) (fun c1 => ?_) (fun c1 => ?_)
  · rw [if_pos c1] at h0
    refine kr [6, 7] (by simp; rfl) ?_
    cases h0
    exact tr_ret ⟨[], by simp, rfl, by simp⟩
  · rw [if_neg (by rw [c1]; decide)] at h0
    refine tr_skip ?_
    refine kc ?_
    refine ko [8, 26] 4 (by simp; rfl) ?_
    replace h0 := bnd h0; obtain ⟨y3, hy3, h0⟩ := h0
    refine kcallB [8] [] [400482] [(26, 400482)] [(12, 2, 400482)] (slices_SortFunc_api_Item_vec0_at_walk_paths_1_ok hy3) rfl rfl rfl Tryd.call35 (by simp) (by simp) (by simp; rfl) ?_
    refine tops_nil ?_
    refine kr [6, 7] (by simp; rfl) ?_
    cases h0
    exact tr_ret ⟨[400482], by simp, rfl, by simp⟩
set_option maxHeartbeats 1000000 in
theorem walk_Paths_ok {a0 : api_Repository} {a1 : Int} {r : (List api_Item) × Int} (h0 : walk_Paths a0 a1 = some r) : FnOK Tryd.prog 5 [] [.agg (api_Repository_av a0), .d (.int .i64 a1)] (.tup [.d (.slice (rowsF api_Item_row r.1)), .d (.int .i64 r.2)]) [] := by
  unfold walk_Paths at h0
  refine fn_ok (nt := 31) (rs := [.tmp 4, .tmp 5]) Tryd.func5 rfl Tryd.ntmps5 rfl (by simp) (by decide) rfl fun K => ?_
  refine kr [1, 2] (by simp; rfl) ?_
  refine tr_seq ?_
  refine kc ?_
  refine ko [1, 2, 10] 1 (by simp; rfl) ?_
  replace h0 := bnd h0; obtain ⟨y1, hy1, h0⟩ := h0
  refine kcall [1, 2, 11] [] (history_Valid_ok hy1) rfl rfl rfl Tryd.call8 (by simp) (by simp; rfl) ?_
  refine ko [1, 2, 6] 1 (by simp; rfl) ?_
  refine tops_nil ?_
  refine kr [1, 2, 6, 13] (by simp; rfl) ?_
  refine tr_cond (b := (y1 != 0)) (by simp) (fun c1 => ?_) (fun c1 => ?_)
  · rw [if_pos c1] at h0
    refine kr [4, 5] (by simp; rfl) ?_
    cases h0
    exact tr_ret ⟨[], by simp, rfl, by simp⟩
  · rw [if_neg (by rw [c1]; decide)] at h0
    refine tr_skip ?_
    refine kc ?_
    refine ko [1, 15] 1 (by simp; rfl) ?_
    replace h0 := bnd h0; obtain ⟨y2, hy2, h0⟩ := h0
    refine kcall [1, 16] [] (walk_index_ok hy2) rfl rfl rfl Tryd.call9 (by simp) (by simp; rfl) ?_
    refine ko [1, 7] 1 (by simp; rfl) ?_
    refine tops_nil ?_
    refine tr_seq ?_
    refine kr [1, 7, 21] (by simp; rfl) ?_
    refine tr_cond (b := ((((mget inE y2 a1).getD (⟨0, 0, [], [], 0, [], ByteArray.empty, 0⟩ : api_Object)).Kind) != 3)) (by simp) (fun c2 => ?_) (fun c2 => ?_)
    · rw [if_pos c2] at h0
      refine kr [4, 5] (by simp; rfl) ?_
      cases h0
      exact tr_ret ⟨[], by simp, rfl, by simp⟩
    · rw [if_neg (by rw [c2]; decide)] at h0
      refine tr_skip ?_
      refine kc ?_
      refine ko [23, 24] 2 (by simp; rfl) ?_
      replace h0 := bnd h0; obtain ⟨y3, hy3, h0⟩ := h0
      refine kcall [25] [] (walk_paths_ok hy3) rfl rfl rfl Tryd.call10 (by simp) (by simp; rfl) ?_
      refine ko [8, 9] 5 (by simp; rfl) ?_
      refine tops_nil ?_
      refine tr_seq ?_
      refine kr [8, 29] (by simp; rfl) ?_
      refine tr_cond (b := (!y3.2)) (by simp) (fun c3 => ?_) (fun c3 => ?_)
      · rw [if_pos c3] at h0
        refine kr [4, 5] (by simp; rfl) ?_
        cases h0
        exact tr_ret ⟨[], by simp, rfl, by simp⟩
      · rw [if_neg (by rw [c3]; decide)] at h0
        refine tr_skip ?_
        refine kr [4, 5] (by simp; rfl) ?_
        cases h0
        exact tr_ret ⟨[], by simp, rfl, by simp⟩
set_option maxHeartbeats 1000000 in
theorem law16_awake_ok  {r : Bool} (h0 : law16_awake = some r) : FnOK Tryd.prog 6 [] [] (.d (.bool r)) [] := by
  unfold law16_awake at h0
  refine fn_ok (nt := 33) (rs := [.tmp 0]) Tryd.func6 rfl Tryd.ntmps6 rfl (by simp) (by decide) rfl fun K => ?_
  refine kr [] (by simp; rfl) ?_
  refine kc ?_
  refine ko [4, 7, 10, 11] 8 (by simp; rfl) ?_
  refine tops_frz 6 ?_
  refine tops_frz 9 ?_
  refine ko [1] 4 (by simp; rfl) ?_
  refine tops_nil ?_
  refine kc ?_
  refine ko [15] 1 (by simp; rfl) ?_
  refine tops_wk (wk_frz 12) ?_
  replace h0 := bnd h0; obtain ⟨y1, hy1, h0⟩ := h0
  refine kcall [16] [] (walk_Paths_ok hy1) rfl rfl rfl Tryd.call5 (by simp) (by simp; rfl) ?_
  refine ko [2, 3] 5 (by simp; rfl) ?_
  refine tops_nil ?_
  replace h0 := bnd h0; obtain ⟨v2, hvv2, h0⟩ := h0
  refine sjv (fun v2_ : Bool => ({ nt := 33, env := [(0, .d (.bool v2_))], box := [], vec := [] } : St)) (fun v2_ => v2 = v2_) (fun v2_ e => ?_) ?_
  · subst e
    cases h0
    exact tr_ret ⟨[], by simp, rfl, by simp⟩
  · refine kc1 ?_
    refine ko [2, 21] 3 (by simp; rfl) ?_
    refine tops_split 21 (y1.2 == 0) (by simp) (fun c5 => ?_) (fun c5 => ?_)
    · rw [if_pos c5] at hvv2
      refine ko [2, 26] 5 (by simp; rfl) ?_
      refine tops_split 26 (((y1.1).length : Int) == 1) (by simp) (fun c6 => ?_) (fun c6 => ?_)
      · rw [if_pos c6] at hvv2
        replace hvv2 := bnd hvv2; obtain ⟨x3, p3, hvv2⟩ := hvv2
        replace p3 := idx_some p3
        have p3' := p3; try simp at p3'
        refine ko [0] 7 (by simp [p3, p3']; rfl) ?_
        refine tops_nil ?_
        cases hvv2
        exact ⟨_, rfl, wk (by simp [weak_iff])⟩
      · rw [if_neg (by rw [c6]; decide)] at hvv2
        refine kskip 5 [] (by kernel_rfl) ?_
        refine ko [0] 2 (by simp; rfl) ?_
        refine tops_nil ?_
        cases hvv2
        exact ⟨_, rfl, wk (by simp [weak_iff])⟩
    · rw [if_neg (by rw [c5]; decide)] at hvv2
      refine kskip 3 [] (by kernel_rfl) ?_
      refine ko [2, 26] 2 (by simp; rfl) ?_
      refine kskip 5 [] (by kernel_rfl) ?_
      refine ko [0] 2 (by simp; rfl) ?_
      refine tops_nil ?_
      cases hvv2
      exact ⟨_, rfl, wk (by simp [weak_iff])⟩
set_option maxHeartbeats 1000000 in
theorem law16_WalkMany_ok {a0 : Int} {r : Bool} (h0 : law16_WalkMany a0 = some r) : FnOK Tryd.prog 3 [] [.d (.int .i64 a0)] (.d (.bool r)) [] := by
  unfold law16_WalkMany at h0
  refine fn_ok (nt := 78) (rs := [.tmp 2]) Tryd.func3 rfl Tryd.ntmps3 rfl (by simp) (by decide) rfl fun K => ?_
  refine kr [0] (by simp; rfl) ?_
  refine kr [3] (by simp; rfl) ?_
  refine kc ?_
  refine ko [3, 12, 15] 4 (by simp; rfl) ?_
  refine tops_frz 14 ?_
  refine ko [3, 4] 4 (by simp; rfl) ?_
  refine tops_nil ?_
  refine tr_seq ?_
  refine kr [3, 4, 5] (by simp; rfl) ?_
  replace h0 := bnd h0; obtain ⟨l1, hl1, h0⟩ := h0
  replace hl1 := Option.some.inj hl1
  replace h0 := bnd h0; obtain ⟨e1, hI1, h0⟩ := h0
  refine tjv (fun v2 : (List api_Object) => ({ nt := 78, env := [(3, .d (.int .i64 (IntKind.i64.wrap (1 + (((bAnd .i64 a0 255)).tmod 12))))), (4, .ptr 4 0)], box := [(4, [.vec 16, .nilS])], vec := [(16, ⟨26, 8, rowsF api_Object_row v2⟩)] } : St)) (fun v2 => v2 = e1) (fun v2 hI1e _ W1 => ?_) ?_
  · subst hI1e
    refine tr_wk W1 ?_
    replace h0 := bnd h0; obtain ⟨_, p4, h0⟩ := h0
    replace p4 := ck_some p4
    have p4' := p4; try simp at p4'
    refine kr [3, 4] (by simp [p4, p4']; rfl) ?_
    refine kc ?_
    refine ko [3, 47] 1 (by simp; rfl) ?_
    refine tops_wk (wk_frz 44) ?_
    replace h0 := bnd h0; obtain ⟨y3, hy3, h0⟩ := h0
    refine kcall [3, 48] [] (walk_Paths_ok hy3) rfl rfl rfl Tryd.call5 (by simp) (by simp; rfl) ?_
    refine ko [3, 6, 7] 5 (by simp; rfl) ?_
    refine tops_nil ?_
    refine tr_seq ?_
    replace h0 := bnd h0; obtain ⟨_, p5, h0⟩ := h0
    replace p5 := ck_some p5
    have p5' := p5; try simp at p5'
    refine kr [3, 6, 7, 54] (by simp [p5, p5']; rfl) ?_
    refine tr_cond (b := (decide (2000 < (IntKind.i64.wrap (1 * 2 ^ (min (Int.toNat (IntKind.u64.wrap (IntKind.i64.wrap (1 + (((bAnd .i64 a0 255)).tmod 12))))) IntKind.i64.bits)))))) (by simp) (fun c3 => ?_) (fun c3 => ?_)
    · rw [if_pos c3] at h0
      replace h0 := bnd h0; obtain ⟨v4, hvv4, h0⟩ := h0
      refine sjv (fun v4_ : Bool => ({ nt := 78, env := [(2, .d (.bool v4_))], box := [], vec := [] } : St)) (fun v4_ => v4 = v4_) (fun v4_ e => ?_) ?_
      · subst e
        cases h0
        exact tr_ret ⟨[], by simp, rfl, by simp⟩
      · refine kc1 ?_
        refine ko [6, 57] 3 (by simp; rfl) ?_
        refine tops_split 57 (y3.2 == 3) (by simp) (fun c8 => ?_) (fun c8 => ?_)
        · rw [if_pos c8] at hvv4
          refine ko [62] 5 (by simp; rfl) ?_
          refine tops_split 62 (((y3.1).length : Int) == 0) (by simp) (fun c9 => ?_) (fun c9 => ?_)
          · rw [if_pos c9] at hvv4
            replace hvv4 := bnd hvv4; obtain ⟨y5, hy5, hvv4⟩ := hvv4
            refine kcall [62, 63] [] (law16_awake_ok hy5) rfl rfl rfl Tryd.call6 (by simp) (by simp; rfl) ?_
            refine ko [2] 2 (by simp; rfl) ?_
            refine tops_nil ?_
            cases hvv4
            exact ⟨_, rfl, wk (by simp [weak_iff])⟩
          · rw [if_neg (by rw [c9]; decide)] at hvv4
            refine ko [2] 3 (by simp; rfl) ?_
            refine tops_nil ?_
            cases hvv4
            exact ⟨_, rfl, wk (by simp [weak_iff])⟩
        · rw [if_neg (by rw [c8]; decide)] at hvv4
          refine kskip 3 [] (by kernel_rfl) ?_
          refine ko [2] 5 (by simp; rfl) ?_
          refine tops_nil ?_
          cases hvv4
          exact ⟨_, rfl, wk (by simp [weak_iff])⟩
    · rw [if_neg (by rw [c3]; decide)] at h0
      refine tr_skip ?_
      replace h0 := bnd h0; obtain ⟨v6, hvv6, h0⟩ := h0
      refine sjv (fun v6_ : Bool => ({ nt := 78, env := [(2, .d (.bool v6_))], box := [], vec := [] } : St)) (fun v6_ => v6 = v6_) (fun v6_ e => ?_) ?_
      · subst e
        cases h0
        exact tr_ret ⟨[], by simp, rfl, by simp⟩
      · refine kc1 ?_
        refine ko [3, 6, 67] 3 (by simp; rfl) ?_
        refine tops_split 67 (y3.2 == 0) (by simp) (fun c14 => ?_) (fun c14 => ?_)
        · rw [if_pos c14] at hvv6
          replace hvv6 := bnd hvv6; obtain ⟨_, p8, hvv6⟩ := hvv6
          replace p8 := ck_some p8
          have p8' := p8; try simp at p8'
          refine ko [75] 8 (by simp [p8, p8']; rfl) ?_
          refine tops_split 75 (((y3.1).length : Int) == (IntKind.i64.wrap (1 * 2 ^ (min (Int.toNat (IntKind.u64.wrap (IntKind.i64.wrap (1 + (((bAnd .i64 a0 255)).tmod 12))))) IntKind.i64.bits)))) (by simp) (fun c15 => ?_) (fun c15 => ?_)
          · rw [if_pos c15] at hvv6
            replace hvv6 := bnd hvv6; obtain ⟨y7, hy7, hvv6⟩ := hvv6
            refine kcall [75, 76] [] (law16_awake_ok hy7) rfl rfl rfl Tryd.call6 (by simp) (by simp; rfl) ?_
            refine ko [2] 2 (by simp; rfl) ?_
            refine tops_nil ?_
            cases hvv6
            exact ⟨_, rfl, wk (by simp [weak_iff])⟩
          · rw [if_neg (by rw [c15]; decide)] at hvv6
            refine ko [2] 3 (by simp; rfl) ?_
            refine tops_nil ?_
            cases hvv6
            exact ⟨_, rfl, wk (by simp [weak_iff])⟩
        · rw [if_neg (by rw [c14]; decide)] at hvv6
          refine kskip 6 [] (by kernel_rfl) ?_
          refine ko [2] 5 (by simp; rfl) ?_
          refine tops_nil ?_
          cases hvv6
          exact ⟨_, rfl, wk (by simp [weak_iff])⟩
  · refine tr_block (tr_iter (fun s8 : Int × (List api_Object) => ({ nt := 78, env := [(3, .d (.int .i64 (IntKind.i64.wrap (1 + (((bAnd .i64 a0 255)).tmod 12))))), (4, .ptr 4 0), (5, .d (.int .i64 s8.1))], box := [(4, [.vec 16, .nilS])], vec := [(16, ⟨26, 8, rowsF api_Object_row s8.2⟩)] } : St)) hI1 (wk (by subst hl1; simp [weak_iff])) fun G1 s8 o1 h1 hg1 he1 => ?_)
    unfold law16_WalkMany_l0 at h1
    refine tr_seq ?_
    refine kr [3, 4, 5, 20] (by simp; rfl) ?_
    refine tr_cond (b := (decide (s8.1 < (IntKind.i64.wrap (1 + (((bAnd .i64 a0 255)).tmod 12)))))) (by simp) (fun c16 => ?_) (fun c16 => ?_)
    · rw [if_pos c16] at h1
      refine tr_skip ?_
      refine tr_seq ?_
      refine tr_block ?_
      refine kc1 ?_
      refine ko [3, 4, 5, 24, 34] 12 (by simp; rfl) ?_
      refine tops_frz 33 ?_
      replace h1 := bnd h1; obtain ⟨_, p9, h1⟩ := h1
      replace p9 := ck_some p9
      have p9' := p9; try simp at p9'
      refine ko [3, 4, 5] 4 (by simp [p9, p9']; rfl) ?_
      refine tops_nil ?_
      refine lr (by simp; rfl) ?_
      exact ⟨_, hg1 _ (Option.some.inj h1), Wk.trans (wk_ren 36 16) (wk (by simp [weak_iff]))⟩
    · rw [if_neg (by rw [c16]; decide)] at h1
      refine tr_exit ?_
      exact ⟨_, he1 _ (Option.some.inj h1), wk (by simp [weak_iff])⟩
set_option maxHeartbeats 1000000 in
theorem law16_WalkShared_ok {a0 : List Int} {r : Bool} (h0 : law16_WalkShared a0 = some r) : FnOK Tryd.prog 4 [] [.d (.slice (rowsF (iRow .i64) a0))] (.d (.bool r)) [] := by
  unfold law16_WalkShared at h0
  refine fn_okK (nt := 128) (rs := [.tmp 2]) Tryd.func4 rfl Tryd.ntmps4 rfl (by simp) (by decide) rfl fun K hK => ?_
  refine kr [0] (by simp; rfl) ?_
  refine kr [3] (by simp; rfl) ?_
  refine kc ?_
  refine ko [18] 1 (by simp; rfl) ?_
  replace h0 := bnd h0; obtain ⟨y1, hy1, h0⟩ := h0
  refine kcall [19] [17] (make_Repository_ok hy1) rfl rfl rfl Tryd.call7 (by simp) (by simp; rfl) ?_
  refine ko [4] 2 (by simp; rfl) ?_
  refine tops_nil ?_
  refine kr [4, 5] (by simp; rfl) ?_
  refine tr_seq ?_
  refine kr [4, 5, 6] (by simp; rfl) ?_
  replace h0 := bnd h0; obtain ⟨e1, hI1, h0⟩ := h0
  refine tjv (fun v2 : Int × Int × (List Int) × (List api_Item) × Int × (List Int) × ByteArray × Int => ({ nt := 128, env := [(4, .ptr 4 0), (5, .ptr 5 0)], box := [(4, [.d (.slice (rowsF api_Object_row y1.1.Objects)), .d (.slice (rowsF api_RefEvent_row y1.1.Events))]), (5, [.d (.int .i64 v2.1), .d (.int .i64 v2.2.1), .d (.slice (rowsF (iRow .u8) v2.2.2.1)), .d (.slice (rowsF api_Item_row v2.2.2.2.1)), .d (.int .i64 v2.2.2.2.2.1), .d (.slice (rowsF (iRow .i64) v2.2.2.2.2.2.1)), .d (.str v2.2.2.2.2.2.2.1), .d (.int .i64 v2.2.2.2.2.2.2.2)])], vec := [] } : St)) (fun v2 => v2 = e1) (fun v2 hI1e _ W1 => ?_) ?_
  · subst hI1e
    refine tr_wk W1 ?_
    refine kr [4, 5, 7] (by simp; rfl) ?_
    refine kr [4, 5, 7] (by simp; rfl) ?_
    replace h0 := bnd h0; obtain ⟨_, p3, h0⟩ := h0
    replace p3 := ck_some p3
    have p3' := p3; try simp at p3'
    replace h0 := bnd h0; obtain ⟨_, p4, h0⟩ := h0
    replace p4 := ck_some p4
    have p4' := p4; try simp at p4'
    refine kheld (S0 := ({ nt := 128, env := [(4, .ptr 4 0), (5, .ptr 5 0)], box := [(4, [.vec 47, .d (.slice (rowsF api_RefEvent_row y1.1.Events))]), (5, [.d (.int .i64 v2.1), .d (.int .i64 v2.2.1), .d (.slice (rowsF (iRow .u8) v2.2.2.1)), .d (.slice (rowsF api_Item_row v2.2.2.2.1)), .d (.int .i64 v2.2.2.2.2.1), .d (.slice (rowsF (iRow .i64) v2.2.2.2.2.2.1)), .d (.str v2.2.2.2.2.2.2.1), .d (.int .i64 v2.2.2.2.2.2.2.2)])], vec := [(47, ⟨26, 8, rowsF api_Object_row ((([] : List api_Object) ++ y1.1.Objects) ++ [(⟨100, v2.2.1, v2.2.2.1, v2.2.2.2.1, v2.2.2.2.2.1, v2.2.2.2.2.2.1, v2.2.2.2.2.2.2.1, v2.2.2.2.2.2.2.2⟩ : api_Object)])⟩)] } : St)) [1] 8 (by simpa using hK) fol (by decide +kernel) rfl rfl rfl (by simp [stillsL, stillB, pureP, pureB, p3, p4, p3', p4']; rfl) (fun K' S F C => ?_) ?_
    ·
      refine ho_all C [0, 2, 4] (by decide +kernel) (by decide) ?_
      refine hall_cons rfl (by simp [p3, p4, p3', p4']; rfl) ?_ ?_
      ·
        refine ho_all C [2, 4] (by decide +kernel) (by decide) ?_
        refine hall_cons rfl (by simp [p3, p4, p3', p4']; rfl) ?_ ?_
        ·
          refine ho_all C [3, 4] (by decide +kernel) (by decide) ?_
          refine hall_cons rfl (by simp [p3, p4, p3', p4']; rfl) ?_ ?_
          ·
            refine ho_all C [4] (by decide +kernel) (by decide) ?_
            refine hall_cons rfl (by simp [p3, p4, p3', p4']; rfl) ?_ ?_
            ·
              refine ho_all C [5] (by decide +kernel) (by decide) ?_
              refine hall_cons rfl (by simp [p3, p4, p3', p4']; rfl) ?_ ?_
              ·
                refine ho_all C [6] (by decide +kernel) (by decide) ?_
                refine hall_cons rfl (by simp [p3, p4, p3', p4']; rfl) ?_ ?_
                ·
                  refine ho_pure C 7 rfl (by decide +kernel) (by decide +kernel) (by simp [pureP, pureB]) (by simp [p3, p4, p3', p4']; rfl) ?_
                  refine ho_all C [8] (by decide +kernel) (by decide) ?_
                  refine hall_cons rfl (by simp [p3, p4, p3', p4']; rfl) ?_ ?_
                  ·
                    exact ho_end C (by decide +kernel) ⟨rfl, weak_iff.2 (by simp)⟩
                  exact trivial
                exact trivial
              exact trivial
            exact trivial
          refine hall_cons rfl (by simp [p3, p4, p3', p4']; rfl) ?_ ?_
          ·
            refine ho_all C [3, 5] (by decide +kernel) (by decide) ?_
            refine hall_cons rfl (by simp [p3, p4, p3', p4']; rfl) ?_ ?_
            ·
              refine ho_all C [5] (by decide +kernel) (by decide) ?_
              refine hall_cons rfl (by simp [p3, p4, p3', p4']; rfl) ?_ ?_
              ·
                refine ho_all C [6] (by decide +kernel) (by decide) ?_
                refine hall_cons rfl (by simp [p3, p4, p3', p4']; rfl) ?_ ?_
                ·
                  refine ho_pure C 7 rfl (by decide +kernel) (by decide +kernel) (by simp [pureP, pureB]) (by simp [p3, p4, p3', p4']; rfl) ?_
                  refine ho_all C [8] (by decide +kernel) (by decide) ?_
                  refine hall_cons rfl (by simp [p3, p4, p3', p4']; rfl) ?_ ?_
                  ·
                    exact ho_end C (by decide +kernel) ⟨rfl, weak_iff.2 (by simp)⟩
                  exact trivial
                exact trivial
              exact trivial
            refine hall_cons rfl (by simp [p3, p4, p3', p4']; rfl) ?_ ?_
            ·
              refine ho_all C [3] (by decide +kernel) (by decide) ?_
              refine hall_cons rfl (by simp [p3, p4, p3', p4']; rfl) ?_ ?_
              ·
                refine ho_all C [6] (by decide +kernel) (by decide) ?_
                refine hall_cons rfl (by simp [p3, p4, p3', p4']; rfl) ?_ ?_
                ·
                  refine ho_pure C 7 rfl (by decide +kernel) (by decide +kernel) (by simp [pureP, pureB]) (by simp [p3, p4, p3', p4']; rfl) ?_
                  refine ho_all C [8] (by decide +kernel) (by decide) ?_
                  refine hall_cons rfl (by simp [p3, p4, p3', p4']; rfl) ?_ ?_
                  ·
                    exact ho_end C (by decide +kernel) ⟨rfl, weak_iff.2 (by simp)⟩
                  exact trivial
                exact trivial
              exact trivial
            exact trivial
          exact trivial
        refine hall_cons rfl (by simp [p3, p4, p3', p4']; rfl) ?_ ?_
        ·
          refine ho_all C [2, 5] (by decide +kernel) (by decide) ?_
          refine hall_cons rfl (by simp [p3, p4, p3', p4']; rfl) ?_ ?_
          ·
            refine ho_all C [3, 5] (by decide +kernel) (by decide) ?_
            refine hall_cons rfl (by simp [p3, p4, p3', p4']; rfl) ?_ ?_
            ·
              refine ho_all C [5] (by decide +kernel) (by decide) ?_
              refine hall_cons rfl (by simp [p3, p4, p3', p4']; rfl) ?_ ?_
              ·
                refine ho_all C [6] (by decide +kernel) (by decide) ?_
                refine hall_cons rfl (by simp [p3, p4, p3', p4']; rfl) ?_ ?_
                ·
                  refine ho_pure C 7 rfl (by decide +kernel) (by decide +kernel) (by simp [pureP, pureB]) (by simp [p3, p4, p3', p4']; rfl) ?_
                  refine ho_all C [8] (by decide +kernel) (by decide) ?_
                  refine hall_cons rfl (by simp [p3, p4, p3', p4']; rfl) ?_ ?_
                  ·
                    exact ho_end C (by decide +kernel) ⟨rfl, weak_iff.2 (by simp)⟩
                  exact trivial
                exact trivial
              exact trivial
            refine hall_cons rfl (by simp [p3, p4, p3', p4']; rfl) ?_ ?_
            ·
              refine ho_all C [3] (by decide +kernel) (by decide) ?_
              refine hall_cons rfl (by simp [p3, p4, p3', p4']; rfl) ?_ ?_
              ·
                refine ho_all C [6] (by decide +kernel) (by decide) ?_
                refine hall_cons rfl (by simp [p3, p4, p3', p4']; rfl) ?_ ?_
                ·
                  refine ho_pure C 7 rfl (by decide +kernel) (by decide +kernel) (by simp [pureP, pureB]) (by simp [p3, p4, p3', p4']; rfl) ?_
                  refine ho_all C [8] (by decide +kernel) (by decide) ?_
                  refine hall_cons rfl (by simp [p3, p4, p3', p4']; rfl) ?_ ?_
                  ·
                    exact ho_end C (by decide +kernel) ⟨rfl, weak_iff.2 (by simp)⟩
                  exact trivial
                exact trivial
              exact trivial
            exact trivial
          refine hall_cons rfl (by simp [p3, p4, p3', p4']; rfl) ?_ ?_
          ·
            refine ho_all C [2] (by decide +kernel) (by decide) ?_
            refine hall_cons rfl (by simp [p3, p4, p3', p4']; rfl) ?_ ?_
            ·
              refine ho_all C [3] (by decide +kernel) (by decide) ?_
              refine hall_cons rfl (by simp [p3, p4, p3', p4']; rfl) ?_ ?_
              ·
                refine ho_all C [6] (by decide +kernel) (by decide) ?_
                refine hall_cons rfl (by simp [p3, p4, p3', p4']; rfl) ?_ ?_
                ·
                  refine ho_pure C 7 rfl (by decide +kernel) (by decide +kernel) (by simp [pureP, pureB]) (by simp [p3, p4, p3', p4']; rfl) ?_
                  refine ho_all C [8] (by decide +kernel) (by decide) ?_
                  refine hall_cons rfl (by simp [p3, p4, p3', p4']; rfl) ?_ ?_
                  ·
                    exact ho_end C (by decide +kernel) ⟨rfl, weak_iff.2 (by simp)⟩
                  exact trivial
                exact trivial
              exact trivial
            exact trivial
          exact trivial
        exact trivial
      refine hall_cons rfl (by simp [p3, p4, p3', p4']; rfl) ?_ ?_
      ·
        refine ho_all C [0, 4] (by decide +kernel) (by decide) ?_
        refine hall_cons rfl (by simp [p3, p4, p3', p4']; rfl) ?_ ?_
        ·
          refine ho_all C [3, 4] (by decide +kernel) (by decide) ?_
          refine hall_cons rfl (by simp [p3, p4, p3', p4']; rfl) ?_ ?_
          ·
            refine ho_all C [4] (by decide +kernel) (by decide) ?_
            refine hall_cons rfl (by simp [p3, p4, p3', p4']; rfl) ?_ ?_
            ·
              refine ho_all C [5] (by decide +kernel) (by decide) ?_
              refine hall_cons rfl (by simp [p3, p4, p3', p4']; rfl) ?_ ?_
              ·
                refine ho_all C [6] (by decide +kernel) (by decide) ?_
                refine hall_cons rfl (by simp [p3, p4, p3', p4']; rfl) ?_ ?_
                ·
                  refine ho_pure C 7 rfl (by decide +kernel) (by decide +kernel) (by simp [pureP, pureB]) (by simp [p3, p4, p3', p4']; rfl) ?_
                  refine ho_all C [8] (by decide +kernel) (by decide) ?_
                  refine hall_cons rfl (by simp [p3, p4, p3', p4']; rfl) ?_ ?_
                  ·
                    exact ho_end C (by decide +kernel) ⟨rfl, weak_iff.2 (by simp)⟩
                  exact trivial
                exact trivial
              exact trivial
            exact trivial
          refine hall_cons rfl (by simp [p3, p4, p3', p4']; rfl) ?_ ?_
          ·
            refine ho_all C [3, 5] (by decide +kernel) (by decide) ?_
            refine hall_cons rfl (by simp [p3, p4, p3', p4']; rfl) ?_ ?_
            ·
              refine ho_all C [5] (by decide +kernel) (by decide) ?_
              refine hall_cons rfl (by simp [p3, p4, p3', p4']; rfl) ?_ ?_
              ·
                refine ho_all C [6] (by decide +kernel) (by decide) ?_
                refine hall_cons rfl (by simp [p3, p4, p3', p4']; rfl) ?_ ?_
                ·
                  refine ho_pure C 7 rfl (by decide +kernel) (by decide +kernel) (by simp [pureP, pureB]) (by simp [p3, p4, p3', p4']; rfl) ?_
                  refine ho_all C [8] (by decide +kernel) (by decide) ?_
                  refine hall_cons rfl (by simp [p3, p4, p3', p4']; rfl) ?_ ?_
                  ·
                    exact ho_end C (by decide +kernel) ⟨rfl, weak_iff.2 (by simp)⟩
                  exact trivial
                exact trivial
              exact trivial
            refine hall_cons rfl (by simp [p3, p4, p3', p4']; rfl) ?_ ?_
            ·
              refine ho_all C [3] (by decide +kernel) (by decide) ?_
              refine hall_cons rfl (by simp [p3, p4, p3', p4']; rfl) ?_ ?_
              ·
                refine ho_all C [6] (by decide +kernel) (by decide) ?_
                refine hall_cons rfl (by simp [p3, p4, p3', p4']; rfl) ?_ ?_
                ·
                  refine ho_pure C 7 rfl (by decide +kernel) (by decide +kernel) (by simp [pureP, pureB]) (by simp [p3, p4, p3', p4']; rfl) ?_
                  refine ho_all C [8] (by decide +kernel) (by decide) ?_
                  refine hall_cons rfl (by simp [p3, p4, p3', p4']; rfl) ?_ ?_
                  ·
                    exact ho_end C (by decide +kernel) ⟨rfl, weak_iff.2 (by simp)⟩
                  exact trivial
                exact trivial
              exact trivial
            exact trivial
          exact trivial
        refine hall_cons rfl (by simp [p3, p4, p3', p4']; rfl) ?_ ?_
        ·
          refine ho_all C [0, 5] (by decide +kernel) (by decide) ?_
          refine hall_cons rfl (by simp [p3, p4, p3', p4']; rfl) ?_ ?_
          ·
            refine ho_all C [3, 5] (by decide +kernel) (by decide) ?_
            refine hall_cons rfl (by simp [p3, p4, p3', p4']; rfl) ?_ ?_
            ·
              refine ho_all C [5] (by decide +kernel) (by decide) ?_
              refine hall_cons rfl (by simp [p3, p4, p3', p4']; rfl) ?_ ?_
              ·
                refine ho_all C [6] (by decide +kernel) (by decide) ?_
                refine hall_cons rfl (by simp [p3, p4, p3', p4']; rfl) ?_ ?_
                ·
                  refine ho_pure C 7 rfl (by decide +kernel) (by decide +kernel) (by simp [pureP, pureB]) (by simp [p3, p4, p3', p4']; rfl) ?_
                  refine ho_all C [8] (by decide +kernel) (by decide) ?_
                  refine hall_cons rfl (by simp [p3, p4, p3', p4']; rfl) ?_ ?_
                  ·
                    exact ho_end C (by decide +kernel) ⟨rfl, weak_iff.2 (by simp)⟩
                  exact trivial
                exact trivial
              exact trivial
            refine hall_cons rfl (by simp [p3, p4, p3', p4']; rfl) ?_ ?_
            ·
              refine ho_all C [3] (by decide +kernel) (by decide) ?_
              refine hall_cons rfl (by simp [p3, p4, p3', p4']; rfl) ?_ ?_
              ·
                refine ho_all C [6] (by decide +kernel) (by decide) ?_
                refine hall_cons rfl (by simp [p3, p4, p3', p4']; rfl) ?_ ?_
                ·
                  refine ho_pure C 7 rfl (by decide +kernel) (by decide +kernel) (by simp [pureP, pureB]) (by simp [p3, p4, p3', p4']; rfl) ?_
                  refine ho_all C [8] (by decide +kernel) (by decide) ?_
                  refine hall_cons rfl (by simp [p3, p4, p3', p4']; rfl) ?_ ?_
                  ·
                    exact ho_end C (by decide +kernel) ⟨rfl, weak_iff.2 (by simp)⟩
                  exact trivial
                exact trivial
              exact trivial
            exact trivial
          refine hall_cons rfl (by simp [p3, p4, p3', p4']; rfl) ?_ ?_
          ·
            refine ho_all C [0] (by decide +kernel) (by decide) ?_
            refine hall_cons rfl (by simp [p3, p4, p3', p4']; rfl) ?_ ?_
            ·
              refine ho_all C [3] (by decide +kernel) (by decide) ?_
              refine hall_cons rfl (by simp [p3, p4, p3', p4']; rfl) ?_ ?_
              ·
                refine ho_all C [6] (by decide +kernel) (by decide) ?_
                refine hall_cons rfl (by simp [p3, p4, p3', p4']; rfl) ?_ ?_
                ·
                  refine ho_pure C 7 rfl (by decide +kernel) (by decide +kernel) (by simp [pureP, pureB]) (by simp [p3, p4, p3', p4']; rfl) ?_
                  refine ho_all C [8] (by decide +kernel) (by decide) ?_
                  refine hall_cons rfl (by simp [p3, p4, p3', p4']; rfl) ?_ ?_
                  ·
                    exact ho_end C (by decide +kernel) ⟨rfl, weak_iff.2 (by simp)⟩
                  exact trivial
                exact trivial
              exact trivial
            exact trivial
          exact trivial
        exact trivial
      refine hall_cons rfl (by simp [p3, p4, p3', p4']; rfl) ?_ ?_
      ·
        refine ho_all C [0, 2, 5] (by decide +kernel) (by decide) ?_
        refine hall_cons rfl (by simp [p3, p4, p3', p4']; rfl) ?_ ?_
        ·
          refine ho_all C [2, 5] (by decide +kernel) (by decide) ?_
          refine hall_cons rfl (by simp [p3, p4, p3', p4']; rfl) ?_ ?_
          ·
            refine ho_all C [3, 5] (by decide +kernel) (by decide) ?_
            refine hall_cons rfl (by simp [p3, p4, p3', p4']; rfl) ?_ ?_
            ·
              refine ho_all C [5] (by decide +kernel) (by decide) ?_
              refine hall_cons rfl (by simp [p3, p4, p3', p4']; rfl) ?_ ?_
              ·
                refine ho_all C [6] (by decide +kernel) (by decide) ?_
                refine hall_cons rfl (by simp [p3, p4, p3', p4']; rfl) ?_ ?_
                ·
                  refine ho_pure C 7 rfl (by decide +kernel) (by decide +kernel) (by simp [pureP, pureB]) (by simp [p3, p4, p3', p4']; rfl) ?_
                  refine ho_all C [8] (by decide +kernel) (by decide) ?_
                  refine hall_cons rfl (by simp [p3, p4, p3', p4']; rfl) ?_ ?_
                  ·
                    exact ho_end C (by decide +kernel) ⟨rfl, weak_iff.2 (by simp)⟩
                  exact trivial
                exact trivial
              exact trivial
            refine hall_cons rfl (by simp [p3, p4, p3', p4']; rfl) ?_ ?_
            ·
              refine ho_all C [3] (by decide +kernel) (by decide) ?_
              refine hall_cons rfl (by simp [p3, p4, p3', p4']; rfl) ?_ ?_
              ·
                refine ho_all C [6] (by decide +kernel) (by decide) ?_
                refine hall_cons rfl (by simp [p3, p4, p3', p4']; rfl) ?_ ?_
                ·
                  refine ho_pure C 7 rfl (by decide +kernel) (by decide +kernel) (by simp [pureP, pureB]) (by simp [p3, p4, p3', p4']; rfl) ?_
                  refine ho_all C [8] (by decide +kernel) (by decide) ?_
                  refine hall_cons rfl (by simp [p3, p4, p3', p4']; rfl) ?_ ?_
                  ·
                    exact ho_end C (by decide +kernel) ⟨rfl, weak_iff.2 (by simp)⟩
                  exact trivial
                exact trivial
              exact trivial
            exact trivial
          refine hall_cons rfl (by simp [p3, p4, p3', p4']; rfl) ?_ ?_
          ·
            refine ho_all C [2] (by decide +kernel) (by decide) ?_
            refine hall_cons rfl (by simp [p3, p4, p3', p4']; rfl) ?_ ?_
            ·
              refine ho_all C [3] (by decide +kernel) (by decide) ?_
              refine hall_cons rfl (by simp [p3, p4, p3', p4']; rfl) ?_ ?_
              ·
                refine ho_all C [6] (by decide +kernel) (by decide) ?_
                refine hall_cons rfl (by simp [p3, p4, p3', p4']; rfl) ?_ ?_
                ·
                  refine ho_pure C 7 rfl (by decide +kernel) (by decide +kernel) (by simp [pureP, pureB]) (by simp [p3, p4, p3', p4']; rfl) ?_
                  refine ho_all C [8] (by decide +kernel) (by decide) ?_
                  refine hall_cons rfl (by simp [p3, p4, p3', p4']; rfl) ?_ ?_
                  ·
                    exact ho_end C (by decide +kernel) ⟨rfl, weak_iff.2 (by simp)⟩
                  exact trivial
                exact trivial
              exact trivial
            exact trivial
          exact trivial
        refine hall_cons rfl (by simp [p3, p4, p3', p4']; rfl) ?_ ?_
        ·
          refine ho_all C [0, 5] (by decide +kernel) (by decide) ?_
          refine hall_cons rfl (by simp [p3, p4, p3', p4']; rfl) ?_ ?_
          ·
            refine ho_all C [3, 5] (by decide +kernel) (by decide) ?_
            refine hall_cons rfl (by simp [p3, p4, p3', p4']; rfl) ?_ ?_
            ·
              refine ho_all C [5] (by decide +kernel) (by decide) ?_
              refine hall_cons rfl (by simp [p3, p4, p3', p4']; rfl) ?_ ?_
              ·
                refine ho_all C [6] (by decide +kernel) (by decide) ?_
                refine hall_cons rfl (by simp [p3, p4, p3', p4']; rfl) ?_ ?_
                ·
                  refine ho_pure C 7 rfl (by decide +kernel) (by decide +kernel) (by simp [pureP, pureB]) (by simp [p3, p4, p3', p4']; rfl) ?_
                  refine ho_all C [8] (by decide +kernel) (by decide) ?_
                  refine hall_cons rfl (by simp [p3, p4, p3', p4']; rfl) ?_ ?_
                  ·
                    exact ho_end C (by decide +kernel) ⟨rfl, weak_iff.2 (by simp)⟩
                  exact trivial
                exact trivial
              exact trivial
            refine hall_cons rfl (by simp [p3, p4, p3', p4']; rfl) ?_ ?_
            ·
              refine ho_all C [3] (by decide +kernel) (by decide) ?_
              refine hall_cons rfl (by simp [p3, p4, p3', p4']; rfl) ?_ ?_
              ·
                refine ho_all C [6] (by decide +kernel) (by decide) ?_
                refine hall_cons rfl (by simp [p3, p4, p3', p4']; rfl) ?_ ?_
                ·
                  refine ho_pure C 7 rfl (by decide +kernel) (by decide +kernel) (by simp [pureP, pureB]) (by simp [p3, p4, p3', p4']; rfl) ?_
                  refine ho_all C [8] (by decide +kernel) (by decide) ?_
                  refine hall_cons rfl (by simp [p3, p4, p3', p4']; rfl) ?_ ?_
                  ·
                    exact ho_end C (by decide +kernel) ⟨rfl, weak_iff.2 (by simp)⟩
                  exact trivial
                exact trivial
              exact trivial
            exact trivial
          refine hall_cons rfl (by simp [p3, p4, p3', p4']; rfl) ?_ ?_
          ·
            refine ho_all C [0] (by decide +kernel) (by decide) ?_
            refine hall_cons rfl (by simp [p3, p4, p3', p4']; rfl) ?_ ?_
            ·
              refine ho_all C [3] (by decide +kernel) (by decide) ?_
              refine hall_cons rfl (by simp [p3, p4, p3', p4']; rfl) ?_ ?_
              ·
                refine ho_all C [6] (by decide +kernel) (by decide) ?_
                refine hall_cons rfl (by simp [p3, p4, p3', p4']; rfl) ?_ ?_
                ·
                  refine ho_pure C 7 rfl (by decide +kernel) (by decide +kernel) (by simp [pureP, pureB]) (by simp [p3, p4, p3', p4']; rfl) ?_
                  refine ho_all C [8] (by decide +kernel) (by decide) ?_
                  refine hall_cons rfl (by simp [p3, p4, p3', p4']; rfl) ?_ ?_
                  ·
                    exact ho_end C (by decide +kernel) ⟨rfl, weak_iff.2 (by simp)⟩
                  exact trivial
                exact trivial
              exact trivial
            exact trivial
          exact trivial
        refine hall_cons rfl (by simp [p3, p4, p3', p4']; rfl) ?_ ?_
        ·
          refine ho_all C [0, 2] (by decide +kernel) (by decide) ?_
          refine hall_cons rfl (by simp [p3, p4, p3', p4']; rfl) ?_ ?_
          ·
            refine ho_all C [2] (by decide +kernel) (by decide) ?_
            refine hall_cons rfl (by simp [p3, p4, p3', p4']; rfl) ?_ ?_
            ·
              refine ho_all C [3] (by decide +kernel) (by decide) ?_
              refine hall_cons rfl (by simp [p3, p4, p3', p4']; rfl) ?_ ?_
              ·
                refine ho_all C [6] (by decide +kernel) (by decide) ?_
                refine hall_cons rfl (by simp [p3, p4, p3', p4']; rfl) ?_ ?_
                ·
                  refine ho_pure C 7 rfl (by decide +kernel) (by decide +kernel) (by simp [pureP, pureB]) (by simp [p3, p4, p3', p4']; rfl) ?_
                  refine ho_all C [8] (by decide +kernel) (by decide) ?_
                  refine hall_cons rfl (by simp [p3, p4, p3', p4']; rfl) ?_ ?_
                  ·
                    exact ho_end C (by decide +kernel) ⟨rfl, weak_iff.2 (by simp)⟩
                  exact trivial
                exact trivial
              exact trivial
            exact trivial
          refine hall_cons rfl (by simp [p3, p4, p3', p4']; rfl) ?_ ?_
          ·
            refine ho_all C [0] (by decide +kernel) (by decide) ?_
            refine hall_cons rfl (by simp [p3, p4, p3', p4']; rfl) ?_ ?_
            ·
              refine ho_all C [3] (by decide +kernel) (by decide) ?_
              refine hall_cons rfl (by simp [p3, p4, p3', p4']; rfl) ?_ ?_
              ·
                refine ho_all C [6] (by decide +kernel) (by decide) ?_
                refine hall_cons rfl (by simp [p3, p4, p3', p4']; rfl) ?_ ?_
                ·
                  refine ho_pure C 7 rfl (by decide +kernel) (by decide +kernel) (by simp [pureP, pureB]) (by simp [p3, p4, p3', p4']; rfl) ?_
                  refine ho_all C [8] (by decide +kernel) (by decide) ?_
                  refine hall_cons rfl (by simp [p3, p4, p3', p4']; rfl) ?_ ?_
                  ·
                    exact ho_end C (by decide +kernel) ⟨rfl, weak_iff.2 (by simp)⟩
                  exact trivial
                exact trivial
              exact trivial
            exact trivial
          exact trivial
        exact trivial
      exact trivial
    ·
      refine kc ?_
      refine ko [4, 50, 52] 3 (by simp; rfl) ?_
      refine tops_wk (wk_frz 47) ?_
      replace h0 := bnd h0; obtain ⟨y3, hy3, h0⟩ := h0
      refine kcall [4, 53] [] (walk_Paths_ok hy3) rfl rfl rfl Tryd.call5 (by simp) (by simp; rfl) ?_
      refine ko [4, 8, 9] 5 (by simp; rfl) ?_
      refine tops_nil ?_
      refine kc ?_
      refine ko [8, 9, 57] 1 (by simp; rfl) ?_
      replace h0 := bnd h0; obtain ⟨y4, hy4, h0⟩ := h0
      refine kcall [8, 9, 58] [] (walk_Paths_ok hy4) rfl rfl rfl Tryd.call5 (by simp) (by simp; rfl) ?_
      refine ko [8, 9, 10, 11] 5 (by simp; rfl) ?_
      refine tops_nil ?_
      refine tr_seq ?_
      replace h0 := bnd h0; obtain ⟨v5, hvv5, h0⟩ := h0
      refine sjv (fun v5_ : Bool => ({ nt := 128, env := [(8, .d (.slice (rowsF api_Item_row y3.1))), (10, .d (.slice (rowsF api_Item_row y4.1))), (73, .d (.bool v5_))], box := [], vec := [] } : St)) (fun v5_ => v5 = v5_) (fun v5_ e => ?_) ?_
      · subst e
        refine tr_cond (b := v5) (by simp) (fun c9 => ?_) (fun c9 => ?_)
        · rw [if_pos c9] at h0
          refine kr [2] (by simp; rfl) ?_
          cases h0
          exact tr_ret ⟨[], by simp, rfl, by simp⟩
        · rw [if_neg (by rw [c9]; decide)] at h0
          refine tr_skip ?_
          refine tr_seq ?_
          refine kr [8, 10, 12] (by simp; rfl) ?_
          replace h0 := bnd h0; obtain ⟨e2, hI2, h0⟩ := h0
          refine tjv (fun v6 : Unit => ({ nt := 128, env := [], box := [], vec := [] } : St)) (fun v6 => .inl v6 = e2) (fun v6 hI2e _ W2 => ?_) ?_
          · subst hI2e
            dsimp only at h0
            refine tr_wk W2 ?_
            refine kc ?_
            replace h0 := bnd h0; obtain ⟨y7, hy7, h0⟩ := h0
            refine kcall [127] [] (law16_awake_ok hy7) rfl rfl rfl Tryd.call6 (by simp) (by simp; rfl) ?_
            refine ko [2] 1 (by simp; rfl) ?_
            refine tops_nil ?_
            cases h0
            exact tr_ret ⟨[], by simp, rfl, by simp⟩
          · refine tr_block (tr_iter (fun s8 : Int => ({ nt := 128, env := [(8, .d (.slice (rowsF api_Item_row y3.1))), (10, .d (.slice (rowsF api_Item_row y4.1))), (12, .d (.int .i64 s8))], box := [], vec := [] } : St)) hI2 (wk (by simp [weak_iff])) fun G2 s8 o2 h2 hg2 he2 => ?_)
            unfold law16_WalkShared_l1 at h2
            refine tr_seq ?_
            refine kr [8, 10, 12, 77] (by simp; rfl) ?_
            refine tr_cond (b := (decide (s8 < ((y3.1).length : Int)))) (by simp) (fun c40 => ?_) (fun c40 => ?_)
            · rw [if_pos c40] at h2
              refine tr_skip ?_
              refine tr_seq ?_
              refine tr_block ?_
              refine kd [[], [], [0, 1], [2], [3], [], [], [5, 6], [7], [8], [4], [9]] [] [] none [] 12 fol (by decide +kernel) (by simp) ?_
              replace h2 := bnd h2; obtain ⟨x9, p46, h2⟩ := h2
              replace p46 := idx_some p46
              have p46' := p46; try simp at p46'
              replace h2 := bnd h2; obtain ⟨x10, p47, h2⟩ := h2
              replace p47 := idx_some p47
              have p47' := p47; try simp at p47'
              refine dr_go 0 2 rfl (by simp (maxSteps := 1000000) [p46, p47, p46', p47']; rfl) ?_
              refine dr_go 2 2 rfl (by simp (maxSteps := 1000000) [p46, p47, p46', p47']; rfl) ?_
              refine dr_go 4 2 rfl (by simp (maxSteps := 1000000) [p46, p47, p46', p47']; rfl) ?_
              refine dr_go 6 2 rfl (by simp (maxSteps := 1000000) [p46, p47, p46', p47']; rfl) ?_
              refine dr_go 8 2 rfl (by simp (maxSteps := 1000000) [p46, p47, p46', p47']; rfl) ?_
              refine dr_go 10 2 rfl (by simp (maxSteps := 1000000) [p46, p47, p46', p47']; rfl) ?_
              refine dr_end rfl (tops_nil ?_)
              replace h2 := bnd h2; obtain ⟨e3, hI3, h2⟩ := h2
              refine sjv (fun v11 : ByteArray => ({ nt := 128, env := [(8, .d (.slice (rowsF api_Item_row y3.1))), (10, .d (.slice (rowsF api_Item_row y4.1))), (12, .d (.int .i64 s8)), (13, .d (.str v11)), (14, .d (.str x10.Name))], box := [], vec := [] } : St)) (fun v11 => v11 = e3) (fun v11 hI3e => ?_) ?_
              · subst hI3e
                replace h2 := bnd h2; obtain ⟨v12, hvv12, h2⟩ := h2
                refine sjv (fun v12_ : Bool => ({ nt := 128, env := [(8, .d (.slice (rowsF api_Item_row y3.1))), (10, .d (.slice (rowsF api_Item_row y4.1))), (12, .d (.int .i64 s8)), (126, .d (.bool v12_))], box := [], vec := [] } : St)) (fun v12_ => v12 = v12_) (fun v12_ e => ?_) ?_
                · subst e
                  refine tr_cond (b := v12) (by simp) (fun c63 => ?_) (fun c63 => ?_)
                  · rw [if_pos c63] at h2
                    refine kr [2] (by simp; rfl) ?_
                    have k1 := he2 _ (Option.some.inj h2)
                    subst k1
                    dsimp only at h0
                    cases h0
                    exact tr_ret ⟨[], by simp, rfl, by simp⟩
                  · rw [if_neg (by rw [c63]; decide)] at h2
                    refine tr_skip ?_
                    refine lr (by simp; rfl) ?_
                    exact ⟨_, hg2 _ (Option.some.inj h2), wk (by simp [weak_iff])⟩
                · refine kd1 [[], [0], [1], [1, 2], [1, 3], [1, 3, 4], [1, 3, 5], [1, 3, 6], [1, 7], [1, 8], [1, 8, 9], [1, 8], [1, 8, 10, 11], [1, 8, 12], [1, 13], [1, 14], [1, 14], [1, 14, 15, 16], [1, 14, 17], [1, 14, 18], [1, 14], [1, 14], [1, 14, 20, 21], [1, 14, 22], [1, 14, 23], [1, 14, 19, 24], [1, 14, 25]] [] [] none [] 27 fol (by decide +kernel) (by simp) ?_
                  refine dr_go 0 2 rfl (by simp (maxSteps := 1000000); rfl) ?_
                  refine dr_go 2 2 rfl (by simp (maxSteps := 1000000); rfl) ?_
                  refine dr_split 3 103 (decide (((x10.Name).size : Int) < 4)) (by simp) (fun c70 => ?_) (fun c70 => ?_)
                  · rw [if_pos c70] at hvv12
                    refine dr_skip 4 128 [some 104, some 105, some 106] rfl rfl (by decide) (by kernel_rfl) (by simp only [skEf, List.map_cons, List.map_nil, List.cons_append, List.nil_append]; rfl) ?_
                    refine dr_go 7 2 rfl (by simp (maxSteps := 1000000); rfl) ?_
                    refine dr_skip 9 128 [some 109, some 110, some 111, some 112] rfl rfl (by decide) (by kernel_rfl) (by simp only [skEf, List.map_cons, List.map_nil, List.cons_append, List.nil_append]; rfl) ?_
                    refine dr_go 13 2 rfl (by simp (maxSteps := 1000000); rfl) ?_
                    refine dr_skip 15 128 [some 115, some 116, some 117, some 118, some 119, some 120, some 121, some 122, some 123, some 124, some 125] rfl rfl (by decide) (by kernel_rfl) (by simp only [skEf, List.map_cons, List.map_nil, List.cons_append, List.nil_append]; rfl) ?_
                    refine dr_go 26 1 rfl (by simp (maxSteps := 1000000); rfl) ?_
                    refine dr_end rfl (tops_nil ?_)
                    cases hvv12
                    exact ⟨_, rfl, wk (by simp [weak_iff])⟩
                  · rw [if_neg (by rw [c70]; decide)] at hvv12
                    replace hvv12 := bnd hvv12; obtain ⟨_, p70, hvv12⟩ := hvv12
                    replace p70 := ck_some p70
                    have p70' := p70; try simp at p70'
                    refine dr_go 4 2 rfl (by simp (maxSteps := 1000000) [p70, p70']; rfl) ?_
                    refine dr_go 6 2 rfl (by simp (maxSteps := 1000000) [p70, p70']; rfl) ?_
                    refine dr_go 8 1 rfl (by simp (maxSteps := 1000000) [p70, p70']; rfl) ?_
                    refine dr_split 8 108 (!(((ByteArray.extract x10.Name 0 3)).toList == ((⟨#[49, 48, 48]⟩ : ByteArray)).toList)) (by simp) (fun c71 => ?_) (fun c71 => ?_)
                    · rw [if_pos c71] at hvv12
                      refine dr_skip 9 128 [some 109, some 110, some 111, some 112] rfl rfl (by decide) (by kernel_rfl) (by simp only [skEf, List.map_cons, List.map_nil, List.cons_append, List.nil_append]; rfl) ?_
                      refine dr_go 13 2 rfl (by simp (maxSteps := 1000000); rfl) ?_
                      refine dr_skip 15 128 [some 115, some 116, some 117, some 118, some 119, some 120, some 121, some 122, some 123, some 124, some 125] rfl rfl (by decide) (by kernel_rfl) (by simp only [skEf, List.map_cons, List.map_nil, List.cons_append, List.nil_append]; rfl) ?_
                      refine dr_go 26 1 rfl (by simp (maxSteps := 1000000); rfl) ?_
                      refine dr_end rfl (tops_nil ?_)
                      cases hvv12
                      exact ⟨_, rfl, wk (by simp [weak_iff])⟩
                    · rw [if_neg (by rw [c71]; decide)] at hvv12
                      replace hvv12 := bnd hvv12; obtain ⟨_, p71, hvv12⟩ := hvv12
                      replace p71 := ck_some p71
                      have p71' := p71; try simp at p71'
                      refine dr_go 9 2 rfl (by simp (maxSteps := 1000000) [p71, p71']; rfl) ?_
                      refine dr_go 11 2 rfl (by simp (maxSteps := 1000000) [p71, p71']; rfl) ?_
                      refine dr_go 13 2 rfl (by simp (maxSteps := 1000000) [p71, p71']; rfl) ?_
                      refine dr_split 14 114 (!(((ByteArray.extract x10.Name 3 (x10.Name).size)).toList == (v11).toList)) (by simp) (fun c72 => ?_) (fun c72 => ?_)
                      · rw [if_pos c72] at hvv12
                        refine dr_skip 15 128 [some 115, some 116, some 117, some 118, some 119, some 120, some 121, some 122, some 123, some 124, some 125] rfl rfl (by decide) (by kernel_rfl) (by simp only [skEf, List.map_cons, List.map_nil, List.cons_append, List.nil_append]; rfl) ?_
                        refine dr_go 26 1 rfl (by simp (maxSteps := 1000000); rfl) ?_
                        refine dr_end rfl (tops_nil ?_)
                        cases hvv12
                        exact ⟨_, rfl, wk (by simp [weak_iff])⟩
                      · rw [if_neg (by rw [c72]; decide)] at hvv12
                        refine dr_go 15 2 rfl (by simp (maxSteps := 1000000) [p46, p47, p46', p47']; rfl) ?_
                        refine dr_go 17 2 rfl (by simp (maxSteps := 1000000) [p46, p47, p46', p47']; rfl) ?_
                        refine dr_go 19 2 rfl (by simp (maxSteps := 1000000) [p46, p47, p46', p47']; rfl) ?_
                        refine dr_go 21 2 rfl (by simp (maxSteps := 1000000) [p46, p47, p46', p47']; rfl) ?_
                        refine dr_go 23 2 rfl (by simp (maxSteps := 1000000) [p46, p47, p46', p47']; rfl) ?_
                        refine dr_go 25 2 rfl (by simp (maxSteps := 1000000) [p46, p47, p46', p47']; rfl) ?_
                        refine dr_end rfl (tops_nil ?_)
                        cases hvv12
                        exact ⟨_, rfl, wk (by simp [weak_iff])⟩
              · refine tr_block (tr_iter (fun s13 : ByteArray => ({ nt := 128, env := [(8, .d (.slice (rowsF api_Item_row y3.1))), (10, .d (.slice (rowsF api_Item_row y4.1))), (12, .d (.int .i64 s8)), (13, .d (.str s13)), (14, .d (.str x10.Name))], box := [], vec := [] } : St)) hI3 (wk (by simp [weak_iff])) fun G3 s13 o3 h3 hg3 he3 => ?_)
                unfold law16_WalkShared_l2 at h3
                refine tr_seq ?_
                replace h3 := bnd h3; obtain ⟨v14, hvv14, h3⟩ := h3
                refine sjv (fun v14_ : Bool => ({ nt := 128, env := [(8, .d (.slice (rowsF api_Item_row y3.1))), (10, .d (.slice (rowsF api_Item_row y4.1))), (12, .d (.int .i64 s8)), (13, .d (.str s13)), (14, .d (.str x10.Name)), (97, .d (.bool v14_))], box := [], vec := [] } : St)) (fun v14_ => v14 = v14_) (fun v14_ e => ?_) ?_
                · subst e
                  refine tr_cond (b := v14) (by simp) (fun c75 => ?_) (fun c75 => ?_)
                  · rw [if_pos c75] at h3
                    refine tr_skip ?_
                    refine tr_block ?_
                    replace h3 := bnd h3; obtain ⟨_, p76, h3⟩ := h3
                    replace p76 := ck_some p76
                    have p76' := p76; try simp at p76'
                    refine lr (by simp [p76, p76']; rfl) ?_
                    exact ⟨_, hg3 _ (Option.some.inj h3), wk (by simp [weak_iff])⟩
                  · rw [if_neg (by rw [c75]; decide)] at h3
                    refine tr_exit ?_
                    exact ⟨_, he3 _ (Option.some.inj h3), wk (by simp [weak_iff])⟩
                · refine kc1 ?_
                  refine ko [8, 10, 12, 13, 14, 93] 4 (by simp; rfl) ?_
                  refine tops_split 93 (decide (0 < ((s13).size : Int))) (by simp) (fun c76 => ?_) (fun c76 => ?_)
                  · rw [if_pos c76] at hvv14
                    replace hvv14 := bnd hvv14; obtain ⟨x15, p77, hvv14⟩ := hvv14
                    have ix78 : indexVA Tryd.prog 9 (.d (.str s13)) 0 = some (.d (.int .u8 x15)) := index_str Tryd.underlying9 p77
                    refine ko [8, 10, 12, 13, 14, 94, 95, 96, 97] 4 (by simp [ix78, -indexVA]; rfl) ?_
                    refine tops_nil ?_
                    cases hvv14
                    exact ⟨_, rfl, wk (by simp [weak_iff])⟩
                  · rw [if_neg (by rw [c76]; decide)] at hvv14
                    refine kskip 3 [] (by kernel_rfl) ?_
                    refine ko [8, 10, 12, 13, 14, 97] 1 (by simp; rfl) ?_
                    refine tops_nil ?_
                    cases hvv14
                    exact ⟨_, rfl, wk (by simp [weak_iff])⟩
            · rw [if_neg (by rw [c40]; decide)] at h2
              refine tr_exit ?_
              exact ⟨_, he2 _ (Option.some.inj h2), wk (by simp [weak_iff])⟩
      · refine kc1 ?_
        refine ko [8, 10, 11, 63] 3 (by simp; rfl) ?_
        refine tops_split 63 (y3.2 != 0) (by simp) (fun c77 => ?_) (fun c77 => ?_)
        · rw [c77] at hvv5
          refine ko [8, 10, 67] 4 (by simp; rfl) ?_
          refine kskip 5 [] (by kernel_rfl) ?_
          refine ko [8, 10, 73] 1 (by simp; rfl) ?_
          refine tops_nil ?_
          cases hvv5
          exact ⟨_, rfl, wk (by simp [weak_iff])⟩
        · rw [c77] at hvv5
          refine ko [8, 10, 67] 4 (by simp; rfl) ?_
          refine tops_split 67 (y4.2 != 0) (by simp) (fun c78 => ?_) (fun c78 => ?_)
          · rw [c78] at hvv5
            refine kskip 5 [] (by kernel_rfl) ?_
            refine ko [8, 10, 73] 1 (by simp; rfl) ?_
            refine tops_nil ?_
            cases hvv5
            exact ⟨_, rfl, wk (by simp [weak_iff])⟩
          · rw [c78] at hvv5
            refine ko [8, 10, 73] 6 (by simp; rfl) ?_
            refine tops_nil ?_
            cases hvv5
            exact ⟨_, rfl, wk (by simp [weak_iff])⟩
  · refine tr_block (tr_iter (fun s18 : Int × Int × Int × (List Int) × (List api_Item) × Int × (List Int) × ByteArray × Int => ({ nt := 128, env := [(4, .ptr 4 0), (5, .ptr 5 0), (6, .d (.int .i64 s18.1))], box := [(4, [.d (.slice (rowsF api_Object_row y1.1.Objects)), .d (.slice (rowsF api_RefEvent_row y1.1.Events))]), (5, [.d (.int .i64 s18.2.1), .d (.int .i64 s18.2.2.1), .d (.slice (rowsF (iRow .u8) s18.2.2.2.1)), .d (.slice (rowsF api_Item_row s18.2.2.2.2.1)), .d (.int .i64 s18.2.2.2.2.2.1), .d (.slice (rowsF (iRow .i64) s18.2.2.2.2.2.2.1)), .d (.str s18.2.2.2.2.2.2.2.1), .d (.int .i64 s18.2.2.2.2.2.2.2.2)])], vec := [] } : St)) hI1 (Wk.trans (wk_nilb 5 5 (by simp; rfl) (by simp)) (Wk.trans (wk_nilb 5 3 (by simp; rfl) (by simp)) (Wk.trans (wk_nilb 5 2 (by simp; rfl) (by simp)) (wk (by simp [weak_iff]))))) fun G3 s18 o3 h3 hg3 he3 => ?_)
    unfold law16_WalkShared_l0 at h3
    refine tr_seq ?_
    refine kr [4, 5, 6, 24] (by simp; rfl) ?_
    refine tr_cond (b := (decide (s18.1 < ((y1.1.Objects).length : Int)))) (by simp) (fun c79 => ?_) (fun c79 => ?_)
    · rw [if_pos c79] at h3
      refine tr_skip ?_
      refine tr_seq ?_
      refine tr_block ?_
      replace h3 := bnd h3; obtain ⟨x19, p79, h3⟩ := h3
      replace p79 := idx_some p79
      have p79' := p79; try simp at p79'
      refine kr [4, 5, 6, 33] (by simp [p79, p79']; rfl) ?_
      refine tr_cond (b := (x19.Kind == 3)) (by simp) (fun c80 => ?_) (fun c80 => ?_)
      · rw [if_pos c80] at h3
        refine lr (by simp [p79, p79']; rfl) ?_
        refine lr (by simp; rfl) ?_
        exact ⟨_, hg3 _ (Option.some.inj h3), wk (by simp [weak_iff])⟩
      · rw [if_neg (by rw [c80]; decide)] at h3
        refine tr_skip ?_
        refine lr (by simp; rfl) ?_
        exact ⟨_, hg3 _ (Option.some.inj h3), wk (by simp [weak_iff])⟩
    · rw [if_neg (by rw [c79]; decide)] at h3
      refine tr_exit ?_
      exact ⟨_, he3 _ (Option.some.inj h3), wk (by simp [weak_iff])⟩
set_option maxHeartbeats 1000000 in
theorem slices_Clone_int_ok {a0 : List Int} {r : List Int} (h0 : slices_Clone_int a0 = some r) : FnOK Tryd.prog 59 [] [.d (.slice (rowsF (iRow .i64) a0))] (.d (.slice (rowsF (iRow .i64) r))) [] := by
  unfold slices_Clone_int at h0
  replace h0 := bnd h0; obtain ⟨_, p1, h0⟩ := h0; replace p1 := ck_some p1; cases h0
  refine fn_ok (nt := 8) (rs := [.tmp 2]) Tryd.func59 rfl Tryd.ntmps59 rfl (by simp) (by decide) rfl fun K => ?_
  refine kr [0, 2] (by simp; rfl) ?_
  cases a0 with
  | nil =>
    refine tr_seq ?_
    refine kc ?_
    refine ko [0, 3] 1 (by simp; rfl) ?_
    refine tops_isnil (by simp) rfl rfl (by simp) Tryd.underlying24 (by simp) (by simp) fun b => ?_
    refine tops_nil ?_
    refine tr_cond (b := b) (by simp) (fun cb => ?_) (fun cb => ?_)
    · refine kr [2] (by simp; rfl) ?_
      exact tr_ret ⟨[], by simp, rfl, by simp⟩
    · refine tr_skip ?_
      refine kr [2] (by simp; rfl) ?_
      exact tr_ret ⟨[7], by simp, rfl, by simp⟩
  | cons x l =>
    refine tr_seq ?_
    refine kr [0, 4] (by simp; rfl) ?_
    refine tr_cond (b := false) (by simp) (fun h => by cases h) (fun _ => ?_)
    refine tr_skip ?_
    have p2 := p1; simp at p2
    refine kr [2] (by simp [p1, p2]; rfl) ?_
    exact tr_ret ⟨[7], by simp, rfl, by simp⟩
end Go.Vl
