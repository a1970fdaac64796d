/- Plain functions that mirror functions of the given program. Conditions: none. -/
import Derived.Test.YtjnflahicimmlaaGreatDoorJAx
import Derived.Test.YtjnflahicimmlaaGreatDoorJso
import Derived.Test.YtjnflahicimmlaaGreatDoorJig
import Derived.Test.YtjnflahicimmlaaGreatDoorVmCb
import Derived.Test.YtjnflahicimmlaaGreatDoorVmLz
import Derived.Test.YtjnflahicimmlaaGreatDoorJq
import Derived.Test.YtjnflahicimmlaaGreatDoorTyJ
set_option linter.unusedSimpArgs false
set_option linter.unusedVariables false
namespace Go.Vl
open Go
noncomputable def walk_walker_tree_o0_2_l0 (a0 : walk_walker) (a2 : Int) (a1 : ByteArray) (f0 : walk_walker → ByteArray → Int → Option (Bool × walk_walker)) (s2 : Int × (List (Int × api_Object)) × Int × (List api_Item)) : Option (Lp (Int × (List (Int × api_Object)) × Int × (List api_Item)) (((List (Int × api_Object)) × Int × (List api_Item)) ⊕ (Bool × walk_walker))) :=
 if (decide (s2.1 < ((((mget inE a0.objects a2).getD (⟨0, 0, [], [], 0, [], ByteArray.empty, 0⟩ : api_Object)).Items).length : Int))) = true then
   (idx (((mget inE a0.objects a2).getD (⟨0, 0, [], [], 0, [], ByteArray.empty, 0⟩ : api_Object)).Items) s2.1).bind fun x3 =>
   (ck ((a1).size + (x3.Name).size ≤ 9223372036854775807)).bind fun _ =>
   if ((((mget inE s2.2.1 x3.ID).getD (⟨0, 0, [], [], 0, [], ByteArray.empty, 0⟩ : api_Object)).Kind) == 2) = true then
     (ck (((a1 ++ x3.Name)).size + ((⟨#[47]⟩ : ByteArray)).size ≤ 9223372036854775807)).bind fun _ =>
     (f0 (⟨s2.2.1, s2.2.2.1, s2.2.2.2⟩ : walk_walker) ((a1 ++ x3.Name) ++ (⟨#[47]⟩ : ByteArray)) x3.ID).bind fun y4 =>
     if (!y4.1) = true then
       some (.out (.inr (false, y4.2)))
     else
       some (.go (IntKind.i64.wrap (s2.1 + 1), y4.2.objects, y4.2.left, y4.2.out))
   else
   if (decide ((IntKind.i64.wrap (s2.2.2.1 - 1)) < 0)) = true then
     some (.out (.inr (false, (⟨s2.2.1, IntKind.i64.wrap (s2.2.2.1 - 1), s2.2.2.2⟩ : walk_walker))))
   else
   (ck ((s2.2.2.2).length + ([(⟨(a1 ++ x3.Name), x3.ID⟩ : api_Item)]).length ≤ 268435456)).bind fun _ =>
   some (.go (IntKind.i64.wrap (s2.1 + 1), s2.2.1, IntKind.i64.wrap (s2.2.2.1 - 1), (s2.2.2.2 ++ [(⟨(a1 ++ x3.Name), x3.ID⟩ : api_Item)])))
 else
   some (.out (.inl (s2.2.1, s2.2.2.1, s2.2.2.2)))
noncomputable def walk_walker_tree_o0_2R (f0 : walk_walker → ByteArray → Int → Option (Bool × walk_walker)) (a0 : walk_walker) (a1 : ByteArray) (a2 : Int) : Option (Bool × walk_walker) :=
 (iter (walk_walker_tree_o0_2_l0 a0 a2 a1 f0) (0, a0.objects, a0.left, a0.out)).bind fun q6 =>
 match q6 with
 | .inl v1 =>
   some (true, (⟨v1.1, v1.2.1, v1.2.2⟩ : walk_walker))
 | .inr r5 =>
   some r5
noncomputable def walk_walker_tree_o0_2N : Nat → walk_walker → ByteArray → Int → Option (Bool × walk_walker)
 | 0 => fun _ _ _ => none
 | n + 1 => walk_walker_tree_o0_2R (walk_walker_tree_o0_2N n)
noncomputable def walk_walker_tree_o0_2 (a0 : walk_walker) (a1 : ByteArray) (a2 : Int) : Option (Bool × walk_walker) :=
 @dite _ (∃ n r, walk_walker_tree_o0_2N n a0 a1 a2 = some r) (Classical.propDecidable _) (fun h => walk_walker_tree_o0_2N (Classical.choose h) a0 a1 a2) (fun _ => none)
noncomputable def walk_paths (a0 : List (Int × api_Object)) (a1 : Int) (a2 : Int) : Option ((List api_Item) × Bool) :=
 (strconv_Itoa a1).bind fun y1 =>
 (ck ((y1).size + ((⟨#[58]⟩ : ByteArray)).size ≤ 9223372036854775807)).bind fun _ =>
 (walk_walker_tree_o0_2 (⟨a0, a2, []⟩ : walk_walker) (y1 ++ (⟨#[58]⟩ : ByteArray)) (((mget inE a0 a1).getD (⟨0, 0, [], [], 0, [], ByteArray.empty, 0⟩ : api_Object)).Tree)).bind fun y2 =>
 if (!y2.1) = true then
   some ([], false)
 else
 (slices_SortFunc_api_Item_vec0_at_walk_paths_1 y2.2.out).bind fun y3 =>
 some (y3, true)
noncomputable def slices_Clone_byte (a0 : List Int) : Option (List Int) :=
 (ck ((a0).length ≤ 268435456)).bind fun _ =>
 some a0
end Go.Vl
namespace Go.Vl
open Go Go.Proofs
set_option maxHeartbeats 1000000 in
theorem walk_walker_tree_o0_2R_ok {f0 : walk_walker → ByteArray → Int → Option (Bool × walk_walker)} (f0_ok : ∀ {a0 : walk_walker} {a1 : ByteArray} {a2 : Int} {r : Bool × walk_walker}, f0 a0 a1 a2 = some r → FnOKv Tryz.prog 61 [[.d (.mp (mTag 71 1 false true) 9 (rowsF (mRow (iRow .i64) api_Object_row) a0.objects)), .d (.int .i64 a0.left), .vec (InV 0)]] [⟨62, 2, rowsF api_Item_row a0.out⟩] [.ptr (InO 0) 0, .d (.str a1), .d (.int .i64 a2)] (.d (.bool r.1)) [[.d (.mp (mTag 71 1 false true) 9 (rowsF (mRow (iRow .i64) api_Object_row) r.2.objects)), .d (.int .i64 r.2.left), .vec (InV 0)]] [⟨62, 2, rowsF api_Item_row r.2.out⟩]) {a0 : walk_walker} {a1 : ByteArray} {a2 : Int} {r : Bool × walk_walker} (h0 : walk_walker_tree_o0_2R f0 a0 a1 a2 = some r) : FnOKv Tryz.prog 61 [[.d (.mp (mTag 71 1 false true) 9 (rowsF (mRow (iRow .i64) api_Object_row) a0.objects)), .d (.int .i64 a0.left), .vec (InV 0)]] [⟨62, 2, rowsF api_Item_row a0.out⟩] [.ptr (InO 0) 0, .d (.str a1), .d (.int .i64 a2)] (.d (.bool r.1)) [[.d (.mp (mTag 71 1 false true) 9 (rowsF (mRow (iRow .i64) api_Object_row) r.2.objects)), .d (.int .i64 r.2.left), .vec (InV 0)]] [⟨62, 2, rowsF api_Item_row r.2.out⟩] := by
 unfold walk_walker_tree_o0_2R at h0
 refine fn_okv (nt := 68) (rs := [.tmp 6]) Tryz.func61 rfl Tryz.ntmps61 rfl (by simp) (by decide) rfl fun K => ?_
 refine kr [0, 1, 2] (by simp; rfl) ?_
 refine tr_seq ?_
 refine kr [0, 1, 16, 17, 18] (by simp; rfl) ?_
 replace h0 := bnd h0; obtain ⟨e1, hI1, h0⟩ := h0
 refine tjv (fun v1 : (List (Int × api_Object)) × Int × (List api_Item) => ({ nt := 68, env := [], box := [(1000000, [.d (.mp (mTag 71 1 false true) 9 (rowsF (mRow (iRow .i64) api_Object_row) v1.1)), .d (.int .i64 v1.2.1), .vec 2000000])], vec := [(2000000, ⟨62, 2, rowsF api_Item_row v1.2.2⟩)] } : St)) (fun v1 => .inl v1 = e1) (fun v1 hI1e _ W1 => ?_) ?_
 · subst hI1e
   dsimp only at h0
   refine tr_wk W1 ?_
   refine kr [6] (by simp; rfl) ?_
   cases h0
   exact tr_ret ⟨[], [2000000], by simp, by simp, by simp, by simp, by simp⟩
 · refine tr_block (tr_iter (fun s2 : Int × (List (Int × api_Object)) × Int × (List api_Item) => ({ nt := 68, env := [(0, .ptr 1000000 0), (1, .d (.str a1)), (16, .d (.slice (rowsF api_Item_row (((mget inE a0.objects a2).getD (⟨0, 0, [], [], 0, [], ByteArray.empty, 0⟩ : api_Object)).Items)))), (17, .d (.int .i64 ((((mget inE a0.objects a2).getD (⟨0, 0, [], [], 0, [], ByteArray.empty, 0⟩ : api_Object)).Items).length : Int))), (18, .d (.int .i64 s2.1))], box := [(1000000, [.d (.mp (mTag 71 1 false true) 9 (rowsF (mRow (iRow .i64) api_Object_row) s2.2.1)), .d (.int .i64 s2.2.2.1), .vec 2000000])], vec := [(2000000, ⟨62, 2, rowsF api_Item_row s2.2.2.2⟩)] } : St)) hI1 (wk (by simp [weak_iff])) fun G1 s2 o1 h1 hg1 he1 => ?_)
   unfold walk_walker_tree_o0_2_l0 at h1
   refine kr [0, 1, 16, 17, 18, 19] (by simp; rfl) ?_
   refine tr_seq ?_
   refine tr_cond (b := (decide (s2.1 < ((((mget inE a0.objects a2).getD (⟨0, 0, [], [], 0, [], ByteArray.empty, 0⟩ : api_Object)).Items).length : Int)))) (by simp) (fun c9 => ?_) (fun c9 => ?_)
   · rw [if_pos c9] at h1
     refine tr_skip ?_
     refine tr_seq ?_
     refine tr_block ?_
     replace h1 := bnd h1; obtain ⟨x3, p13, h1⟩ := h1
     replace p13 := idx_some p13
     have p13' := p13; try simp at p13'
     refine kr [0, 1, 8, 16, 17, 18] (by simp [p13, p13']; rfl) ?_
     replace h1 := bnd h1; obtain ⟨_, p14, h1⟩ := h1
     replace p14 := ck_some p14
     have p14' := p14; try simp at p14'
     refine kr [0, 1, 8, 9, 16, 17, 18] (by simp [p14, p14']; rfl) ?_
     refine tr_seq ?_
     refine kd [[], [0], [1], [2], [], [4], [3, 5], [6], [7]] [] [] none [] 9 fol (by decide +kernel) (by simp) ?_
     refine dr_go 0 2 rfl (by simp (maxSteps := 1000000); rfl) ?_
     refine dr_go 2 2 rfl (by simp (maxSteps := 1000000); rfl) ?_
     refine dr_go 4 2 rfl (by simp (maxSteps := 1000000); rfl) ?_
     refine dr_go 6 2 rfl (by simp (maxSteps := 1000000); rfl) ?_
     refine dr_go 8 1 rfl (by simp (maxSteps := 1000000); rfl) ?_
     refine dr_end rfl (tops_nil ?_)
     refine tr_cond (b := ((((mget inE s2.2.1 x3.ID).getD (⟨0, 0, [], [], 0, [], ByteArray.empty, 0⟩ : api_Object)).Kind) == 2)) (by simp) (fun c10 => ?_) (fun c10 => ?_)
     · rw [if_pos c10] at h1
       refine tr_seq ?_
       refine kc ?_
       replace h1 := bnd h1; obtain ⟨_, p15, h1⟩ := h1
       replace p15 := ck_some p15
       have p15' := p15; try simp at p15'
       refine ko [0, 1, 16, 17, 18, 35, 37, 39] 5 (by simp [p15, p15']; rfl) ?_
       replace h1 := bnd h1; obtain ⟨y4, hy4, h1⟩ := h1
       refine kcallV [0, 1, 16, 17, 18, 40] [1000000] [2000000] [2000000] (f0_ok hy4) rfl rfl rfl Tryz.call61 (by simp) (by simp; rfl) ?_
       refine ko [0, 1, 16, 17, 18, 41] 1 (by simp; rfl) ?_
       refine tops_nil ?_
       refine tr_cond (b := (!y4.1)) (by simp) (fun c11 => ?_) (fun c11 => ?_)
       · rw [if_pos c11] at h1
         refine kr [6] (by simp; rfl) ?_
         have k1 := he1 _ (Option.some.inj h1)
         subst k1
         dsimp only at h0
         cases h0
         exact tr_ret ⟨[], [2000000], by simp, by simp, by simp, by simp, by simp⟩
       · rw [if_neg (by rw [c11]; decide)] at h1
         refine tr_skip ?_
         refine tr_exit ?_
         refine lr (by simp; rfl) ?_
         exact ⟨_, hg1 _ (Option.some.inj h1), wk (by simp [weak_iff])⟩
     · rw [if_neg (by rw [c10]; decide)] at h1
       refine tr_skip ?_
       refine tr_seq ?_
       refine kr [0, 1, 8, 9, 16, 17, 18] (by simp; rfl) ?_
       refine kr [0, 1, 8, 9, 16, 17, 18, 53] (by simp; rfl) ?_
       refine tr_cond (b := (decide ((IntKind.i64.wrap (s2.2.2.1 - 1)) < 0))) (by simp) (fun c12 => ?_) (fun c12 => ?_)
       · rw [if_pos c12] at h1
         refine kr [6] (by simp; rfl) ?_
         have k1 := he1 _ (Option.some.inj h1)
         subst k1
         dsimp only at h0
         cases h0
         exact tr_ret ⟨[], [2000000], by simp, by simp, by simp, by simp, by simp⟩
       · rw [if_neg (by rw [c12]; decide)] at h1
         refine tr_skip ?_
         refine kd1 [[], [], [1], [2], [3], [], [], [6], [5, 7], [8], [4, 9], [0, 10], [10, 11], [4, 10, 12]] [10, 13] [(1000000, [10, 13])] (some (10, 2000000)) [58] 14 fol (by decide +kernel) (by simp) ?_
         replace h1 := bnd h1; obtain ⟨_, p18, h1⟩ := h1
         replace p18 := ck_some p18
         have p18' := p18; try simp at p18'
         refine dr_go 0 2 rfl (by simp (maxSteps := 1000000) [p18, p18']; rfl) ?_
         refine dr_go 2 2 rfl (by simp (maxSteps := 1000000) [p18, p18']; rfl) ?_
         refine dr_go 4 2 rfl (by simp (maxSteps := 1000000) [p18, p18']; rfl) ?_
         refine dr_go 6 2 rfl (by simp (maxSteps := 1000000) [p18, p18']; rfl) ?_
         refine dr_go 8 2 rfl (by simp (maxSteps := 1000000) [p18, p18']; rfl) ?_
         refine dr_go 10 2 rfl (by simp (maxSteps := 1000000) [p18, p18']; rfl) ?_
         refine dr_go 12 2 rfl (by simp (maxSteps := 1000000) [p18, p18']; rfl) ?_
         refine dr_end rfl (tops_nil ?_)
         refine lr (by simp; rfl) ?_
         exact ⟨_, hg1 _ (Option.some.inj h1), Wk.trans (wk_ren 64 2000000) (wk (by simp [weak_iff]))⟩
   · rw [if_neg (by rw [c9]; decide)] at h1
     refine tr_exit ?_
     exact ⟨_, he1 _ (Option.some.inj h1), wk (by simp [weak_iff])⟩
set_option maxHeartbeats 1000000 in
theorem walk_walker_tree_o0_2N_ok (n : Nat) : ∀ {a0 : walk_walker} {a1 : ByteArray} {a2 : Int} {r : Bool × walk_walker}, walk_walker_tree_o0_2N n a0 a1 a2 = some r → FnOKv Tryz.prog 61 [[.d (.mp (mTag 71 1 false true) 9 (rowsF (mRow (iRow .i64) api_Object_row) a0.objects)), .d (.int .i64 a0.left), .vec (InV 0)]] [⟨62, 2, rowsF api_Item_row a0.out⟩] [.ptr (InO 0) 0, .d (.str a1), .d (.int .i64 a2)] (.d (.bool r.1)) [[.d (.mp (mTag 71 1 false true) 9 (rowsF (mRow (iRow .i64) api_Object_row) r.2.objects)), .d (.int .i64 r.2.left), .vec (InV 0)]] [⟨62, 2, rowsF api_Item_row r.2.out⟩] := by
 induction n with
 | zero => intro _ _ _ _ h; cases h
 | succ n ih => intro _ _ _ _ h; exact walk_walker_tree_o0_2R_ok ih h
set_option maxHeartbeats 1000000 in
theorem walk_walker_tree_o0_2_ok {a0 : walk_walker} {a1 : ByteArray} {a2 : Int} {r : Bool × walk_walker} (h0 : walk_walker_tree_o0_2 a0 a1 a2 = some r) : FnOKv Tryz.prog 61 [[.d (.mp (mTag 71 1 false true) 9 (rowsF (mRow (iRow .i64) api_Object_row) a0.objects)), .d (.int .i64 a0.left), .vec (InV 0)]] [⟨62, 2, rowsF api_Item_row a0.out⟩] [.ptr (InO 0) 0, .d (.str a1), .d (.int .i64 a2)] (.d (.bool r.1)) [[.d (.mp (mTag 71 1 false true) 9 (rowsF (mRow (iRow .i64) api_Object_row) r.2.objects)), .d (.int .i64 r.2.left), .vec (InV 0)]] [⟨62, 2, rowsF api_Item_row r.2.out⟩] := by
 unfold walk_walker_tree_o0_2 at h0
 split at h0
 · exact walk_walker_tree_o0_2N_ok _ h0
 · cases h0
set_option maxHeartbeats 1000000 in
theorem walk_paths_ok {a0 : List (Int × api_Object)} {a1 : Int} {a2 : Int} {r : (List api_Item) × Bool} (h0 : walk_paths a0 a1 a2 = some r) : FnOK Tryz.prog 29 [] [.d (.mp (mTag 71 1 false true) 9 (rowsF (mRow (iRow .i64) api_Object_row) a0)), .d (.int .i64 a1), .d (.int .i64 a2)] (.tup [.d (.slice (rowsF api_Item_row r.1)), .d (.bool r.2)]) [] := by
 unfold walk_paths at h0
 refine fn_ok (nt := 32) (rs := [.tmp 6, .tmp 7]) Tryz.func29 rfl Tryz.ntmps29 rfl (by simp) (by decide) rfl fun K => ?_
 refine kr [0, 1, 2] (by simp; rfl) ?_
 refine kr [0, 1, 8] (by simp; rfl) ?_
 refine tr_seq ?_
 refine tr_wk (wk_ownbox 12 2 400482 62 2 (by simp; rfl) (by simp) (by simp)) ?_
 refine kd [[], [], [1], [1, 2], [], [], [4, 5], [4, 5, 6], [0, 1, 2, 3, 4, 5, 6, 7], [0, 1, 2, 3, 4, 5, 6, 7]] [] [] none [] 8 fol (by decide +kernel) (by simp) ?_
 refine dr_go 0 2 rfl (by simp (maxSteps := 1000000); rfl) ?_
 replace h0 := bnd h0; obtain ⟨y1, hy1, h0⟩ := h0
 refine dr_call 2 [] (strconv_Itoa_ok hy1) rfl rfl rfl rfl rfl Tryz.call62 (by simp) ?_
 replace h0 := bnd h0; obtain ⟨_, p4, h0⟩ := h0
 replace p4 := ck_some p4
 have p4' := p4; try simp at p4'
 refine dr_go 3 2 rfl (by simp (maxSteps := 1000000) [p4, p4']; rfl) ?_
 refine dr_go 5 2 rfl (by simp (maxSteps := 1000000) [p4, p4']; rfl) ?_
 refine dr_go 7 1 rfl (by simp (maxSteps := 1000000) [p4, p4']; rfl) ?_
 refine dr_end rfl ?_
 replace h0 := bnd h0; obtain ⟨y2, hy2, h0⟩ := h0
 refine kcallV [8, 21] [12] [400482] [400482] (walk_walker_tree_o0_2_ok hy2) rfl rfl rfl Tryz.call61 (by simp) (by simp; rfl) ?_
 refine ko [8, 22] 1 (by simp; rfl) ?_
 refine tops_nil ?_
 refine tr_cond (b := (!y2.1)) (by simp) (fun c1 => ?_) (fun c1 => ?_)
 · rw [if_pos c1] at h0
   refine kr [6, 7] (by simp; rfl) ?_
   cases h0
   exact tr_ret ⟨[], by simp, rfl, by simp⟩
 · rw [if_neg (by rw [c1]; decide)] at h0
   refine tr_skip ?_
   refine kc ?_
   refine ko [8, 26] 4 (by simp; rfl) ?_
   replace h0 := bnd h0; obtain ⟨y3, hy3, h0⟩ := h0
   refine kcallB [8] [] [400482] [(26, 400482)] [(12, 2, 400482)] (slices_SortFunc_api_Item_vec0_at_walk_paths_1_ok hy3) rfl rfl rfl Tryz.call63 (by simp) (by simp) (by simp; rfl) ?_
   refine tops_nil ?_
   refine kr [6, 7] (by simp; rfl) ?_
   cases h0
   exact tr_ret ⟨[400482], by simp, rfl, by simp⟩
set_option maxHeartbeats 1000000 in
theorem slices_Clone_byte_ok {a0 : List Int} {r : List Int} (h0 : slices_Clone_byte a0 = some r) : FnOK Tryz.prog 30 [] [.d (.slice (rowsF (iRow .u8) a0))] (.d (.slice (rowsF (iRow .u8) r))) [] := by
 unfold slices_Clone_byte at h0
 replace h0 := bnd h0; obtain ⟨_, p1, h0⟩ := h0; replace p1 := ck_some p1; cases h0
 refine fn_ok (nt := 8) (rs := [.tmp 2]) Tryz.func30 rfl Tryz.ntmps30 rfl (by simp) (by decide) rfl fun K => ?_
 refine kr [0, 2] (by simp; rfl) ?_
 cases a0 with
 | nil =>
   refine tr_seq ?_
   refine kc ?_
   refine ko [0, 3] 1 (by simp; rfl) ?_
   refine tops_isnil (by simp) rfl rfl (by simp) Tryz.underlying47 (by simp) (by simp) fun b => ?_
   refine tops_nil ?_
   refine tr_cond (b := b) (by simp) (fun cb => ?_) (fun cb => ?_)
   · refine kr [2] (by simp; rfl) ?_
     exact tr_ret ⟨[], by simp, rfl, by simp⟩
   · refine tr_skip ?_
     refine kr [2] (by simp; rfl) ?_
     exact tr_ret ⟨[7], by simp, rfl, by simp⟩
 | cons x l =>
   refine tr_seq ?_
   refine kr [0, 4] (by simp; rfl) ?_
   refine tr_cond (b := false) (by simp) (fun h => by cases h) (fun _ => ?_)
   refine tr_skip ?_
   have p2 := p1; simp at p2
   refine kr [2] (by simp [p1, p2]; rfl) ?_
   exact tr_ret ⟨[7], by simp, rfl, by simp⟩
end Go.Vl
