/- Plain functions that mirror functions of the given program. Conditions: none. -/
import Derived.Test.YtjnflahicimmlaaGreatDoorJPx
import Derived.Test.YtjnflahicimmlaaGreatDoorJhs
import Derived.Test.YtjnflahicimmlaaGreatDoorVmBs
import Derived.Test.YtjnflahicimmlaaGreatDoorJxg
import Derived.Test.YtjnflahicimmlaaGreatDoorVmHg
import Derived.Test.YtjnflahicimmlaaGreatDoorVmLz
import Derived.Test.YtjnflahicimmlaaGreatDoorVmQq
import Derived.Test.YtjnflahicimmlaaGreatDoorJq
import Derived.Test.YtjnflahicimmlaaGreatDoorTyJ
set_option linter.unusedSimpArgs false
set_option linter.unusedVariables false
namespace Go.Vl
open Go
noncomputable def slices_Clone_api_Item (a0 : List api_Item) : Option (List api_Item) :=
 (ck ((a0).length ≤ 268435456)).bind fun _ =>
 some a0
noncomputable def slices_Clone_int (a0 : List Int) : Option (List Int) :=
 (ck ((a0).length ≤ 268435456)).bind fun _ =>
 some a0
noncomputable def walk_Paths (a0 : api_Repository) (a1 : Int) : Option ((List api_Item) × Int) :=
 (history_Valid a0).bind fun y1 =>
 if (y1 != 0) = true then
   some ([], y1)
 else
 (walk_index a0).bind fun y2 =>
 if ((((mget inE y2 a1).getD (⟨0, 0, [], [], 0, [], ByteArray.empty, 0⟩ : api_Object)).Kind) != 3) = true then
   some ([], 6)
 else
 (walk_paths y2 a1 2000).bind fun y3 =>
 if (!y3.2) = true then
   some ([], 3)
 else
   some (y3.1, 0)
noncomputable def law16_awake  : Option (Bool) :=
 (walk_Paths (⟨[(⟨3, 1, [], [], 0, [], ByteArray.empty, 0⟩ : api_Object), (⟨4, 2, [], [(⟨(⟨#[97]⟩ : ByteArray), 3⟩ : api_Item)], 0, [], ByteArray.empty, 0⟩ : api_Object), (⟨5, 2, [], [(⟨(⟨#[100]⟩ : ByteArray), 4⟩ : api_Item)], 0, [], ByteArray.empty, 0⟩ : api_Object), (⟨7, 3, [], [], 5, [], (⟨#[120]⟩ : ByteArray), 0⟩ : api_Object)], []⟩ : api_Repository) 7).bind fun y1 =>
 Option.bind (
   if (y1.2 == 0) = true then
     if (((y1.1).length : Int) == 1) = true then
       (idx y1.1 0).bind fun x3 =>
       some (((x3.Name).toList == ((⟨#[55, 58, 100, 47, 97]⟩ : ByteArray)).toList) && (x3.ID == 3))
     else
       some false
   else
     some false) fun v2 =>
 some v2
noncomputable def object_Copied (a0 : api_Object) : Option (api_Object) :=
 (slices_Clone_byte a0.Data).bind fun y1 =>
 (slices_Clone_api_Item a0.Items).bind fun y2 =>
 (slices_Clone_int a0.Parents).bind fun y3 =>
 some (⟨a0.ID, a0.Kind, y1, y2, a0.Tree, y3, a0.Author, a0.Time⟩ : api_Object)
noncomputable def history_Find (a0 : api_Repository) (a1 : Int) : Option (api_Object × Bool) :=
 (history_Valid a0).bind fun y1 =>
 if (y1 != 0) = true then
   some ((⟨0, 0, [], [], 0, [], ByteArray.empty, 0⟩ : api_Object), false)
 else
 (history_index a0).bind fun y2 =>
 (object_Copied ((mget inE y2.1 a1).getD (⟨0, 0, [], [], 0, [], ByteArray.empty, 0⟩ : api_Object))).bind fun y3 =>
 some (y3, (mget inE y2.1 a1).isSome)
noncomputable def law16_WalkPlaces_l1 (y4 : (List api_Content) × Int) (s11 : Int × Int) : Option (Lp (Int × Int) Int) :=
 if (decide (s11.2 < ((y4.1).length : Int))) = true then
   (idx y4.1 s11.2).bind fun x12 =>
   some (.go (IntKind.i64.wrap (s11.1 + ((x12.Places).length : Int)), IntKind.i64.wrap (s11.2 + 1)))
 else
   some (.out s11.1)
noncomputable def law16_WalkPlaces_l2 (x17 : api_Content) (a1 : Int) (s19 : Int) : Option (Lp Int (Unit ⊕ Bool)) :=
 if (decide (s19 < ((x17.Places).length : Int))) = true then
   Option.bind (
     (idx x17.Places s19).bind fun x21 =>
     if (decide ((bAnd .i64 a1 31) < x21.Time)) = true then
       some true
     else
       some (x21.Source != 0)) fun v20 =>
   if v20 = true then
     some (.out (.inr false))
   else
     some (.go (IntKind.i64.wrap (s19 + 1)))
 else
   some (.out (.inl ()))
noncomputable def law16_WalkPlaces_l0 (y2 : (List api_Content) × Int) (y5 : (List Int)) (y1 : api_Repository × make_Tape) (a1 : Int) (s13 : Int × Int) : Option (Lp (Int × Int) (Int ⊕ Bool)) :=
 if (decide (s13.2 < ((y2.1).length : Int))) = true then
   (idx y5 s13.2).bind fun x14 =>
   (history_Find y1.1 x14).bind fun y15 =>
   Option.bind (
     (idx y2.1 s13.2).bind fun x24 =>
     if (((x24.Places).length : Int) == 0) = true then
       some true
     else
     if (!y15.2) = true then
       some true
     else
       some (!(((bstr y15.1.Data)).toList == ((bstr x24.Data)).toList))) fun v16 =>
   if v16 = true then
     some (.out (.inr false))
   else
   (idx y2.1 s13.2).bind fun x17 =>
   (iter (law16_WalkPlaces_l2 x17 a1) 0).bind fun q23 =>
   match q23 with
   | .inl v18 =>
     some (.go (IntKind.i64.wrap (s13.1 + ((x17.Places).length : Int)), IntKind.i64.wrap (s13.2 + 1)))
   | .inr r22 =>
     some (.out (.inr r22))
 else
   some (.out (.inl s13.1))
noncomputable def law16_WalkPlaces (a0 : List Int) (a1 : Int) : Option (Bool) :=
 (make_Repository (⟨a0, 0⟩ : make_Tape)).bind fun y1 =>
 (walk_Contents y1.1 (bAnd .i64 a1 31)).bind fun y2 =>
 (make_Tape_Next y1.2 9).bind fun y3 =>
 (walk_Contents y1.1 (IntKind.i64.wrap ((bAnd .i64 a1 31) + y3.1))).bind fun y4 =>
 (walk_Blobs y1.1 (bAnd .i64 a1 31)).bind fun y5 =>
 (some ((y2.2 != 0) || ((y4.2 != 0) || ((decide (((y4.1).length : Int) < ((y2.1).length : Int))) || (((y5).length : Int) != ((y2.1).length : Int)))))).bind fun v6 =>
 if v6 = true then
   some false
 else
 (iter (law16_WalkPlaces_l0 y2 y5 y1 a1) (0, 0)).bind fun q26 =>
 match q26 with
 | .inl v7 =>
   (iter (law16_WalkPlaces_l1 y4) (0, 0)).bind fun v8 =>
   Option.bind (
     if (decide (v7 ≤ v8)) = true then
       (law16_awake).bind fun y10 =>
       some y10
     else
       some false) fun v9 =>
   some v9
 | .inr r25 =>
   some r25
end Go.Vl
namespace Go.Vl
open Go Go.Proofs Go.RowKit
theorem hz52x : (Tryz.prog.info? 52).bind (·.zero) = some (.slice none 0 0) := by kernel_rfl
theorem hz52 (w : World) : (zeroValue 52).run Tryz.prog w = .ok (.slice none 0 0) w := by
 have h := hz52x
 cases hi : Tryz.prog.info? 52 with
 | none => rw [hi] at h; cases h
 | some i =>
   rw [hi] at h
   have h : i.zero = some (.slice none 0 0) := h
   simp [zeroValue, typeInfo, hi, h]
theorem hzs56 : zerOf Tryz.prog 56 = some [.d (.int .i64 0), .d (.str ByteArray.empty), .d (.int .i64 0)] := by kernel_rfl
theorem hby56 : byOk Tryz.prog 56 = true := by kernel_rfl
theorem hfl56 : ∀ x, ∀ d ∈ api_Place_row x, FlatD d := fun x d hd => by
 simp only [api_Place_row, List.mem_cons, List.not_mem_nil, or_false] at hd
 rcases hd with rfl | rfl | rfl <;> trivial
theorem lookR_75 {x : Int} {l : List (Int × List api_Place)} : lookR Tryz.prog 52 false false ((mfind inE x l).map fun q => (q.1, [D.slice (rowsF api_Place_row q.2)])) = some (.d (.slice (rowsF api_Place_row ((mget inE l x).getD [])))) := by
 have := lookR_F (P := Tryz.prog) (et := 52) (va := false) (ok := false) (g := slRow api_Place_row) (av := fun v : List api_Place => (.d (.slice (rowsF api_Place_row v)) : AV)) (z := []) (fun v => by simp [packMA]) (by kernel_rfl) (e := inE) (x := x) (l := l)
 simpa using this
open Classical in
set_option maxHeartbeats 2000000 in
theorem walk_Contents_ok {a0 : api_Repository} {a1 : Int} {r : (List api_Content) × Int} (h0 : walk_Contents a0 a1 = some r) : FnOK Tryz.prog 9 [] [.agg (api_Repository_av a0), .d (.int .i64 a1)] (.tup [.d (.slice (rowsF api_Content_row r.1)), .d (.int .i64 r.2)]) [] := by
 unfold walk_Contents at h0
 refine fn_okK (nt := 98) (rs := [.tmp 4, .tmp 5]) Tryz.func9 rfl Tryz.ntmps9 rfl (by simp) (by decide) rfl fun K hK => ?_
 refine kr [1, 2] (by simp; rfl) ?_
 refine tr_seq ?_
 refine kc ?_
 refine ko [1, 2, 20] 1 (by simp; rfl) ?_
 replace h0 := bnd h0; obtain ⟨y1, hy1, h0⟩ := h0
 refine kcall [1, 2, 21] [] (history_Valid_ok hy1) rfl rfl rfl Tryz.call25 (by simp) (by simp; rfl) ?_
 refine ko [1, 2, 6] 1 (by simp; rfl) ?_
 refine tops_nil ?_
 refine kr [1, 2, 6, 23] (by simp; rfl) ?_
 refine tr_cond (b := (y1 != 0)) (by simp) (fun c1 => ?_) (fun c1 => ?_)
 · rw [if_pos c1] at h0
   refine kr [4, 5] (by simp; rfl) ?_
   cases h0
   exact tr_ret ⟨[], by simp, rfl, by simp⟩
 · rw [if_neg (by rw [c1]; decide)] at h0
   refine tr_skip ?_
   replace h0 := bnd h0; obtain ⟨y2, hy2, h0⟩ := h0
   replace h0 := bnd h0; obtain ⟨⟨all, sg⟩, hp, h0⟩ := h0
   replace h0 := bnd h0; obtain ⟨_, hok, h0⟩ := h0
   replace hok := ck_some hok
   obtain ⟨okh, hev⟩ := hok
   dsimp only at h0 okh hev
   refine tr_frzB 2 [.d (.slice (rowsF api_Object_row a0.Objects)), .d (.slice (rowsF api_RefEvent_row a0.Events))] [.slice (rowsF api_Object_row a0.Objects), .slice (rowsF api_RefEvent_row a0.Events)] (by simp) (by simp) hK (by decide) (fun i hi => absurd hi (Nat.not_lt_zero i)) ?_
   refine kheldE (S0 := fun m : List (Int × Int) => ({ nt := 98, env := [(1, .d (.int .i64 a1)), (7, .d (.mp (mTag 71 1 false true) 9 (rowsF (mRow (iRow .i64) api_Object_row) y2))), (8, .d (.mp (mTag 73 1 false false) 2 (rowsF (mRow (iRow .i64) (iRow .i64)) m)))], box := [], vec := [] } : St)) (G := fun m => SeenM a0 all a0.Events.length m) [0, 2] 4 (by simpa using hK) fol (by decide +kernel) rfl rfl rfl (by simp [stillsL, stillB, pureP, pureB]; rfl) (fun K' S F C => ?_) (fun m hm => ?_)
   · refine ho_allT C [1] (by decide +kernel) (by decide) ?_
     refine hallT_cons rfl (kcall [1, 26, 27] [] (walk_index_ok hy2) rfl rfl rfl Tryz.call26 (by simp) (by simp; rfl) (tops_nil ?_)) trivial
     refine ho_allT C [3] (by decide +kernel) (by decide) ?_
     refine hallT_cons rfl (kcallR [1, 26, 28] [] (seen_ok hp okh) rfl rfl rfl Tryz.call27 (by simp) (fun _ => rfl) (fun m => by simp; rfl) fun m hm => tops_nil ?_) trivial
     refine ho_allT C [4] (by decide +kernel) (by decide) ?_
     refine hallT_cons rfl (sl (by simp; rfl) ?_) trivial
     refine ho_allT C [5] (by decide +kernel) (by decide) ?_
     refine hallT_cons rfl (sl (by simp; rfl) ?_) trivial
     exact ho_end C (by decide +kernel) ⟨rfl, m, hm, weak_iff.2 (by simp)⟩
   have hy4 := bef_eq (objs := y2) hm hev 3 a1
   have hy5 := bef_eq (objs := y2) hm hev 1 a1
   have hy4l : (befL a0 all y2 3 a1).length ≤ 1000000 := by unfold befL; exact Nat.le_trans (List.length_filter_le _ _) hev
   generalize befL a0 all y2 3 a1 = y4 at *
   generalize befL a0 all y2 1 a1 = y5 at *
   replace h0 := bnd h0; obtain ⟨o, ho, h0⟩ := h0
   refine kr [1, 7, 8, 9] (by simp; rfl) ?_
   refine kr [1, 7, 8, 9, 10] (by simp; rfl) ?_
   refine tr_seq ?_
   refine kc ?_
   refine ko [1, 7, 8, 9, 10, 30, 31, 32] 3 (by simp; rfl) ?_
   refine kcall [1, 7, 8, 9, 10, 33] [] (walk_before_ok hy4) rfl rfl rfl Tryz.call28 (by simp) (by simp; rfl) ?_
   refine ko [1, 7, 8, 9, 10, 33, 34, 35] 2 (by simp; rfl) ?_
   refine tops_nil ?_
   refine tjv (fun PL : List (Int × List api_Place) => ({ nt := 98, env := [(1, .d (.int .i64 a1)), (7, .d (.mp (mTag 71 1 false true) 9 (rowsF (mRow (iRow .i64) api_Object_row) y2))), (8, .d (.mp (mTag 73 1 false false) 2 (rowsF (mRow (iRow .i64) (iRow .i64)) m))), (9, .d (.mp (mTag 75 1 false false) 2 (rowsF (mRow (iRow .i64) (slRow api_Place_row)) PL)))], box := [], vec := [] } : St)) (fun PL => o = some PL) (fun PL hPL _ W1 => ?_) ?_
   · subst hPL
     dsimp only at h0
     refine tr_wk W1 ?_
     refine kr [1, 7, 8, 9, 17] (by simp; rfl) ?_
     refine tr_seq ?_
     refine kc ?_
     refine ko [7, 9, 17, 75, 76, 77] 3 (by simp; rfl) ?_
     refine kcall [7, 9, 17, 78] [] (walk_before_ok hy5) rfl rfl rfl Tryz.call28 (by simp) (by simp; rfl) ?_
     refine ko [7, 9, 17, 78, 79, 80] 2 (by simp; rfl) ?_
     refine tops_nil ?_
     refine tr_wk (wk_own 17 95 54 2 (by simp) (by simp)) ?_
     replace h0 := bnd h0; obtain ⟨e1, hI1, h0⟩ := h0
     refine tjv (fun v6 : (List api_Content) => ({ nt := 98, env := [(17, .vec 95)], box := [], vec := [(95, ⟨54, 2, rowsF api_Content_row v6⟩)] } : St)) (fun v6 => v6 = e1) (fun v6 hI1e _ W1 => ?_) ?_
     · subst hI1e
       refine tr_wk W1 ?_
       refine kr [4, 5] (by simp; rfl) ?_
       cases h0
       exact tr_ret ⟨[95], by simp, rfl, by simp⟩
     · refine tr_block (tr_iter (fun s7 : Int × (List api_Content) => ({ nt := 98, env := [(7, .d (.mp (mTag 71 1 false true) 9 (rowsF (mRow (iRow .i64) api_Object_row) y2))), (9, .d (.mp (mTag 75 1 false false) 2 (rowsF (mRow (iRow .i64) (slRow api_Place_row)) PL))), (17, .vec 95), (78, .d (.slice (rowsF (iRow .i64) y5))), (79, .d (.int .i64 ((y5).length : Int))), (80, .d (.int .i64 s7.1))], box := [], vec := [(95, ⟨54, 2, rowsF api_Content_row s7.2⟩)] } : St)) hI1 (wk (by simp [weak_iff])) fun G1 s7 o1 h1 hg1 he1 => ?_)
       unfold walk_Contents_l0 at h1
       refine kr [7, 9, 17, 78, 79, 80, 81] (by simp; rfl) ?_
       refine tr_seq ?_
       refine tr_cond (b := (decide (s7.1 < ((y5).length : Int)))) (by simp) (fun c5 => ?_) (fun c5 => ?_)
       · rw [if_pos c5] at h1
         refine tr_skip ?_
         refine tr_seq ?_
         refine tr_block ?_
         replace h1 := bnd h1; obtain ⟨x8, p12, h1⟩ := h1
         replace p12 := idx_some p12
         have p12' := p12; try simp at p12'
         refine kr [7, 9, 17, 19, 78, 79, 80] (by simp [p12, p12']; rfl) ?_
         refine tr_wk (wk_ren 95 700095) ?_
         refine kd1 [[], [], [], [1, 2], [3], [4], [], [], [6, 7], [5, 8], [9], [0, 10], [0, 11]] [] [] (some (11, 700095)) [17, 84] 13 fol (by decide +kernel) (by simp) ?_
         refine dr_go 0 2 rfl (by simp (maxSteps := 1000000); rfl) ?_
         refine dr_go 2 2 rfl (by simp (maxSteps := 1000000); rfl) ?_
         refine dr_go 4 1 rfl (by simp (maxSteps := 1000000); rfl) ?_
         replace h1 := bnd h1; obtain ⟨y9, hy9, h1⟩ := h1
         refine dr_call 5 [] (slices_Clone_byte_ok hy9) rfl rfl rfl rfl rfl Tryz.call30 (by simp) ?_
         replace h1 := bnd h1; obtain ⟨_, p16, h1⟩ := h1
         replace p16 := ck_some p16
         have p16' := p16; try simp at p16'
         refine dr_go 6 2 rfl (by simp (maxSteps := 1000000) [p16, p16', lookR_75]; rfl) ?_
         refine dr_go 8 2 rfl (by simp (maxSteps := 1000000) [p16, p16', lookR_75]; rfl) ?_
         refine dr_go 10 2 rfl (by simp (maxSteps := 1000000) [p16, p16', lookR_75]; rfl) ?_
         refine dr_go 12 1 rfl (by simp (maxSteps := 1000000) [p16, p16', lookR_75]; rfl) ?_
         refine dr_end rfl (tops_nil ?_)
         refine lr (by simp; rfl) ?_
         exact ⟨_, hg1 _ (Option.some.inj h1), wk (by simp [weak_iff])⟩
       · rw [if_neg (by rw [c5]; decide)] at h1
         refine tr_exit ?_
         exact ⟨_, he1 _ (Option.some.inj h1), wk (by simp [weak_iff])⟩
   · intro a w p R
     have hKi : K.ios = [] := List.eq_nil_of_length_eq_zero hK
     obtain ⟨b, H⟩ := HI.start (α := api_Place) (f := api_Place_row) (kd := .i64) (e := 56) (z := 3) (t := 9) (st' := ({ nt := 98, env := [(1, .d (.int .i64 a1)), (7, .d (.mp (mTag 71 1 false true) 9 (rowsF (mRow (iRow .i64) api_Object_row) y2))), (8, .d (.mp (mTag 73 1 false false) 2 (rowsF (mRow (iRow .i64) (iRow .i64)) m))), (10, .d (.int .i64 2000)), (33, .d (.slice (rowsF (iRow .i64) y4))), (34, .d (.int .i64 (y4.length : Int))), (35, .d (.int .i64 0))], box := [], vec := [] } : St)) R hKi (n := 29) (tm := 75) (by simp [get]) (by simp [get]) (by simp [weak_iff]) (by simp [St.lv, get])
     refine wp_block (wp_loop_ghost (fun n a w => ∃ (i : Nat) (left : Int) (tot : Nat) (PL : List (Int × List api_Place)), HI K .i64 api_Place_row 56 3 9 b PL ({ nt := 98, env := [(1, .d (.int .i64 a1)), (7, .d (.mp (mTag 71 1 false true) 9 (rowsF (mRow (iRow .i64) api_Object_row) y2))), (8, .d (.mp (mTag 73 1 false false) 2 (rowsF (mRow (iRow .i64) (iRow .i64)) m))), (10, .d (.int .i64 left)), (33, .d (.slice (rowsF (iRow .i64) y4))), (34, .d (.int .i64 (y4.length : Int))), (35, .d (.int .i64 (i : Int)))], box := [], vec := [] } : St) a w ∧ contPlaces y2 (fun c => (seenF a0 all a0.Events.length c).getD 0) (y4.drop i) left tot PL = some o ∧ (∀ id l, mget inE PL id = some l → l.length ≤ tot) ∧ i ≤ y4.length ∧ n = y4.length - i) y4.length ⟨0, 2000, 0, [], H, ho, fun id l h => by simp [mget, mfind] at h, Nat.zero_le _, rfl⟩ fun n a w ⟨i, left, tot, PL, H, hc, hlen, hi, hn⟩ => ?_)
     refine H.reg (fun K' => ko [1, 7, 8, 10, 33, 34, 35, 36] 1 (by simp; rfl) tops_end) (by simp) fun a w H => ?_
     have h36 := H.bool (s := 36) (c := decide ((i : Int) < (y4.length : Int))) (by simp [St.look, get])
     refine wp_seq (wp_cond_split h36 (fun hch => wp_skip (then_norm ?_)) fun hch => wp_exit ?_)
     case refine_2 =>
       have hil : i = y4.length := by have := of_decide_eq_false hch; omega
       subst hil
       rw [List.drop_eq_nil_of_le (Nat.le_refl _)] at hc
       have ho2 : o = some PL := (Option.some.inj hc).symm
       obtain ⟨p', R'⟩ := H.show (tm := 75) (fun _ => rfl)
       refine then_exit (then_exit (exit_in ?_))
       exact ⟨_, p', R', PL, ho2, wk (by simp [weak_iff, St.put])⟩
     have hil : i < y4.length := by have := of_decide_eq_true hch; omega
     obtain ⟨c, hcc⟩ : ∃ c, y4[i]? = some c := ⟨_, List.getElem?_eq_getElem hil⟩
     have hdrop : y4.drop i = c :: y4.drop (i + 1) := by
       rw [List.getElem?_eq_getElem hil] at hcc
       rw [List.drop_eq_getElem_cons hil, Option.some.inj hcc]
     rw [hdrop] at hc
     unfold contPlaces at hc
     replace hc := bnd hc; obtain ⟨rr, hrr, hc⟩ := hc
     refine wp_seq (wp_block ?_)
     refine H.reg (fun K' => ko [1, 7, 8, 10, 12, 33, 34, 35] 3 (by simp [hcc]; rfl) tops_end) (by simp) fun a w H => ?_
     refine H.reg (fun K' => ko [1, 7, 8, 10, 12, 33, 34, 35, 40, 41, 42] 3 (by simp; rfl) (kcall [1, 7, 8, 10, 12, 33, 34, 35, 43] [] (walk_paths_ok hrr) rfl rfl rfl Tryz.call29 (by simp) (by simp; rfl) (ko [1, 7, 8, 10, 12, 13, 14, 33, 34, 35] 5 (by simp; rfl) tops_end))) (by simp) fun a w H => ?_
     refine wp_seq (H.reg (fun K' => ko [1, 7, 8, 10, 12, 13, 33, 34, 35, 47] 2 (by simp; rfl) tops_end) (by simp) fun a w H => ?_)
     have h47 := H.bool (s := 47) (c := !rr.2) (by simp [St.look, get])
     refine wp_cond_split h47 (fun hch2 => ?_) fun hch2 => wp_skip (then_norm ?_)
     · rw [if_pos (by simpa using hch2)] at hc
       have ho2 : o = none := (Option.some.inj hc).symm
       subst ho2
       cases h0
       obtain ⟨p', R'⟩ := H.back
       refine wp_tr (Q := fun e s => e = .ret ∧ FinQ Tryz.prog [ResultVar.tmp 4, ResultVar.tmp 5] (AV.tup [AV.d (D.slice (rowsF api_Content_row [])), AV.d (D.int IntKind.i64 3)]) [] .ret s) R' (kr [4, 5] (by simp; rfl) (tr_ret ⟨rfl, [], by simp, rfl, by simp⟩)) fun e s a' w' p' R' ⟨he, hq⟩ => ?_
       subst he
       exact ⟨s, p', R', hq⟩
     rw [if_neg (by simpa using hch2)] at hc
     replace hc := bnd hc; obtain ⟨_, hck, hc⟩ := hc
     replace hck := ck_some hck
     have hsf : (seenF a0 all a0.Events.length c).getD 0 = (mget inE m c).getD 0 := by rw [hm.eq]
     rw [hsf] at hc
     refine H.reg (fun K' => ko [1, 7, 8, 10, 12, 13, 33, 34, 35] 5 (by simp; rfl) tops_end) (by simp) fun a w H => ?_
     refine H.reg (fun K' => ko [1, 7, 8, 10, 12, 33, 34, 35, 52, 53, 54] 3 (by simp; rfl) tops_end) (by simp) fun a w H => ?_
     refine wp_block (wp_loop_ghost (fun n a w => ∃ (j : Nat) (PL' : List (Int × List api_Place)), HI K .i64 api_Place_row 56 3 9 b PL' ({ nt := 98, env := [(1, .d (.int .i64 a1)), (7, .d (.mp (mTag 71 1 false true) 9 (rowsF (mRow (iRow .i64) api_Object_row) y2))), (8, .d (.mp (mTag 73 1 false false) 2 (rowsF (mRow (iRow .i64) (iRow .i64)) m))), (10, .d (.int .i64 (IntKind.i64.wrap (left - (rr.1.length : Int))))), (12, .d (.int .i64 c)), (33, .d (.slice (rowsF (iRow .i64) y4))), (34, .d (.int .i64 (y4.length : Int))), (35, .d (.int .i64 (i : Int))), (52, .d (.slice (rowsF api_Item_row rr.1))), (53, .d (.int .i64 (rr.1.length : Int))), (54, .d (.int .i64 (j : Int)))], box := [], vec := [] } : St) a w ∧ (rr.1.drop j).foldl (placeAt ((mget inE m c).getD 0)) PL' = rr.1.foldl (placeAt ((mget inE m c).getD 0)) PL ∧ (∀ id l, mget inE PL' id = some l → l.length ≤ tot + j) ∧ j ≤ rr.1.length ∧ n = rr.1.length - j) rr.1.length ⟨0, PL, H, rfl, hlen, Nat.zero_le _, rfl⟩ fun n2 a w ⟨j, PL', H, hfold, hlen', hj, hn2⟩ => ?_)
     refine H.reg (fun K' => ko [1, 7, 8, 10, 12, 33, 34, 35, 52, 53, 54, 55] 1 (by simp; rfl) tops_end) (by simp) fun a w H => ?_
     have h55 := H.bool (s := 55) (c := decide ((j : Int) < (rr.1.length : Int))) (by simp [St.look, get])
     refine wp_seq (wp_cond_split h55 (fun hch => wp_skip (then_norm ?_)) fun hch => wp_exit ?_)
     case refine_2 =>
       have hjl : j = rr.1.length := by have := of_decide_eq_false hch; omega
       subst hjl
       rw [List.drop_eq_nil_of_le (Nat.le_refl _), List.foldl_nil] at hfold
       subst hfold
       have hw : IntKind.i64.wrap ((i : Int) + 1) = (i : Int) + 1 := w64 (by omega) (by omega)
       refine then_exit (then_exit (exit_in (norm_in (then_norm ?_))))
       refine H.regL (fun K' => ko [1, 7, 8, 10, 33, 34, 35] 2 (by simp; rfl) tops_end) (by simp) fun a w H => ?_
       exact ⟨y4.length - (i + 1), by omega, i + 1, _, _, _, H.weak (by simp [weak_iff, hw]), hc, hlen', by omega, rfl⟩
     have hjl : j < rr.1.length := by have := of_decide_eq_true hch; omega
     obtain ⟨x, hxx⟩ : ∃ x, rr.1[j]? = some x := ⟨_, List.getElem?_eq_getElem hjl⟩
     have hdr2 : rr.1.drop j = x :: rr.1.drop (j + 1) := by
       rw [List.getElem?_eq_getElem hjl] at hxx
       rw [List.drop_eq_getElem_cons hjl, Option.some.inj hxx]
     rw [hdr2, List.foldl_cons] at hfold
     refine wp_seq (wp_block ?_)
     refine H.reg (fun K' => ko [1, 7, 8, 10, 12, 16, 33, 34, 35, 52, 53, 54] 4 (by simp [hxx]; rfl) tops_end) (by simp) fun a w H => ?_
     have H := H.frzB (n := 16) (cs := api_Item_av x) (row := api_Item_row x) (by simp [get]) (by simp) (by decide)
     have H := H.weak (st' := ({ nt := 98, env := [(1, .d (.int .i64 a1)), (7, .d (.mp (mTag 71 1 false true) 9 (rowsF (mRow (iRow .i64) api_Object_row) y2))), (8, .d (.mp (mTag 73 1 false false) 2 (rowsF (mRow (iRow .i64) (iRow .i64)) m))), (10, .d (.int .i64 (IntKind.i64.wrap (left - (rr.1.length : Int))))), (12, .d (.int .i64 c)), (16, .cptr (api_Item_row x) 0), (33, .d (.slice (rowsF (iRow .i64) y4))), (34, .d (.int .i64 (y4.length : Int))), (35, .d (.int .i64 (i : Int))), (52, .d (.slice (rowsF api_Item_row rr.1))), (53, .d (.int .i64 (rr.1.length : Int))), (54, .d (.int .i64 (j : Int)))], box := [], vec := [] } : St)) (by simp [weak_iff, St.frzB])
     refine wp_mono (Q := fun e a w => e = .normal ∧ HI K .i64 api_Place_row 56 3 9 b (placeAt ((mget inE m c).getD 0) PL' x) ({ nt := 98, env := [(1, .d (.int .i64 a1)), (7, .d (.mp (mTag 71 1 false true) 9 (rowsF (mRow (iRow .i64) api_Object_row) y2))), (8, .d (.mp (mTag 73 1 false false) 2 (rowsF (mRow (iRow .i64) (iRow .i64)) m))), (10, .d (.int .i64 (IntKind.i64.wrap (left - (rr.1.length : Int))))), (12, .d (.int .i64 c)), (33, .d (.slice (rowsF (iRow .i64) y4))), (34, .d (.int .i64 (y4.length : Int))), (35, .d (.int .i64 (i : Int))), (52, .d (.slice (rowsF api_Item_row rr.1))), (53, .d (.int .i64 (rr.1.length : Int))), (54, .d (.int .i64 (j : Int)))], box := [], vec := [] } : St) a w) (H.draw (st' := ({ nt := 98, env := [(1, .d (.int .i64 a1)), (7, .d (.mp (mTag 71 1 false true) 9 (rowsF (mRow (iRow .i64) api_Object_row) y2))), (8, .d (.mp (mTag 73 1 false false) 2 (rowsF (mRow (iRow .i64) (iRow .i64)) m))), (10, .d (.int .i64 (IntKind.i64.wrap (left - (rr.1.length : Int))))), (12, .d (.int .i64 c)), (16, .cptr (api_Item_row x) 0), (33, .d (.slice (rowsF (iRow .i64) y4))), (34, .d (.int .i64 (y4.length : Int))), (35, .d (.int .i64 (i : Int))), (52, .d (.slice (rowsF api_Item_row rr.1))), (53, .d (.int .i64 (rr.1.length : Int))), (54, .d (.int .i64 (j : Int)))], box := [], vec := [] } : St)) (by simp [weak_iff]) hKi fol fun K' p' es clock w' k1 k2 k3 R H6 hreg hsee => ?_) fun e a w ⟨he, H⟩ => ?_
     case refine_2 =>
       subst he
       have hw : IntKind.i64.wrap ((j : Int) + 1) = (j : Int) + 1 := w64 (by omega) (by omega)
       refine norm_in (then_norm ?_)
       refine H.regL (fun K' => ko [1, 7, 8, 10, 12, 33, 34, 35, 52, 53, 54] 2 (by simp; rfl) tops_end) (by simp) fun a w H => ?_
       refine ⟨rr.1.length - (j + 1), by omega, j + 1, _, H.weak (by simp [weak_iff, hw]), hfold, fun id l hl => ?_, by omega, rfl⟩
       unfold placeAt at hl
       obtain ⟨g1, g2⟩ := mget_mset inE_eq PL' x.ID ((mget inE PL' x.ID).getD [] ++ [⟨0, x.Name, (mget inE m c).getD 0⟩]) id
       by_cases hid : id = x.ID
       · rw [g1 hid] at hl
         cases hl
         cases hq : mget inE PL' x.ID with
         | none => simp; omega
         | some q => have := hlen' _ _ hq; simp; omega
       · rw [g2 hid] at hl
         have := hlen' _ _ hl
         omega
     have e9 := hreg
     refine (?_ : wpAnyH Tryz.prog .any _ _ _ (15 + 1) _ a w')
     refine take_mv (i := 0) rfl (by decide +kernel) (by decide +kernel) (by decide +kernel) (fun c a w q => absurd q.1 (by simp)) rfl rfl rfl e9 (SeeS.of k1 R) ?_
     have e58 : (a.put (some 58) (.map (some b))).eval (.tmp 58) = .map (some b) := eval_put_eq (by rw [R.nt]; simp)
     have e9 : (a.put (some 58) (.map (some b))).eval (.tmp 9) = .map (some b) := (eval_put_ne (by simp)).trans e9
     have R2 := R.put (d := 58) (x := .undef) (v := .map (some b)) .undef (by simp)
     generalize a.put (some 58) (.map (some b)) = a at *
     refine (?_ : wpAnyH Tryz.prog .any _ _ _ (14 + 1) _ a w')
     refine take_mv (i := 3) rfl (by decide +kernel) (by decide +kernel) (by decide +kernel) (fun c a w q => absurd q.1 (by simp)) rfl rfl rfl e9 (SeeS.of k1 R) ?_
     have e61 : (a.put (some 61) (.map (some b))).eval (.tmp 61) = .map (some b) := eval_put_eq (by rw [R2.nt]; simp [St.put])
     have e9 : (a.put (some 61) (.map (some b))).eval (.tmp 9) = .map (some b) := (eval_put_ne (by simp)).trans e9
     have e58 : (a.put (some 61) (.map (some b))).eval (.tmp 58) = .map (some b) := (eval_put_ne (by simp)).trans e58
     have R3 := R2.put (d := 61) (x := .undef) (v := .map (some b)) .undef (by simp [St.put])
     generalize a.put (some 61) (.map (some b)) = a at *
     clear R2
     refine stills_runK [9, 58, 61] (by decide +kernel) (fun c a w q => absurd q.1 (by simp)) (fun w2 h q hq => see_of_block (h.agree k1 R hsee _ hq)) (SeeS.of k1 R) (n := 6) [1, 2, 4, 5, 7, 8, 9, 10] _ _ _ (by decide +kernel) (noT_spec (by decide +kernel)) R3 (stills_of3 rfl rfl rfl (by simp [stillsL, stillB, pureP, pureB, St.put]; rfl)) fun a4 R4 hk => ?_
     have e9 : a4.eval (.tmp 9) = .map (some b) := (hk 9 (by simp)).trans e9
     have e58 : a4.eval (.tmp 58) = .map (some b) := (hk 58 (by simp)).trans e58
     have e61 : a4.eval (.tmp 61) = .map (some b) := (hk 61 (by simp)).trans e61
     clear hk R3
     refine (?_ : wpAnyH Tryz.prog .any _ _ _ (5 + 1) _ a4 w')
     refine take_look (i := 11) R4 rfl (by decide +kernel) (by decide +kernel) (by decide +kernel) (fun c a w q => absurd q.1 (by simp)) rfl rfl rfl Tryz.underlying73 rfl (by simp [lookA]; rfl) (fun w2 h => h.agree k1 R hsee) (SeeS.of k1 R) (by simp) fun u5 R5 => ?_
     have e9 : (a4.put (some 69) u5).eval (.tmp 9) = .map (some b) := (eval_put_ne (by simp)).trans e9
     have e58 : (a4.put (some 69) u5).eval (.tmp 58) = .map (some b) := (eval_put_ne (by simp)).trans e58
     have e61 : (a4.put (some 69) u5).eval (.tmp 61) = .map (some b) := (eval_put_ne (by simp)).trans e61
     generalize a4.put (some 69) u5 = a5 at *
     clear R4
     refine (?_ : wpAnyH Tryz.prog .any _ _ _ (4 + 1) _ a5 w')
     refine take_build (i := 12) R5 rfl (by decide +kernel) (by decide +kernel) (by decide +kernel) (fun c a w q => absurd q.1 (by simp)) rfl rfl rfl (by simp [buildA, St.put]; rfl) (SeeS.of k1 R) (by simp [St.put]) fun u6 R6 => ?_
     have e9 : (a5.put (some 70) u6).eval (.tmp 9) = .map (some b) := (eval_put_ne (by simp)).trans e9
     have e58 : (a5.put (some 70) u6).eval (.tmp 58) = .map (some b) := (eval_put_ne (by simp)).trans e58
     have e61 : (a5.put (some 70) u6).eval (.tmp 61) = .map (some b) := (eval_put_ne (by simp)).trans e61
     generalize a5.put (some 70) u6 = a6 at *
     have e60 : a6.eval (.tmp 60) = .int .i64 x.ID := wp_int R6 (by simp [St.look, get, St.put])
     have e63 : a6.eval (.tmp 63) = .int .i64 x.ID := wp_int R6 (by simp [St.look, get, St.put])
     clear R5
     have hsz : ∀ l, mget inE PL' x.ID = some l → l.length + 1 ≤ 268435456 := fun l hl => by have := hlen' _ _ hl; omega
     refine wpAnyH_all (rs := [6, 13]) (by decide +kernel) (by simp) fun i hi => ?_
     simp only [List.mem_cons, List.not_mem_nil, or_false] at hi
     rcases hi with rfl | rfl
     · obtain ⟨v, hrun, hv, _⟩ := H6.find (P := Tryz.prog) Tryz.underlying75 Tryz.underlying3 hz52 x.ID
       refine wpOp_val (v := v) (w' := w') rfl rfl (by simp [execOp, e61, e63, hrun]) ⟨SeeS.of k1 R, ?_⟩
       have R7 := R6.put (d := 64) (x := .undef) (v := v) .undef (by simp [St.put])
       have e64 : (a6.put (some 64) v).eval (.tmp 64) = v := eval_put_eq (by rw [R6.nt]; simp [St.put])
       have e9 : (a6.put (some 64) v).eval (.tmp 9) = _ := (eval_put_ne (by simp)).trans e9
       have e58 : (a6.put (some 64) v).eval (.tmp 58) = _ := (eval_put_ne (by simp)).trans e58
       have e60 : (a6.put (some 64) v).eval (.tmp 60) = _ := (eval_put_ne (by simp)).trans e60
       refine (?_ : wpAnyH Tryz.prog .any _ _ _ (2 + 1) _ (a6.put (some 64) v) w')
       generalize a6.put (some 64) v = a7 at *
       refine wpAnyH_all (rs := [13]) (by decide +kernel) (by simp) fun i hi => ?_
       rw [List.mem_singleton.1 hi]
       refine wpOp_step R7 rfl rfl rfl (by simp [St.put]; rfl) fun u w8 p8 R8 => ⟨SeeS.of k1 R8, ?_⟩
       have e64 : (a7.put (some 71) u).eval (.tmp 64) = _ := (eval_put_ne (by simp)).trans e64
       have e9 : (a7.put (some 71) u).eval (.tmp 9) = _ := (eval_put_ne (by simp)).trans e9
       have e58 : (a7.put (some 71) u).eval (.tmp 58) = _ := (eval_put_ne (by simp)).trans e58
       have e60 : (a7.put (some 71) u).eval (.tmp 60) = _ := (eval_put_ne (by simp)).trans e60
       exact place_tail (x := (⟨0, x.Name, (mget inE m c).getD 0⟩ : api_Place)) k1 hKi k2 k3 R8 (H6.keep k1 R R8) Tryz.underlying75 Tryz.underlying3 hz52 Tryz.underlying52 hzs56 rfl (by decide) hby56 hfl56 (fun _ => rfl) x.ID hv (i1 := 14) (i2 := 15) rfl rfl rfl rfl rfl rfl rfl rfl (by decide +kernel) (by decide +kernel) (by decide +kernel) e58 e60 e64 e9 (by decide) (by decide) (by decide) (by simp [St.put]) (by simp [St.put]) hsz (by simp [weak_iff, St.put])
     · refine wpOp_step R6 rfl rfl rfl (by simp [St.put]; rfl) fun u w7 p7 R7 => ⟨SeeS.of k1 R7, ?_⟩
       have e9 : (a6.put (some 71) u).eval (.tmp 9) = _ := (eval_put_ne (by simp)).trans e9
       have e58 : (a6.put (some 71) u).eval (.tmp 58) = _ := (eval_put_ne (by simp)).trans e58
       have e60 : (a6.put (some 71) u).eval (.tmp 60) = _ := (eval_put_ne (by simp)).trans e60
       have e61 : (a6.put (some 71) u).eval (.tmp 61) = _ := (eval_put_ne (by simp)).trans e61
       have e63 : (a6.put (some 71) u).eval (.tmp 63) = _ := (eval_put_ne (by simp)).trans e63
       refine (?_ : wpAnyH Tryz.prog .any _ _ _ (2 + 1) _ (a6.put (some 71) u) w7)
       generalize a6.put (some 71) u = a7 at *
       refine wpAnyH_all (rs := [6]) (by decide +kernel) (by simp) fun i hi => ?_
       rw [List.mem_singleton.1 hi]
       have H7 := H6.keep k1 R R7
       obtain ⟨v, hrun, hv, _⟩ := H7.find (P := Tryz.prog) Tryz.underlying75 Tryz.underlying3 hz52 x.ID
       refine wpOp_val (v := v) (w' := w7) rfl rfl (by simp [execOp, e61, e63, hrun]) ⟨SeeS.of k1 R7, ?_⟩
       have R8 := R7.put (d := 64) (x := .undef) (v := v) .undef (by simp [St.put])
       have e64 : (a7.put (some 64) v).eval (.tmp 64) = v := eval_put_eq (by rw [R7.nt]; simp [St.put])
       have e9 : (a7.put (some 64) v).eval (.tmp 9) = _ := (eval_put_ne (by simp)).trans e9
       have e58 : (a7.put (some 64) v).eval (.tmp 58) = _ := (eval_put_ne (by simp)).trans e58
       have e60 : (a7.put (some 64) v).eval (.tmp 60) = _ := (eval_put_ne (by simp)).trans e60
       exact place_tail (x := (⟨0, x.Name, (mget inE m c).getD 0⟩ : api_Place)) k1 hKi k2 k3 R8 (H6.keep k1 R R8) Tryz.underlying75 Tryz.underlying3 hz52 Tryz.underlying52 hzs56 rfl (by decide) hby56 hfl56 (fun _ => rfl) x.ID hv (i1 := 14) (i2 := 15) rfl rfl rfl rfl rfl rfl rfl rfl (by decide +kernel) (by decide +kernel) (by decide +kernel) e58 e60 e64 e9 (by decide) (by decide) (by decide) (by simp [St.put]) (by simp [St.put]) hsz (by simp [weak_iff, St.put])
open Classical in
theorem walk_Blobs_ok {a0 : api_Repository} {a1 : Int} {r : List Int} (h0 : walk_Blobs a0 a1 = some r) : FnOK Tryz.prog 13 [] [.agg (api_Repository_av a0), .d (.int .i64 a1)] (.d (.slice (rowsF (iRow .i64) r))) [] := by
 unfold walk_Blobs at h0
 refine fn_okK (nt := 14) (rs := [.tmp 4]) Tryz.func13 rfl Tryz.ntmps13 rfl (by simp) (by decide) rfl fun K hK => ?_
 refine kr [1, 2] (by simp; rfl) ?_
 refine tr_seq ?_
 refine kc ?_
 refine ko [1, 2, 5] 1 (by simp; rfl) ?_
 replace h0 := bnd h0; obtain ⟨y1, hy1, h0⟩ := h0
 refine kcall [1, 2, 6] [] (history_Valid_ok hy1) rfl rfl rfl Tryz.call25 (by simp) (by simp; rfl) ?_
 refine ko [1, 2, 7] 1 (by simp; rfl) ?_
 refine tops_nil ?_
 refine tr_cond (b := (y1 != 0)) (by simp) (fun c1 => ?_) (fun c1 => ?_)
 · rw [if_pos c1] at h0
   refine kr [4] (by simp; rfl) ?_
   cases h0
   exact tr_ret ⟨[], by simp, rfl, by simp⟩
 · rw [if_neg (by rw [c1]; decide)] at h0
   refine tr_skip ?_
   replace h0 := bnd h0; obtain ⟨y2, hy2, h0⟩ := h0
   replace h0 := bnd h0; obtain ⟨⟨all, sg⟩, hp, h0⟩ := h0
   replace h0 := bnd h0; obtain ⟨_, hok, h0⟩ := h0
   replace hok := ck_some hok
   obtain ⟨okh, hev⟩ := hok
   dsimp only at h0 okh hev
   refine tr_frzB 2 [.d (.slice (rowsF api_Object_row a0.Objects)), .d (.slice (rowsF api_RefEvent_row a0.Events))] [.slice (rowsF api_Object_row a0.Objects), .slice (rowsF api_RefEvent_row a0.Events)] (by simp) (by simp) hK (by decide) (fun i hi => absurd hi (Nat.not_lt_zero i)) ?_
   refine kheldE (S0 := fun _ : Unit => ({ nt := 14, env := [(4, .d (.slice (rowsF (iRow .i64) (befL a0 all y2 1 a1))))], box := [], vec := [] } : St)) (G := fun _ => True) [0, 2, 4] 4 (by simpa using hK) fol (by decide +kernel) rfl rfl rfl (by simp [stillsL, stillB, pureP, pureB]; rfl) (fun K' S F C => ?_) (fun _ _ => ?_)
   · refine ho_allT C [1] (by decide +kernel) (by decide) ?_
     refine hallT_cons rfl (kcallR [9, 10, 12] [] (seen_ok hp okh) rfl rfl rfl Tryz.call27 (by simp) (fun _ => rfl) (fun m => by simp; rfl) fun m hm => tops_nil ?_) trivial
     refine ho_allT C [3] (by decide +kernel) (by decide) ?_
     refine hallT_cons rfl (kcall [9, 11, 12] [] (walk_index_ok hy2) rfl rfl rfl Tryz.call26 (by simp) (by simp; rfl) (tops_nil ?_)) trivial
     refine ho_allT C [5] (by decide +kernel) (by decide) ?_
     refine hallT_cons rfl (kcall [13] [] (walk_before_ok (bef_eq (objs := y2) hm hev 1 a1)) rfl rfl rfl Tryz.call28 (by simp) (by simp; rfl) (tops_nil ?_)) trivial
     refine ho_allT C [6] (by decide +kernel) (by decide) ?_
     refine hallT_cons rfl (sl (by simp; rfl) ?_) trivial
     exact ho_end C (by decide +kernel) ⟨rfl, (), trivial, weak_iff.2 (by simp)⟩
   · cases h0
     exact tr_ret ⟨[], by simp, rfl, by simp⟩
end Go.Vl
namespace Go.Vl
open Go Go.Proofs
set_option maxHeartbeats 1000000 in
theorem slices_Clone_api_Item_ok {a0 : List api_Item} {r : List api_Item} (h0 : slices_Clone_api_Item a0 = some r) : FnOK Tryz.prog 54 [] [.d (.slice (rowsF api_Item_row a0))] (.d (.slice (rowsF api_Item_row r))) [] := by
 unfold slices_Clone_api_Item at h0
 replace h0 := bnd h0; obtain ⟨_, p1, h0⟩ := h0; replace p1 := ck_some p1; cases h0
 refine fn_ok (nt := 8) (rs := [.tmp 2]) Tryz.func54 rfl Tryz.ntmps54 rfl (by simp) (by decide) rfl fun K => ?_
 refine kr [0, 2] (by simp; rfl) ?_
 cases a0 with
 | nil =>
   refine tr_seq ?_
   refine kc ?_
   refine ko [0, 3] 1 (by simp; rfl) ?_
   refine tops_isnil (by simp) rfl rfl (by simp) Tryz.underlying41 (by simp) (by simp) fun b => ?_
   refine tops_nil ?_
   refine tr_cond (b := b) (by simp) (fun cb => ?_) (fun cb => ?_)
   · refine kr [2] (by simp; rfl) ?_
     exact tr_ret ⟨[], by simp, rfl, by simp⟩
   · refine tr_skip ?_
     refine kr [2] (by simp; rfl) ?_
     exact tr_ret ⟨[7], by simp, rfl, by simp⟩
 | cons x l =>
   refine tr_seq ?_
   refine kr [0, 4] (by simp; rfl) ?_
   refine tr_cond (b := false) (by simp) (fun h => by cases h) (fun _ => ?_)
   refine tr_skip ?_
   have p2 := p1; simp at p2
   refine kr [2] (by simp [p1, p2]; rfl) ?_
   exact tr_ret ⟨[7], by simp, rfl, by simp⟩
set_option maxHeartbeats 1000000 in
theorem slices_Clone_int_ok {a0 : List Int} {r : List Int} (h0 : slices_Clone_int a0 = some r) : FnOK Tryz.prog 75 [] [.d (.slice (rowsF (iRow .i64) a0))] (.d (.slice (rowsF (iRow .i64) r))) [] := by
 unfold slices_Clone_int at h0
 replace h0 := bnd h0; obtain ⟨_, p1, h0⟩ := h0; replace p1 := ck_some p1; cases h0
 refine fn_ok (nt := 8) (rs := [.tmp 2]) Tryz.func75 rfl Tryz.ntmps75 rfl (by simp) (by decide) rfl fun K => ?_
 refine kr [0, 2] (by simp; rfl) ?_
 cases a0 with
 | nil =>
   refine tr_seq ?_
   refine kc ?_
   refine ko [0, 3] 1 (by simp; rfl) ?_
   refine tops_isnil (by simp) rfl rfl (by simp) Tryz.underlying22 (by simp) (by simp) fun b => ?_
   refine tops_nil ?_
   refine tr_cond (b := b) (by simp) (fun cb => ?_) (fun cb => ?_)
   · refine kr [2] (by simp; rfl) ?_
     exact tr_ret ⟨[], by simp, rfl, by simp⟩
   · refine tr_skip ?_
     refine kr [2] (by simp; rfl) ?_
     exact tr_ret ⟨[7], by simp, rfl, by simp⟩
 | cons x l =>
   refine tr_seq ?_
   refine kr [0, 4] (by simp; rfl) ?_
   refine tr_cond (b := false) (by simp) (fun h => by cases h) (fun _ => ?_)
   refine tr_skip ?_
   have p2 := p1; simp at p2
   refine kr [2] (by simp [p1, p2]; rfl) ?_
   exact tr_ret ⟨[7], by simp, rfl, by simp⟩
set_option maxHeartbeats 1000000 in
theorem walk_Paths_ok {a0 : api_Repository} {a1 : Int} {r : (List api_Item) × Int} (h0 : walk_Paths a0 a1 = some r) : FnOK Tryz.prog 15 [] [.agg (api_Repository_av a0), .d (.int .i64 a1)] (.tup [.d (.slice (rowsF api_Item_row r.1)), .d (.int .i64 r.2)]) [] := by
 unfold walk_Paths at h0
 refine fn_ok (nt := 31) (rs := [.tmp 4, .tmp 5]) Tryz.func15 rfl Tryz.ntmps15 rfl (by simp) (by decide) rfl fun K => ?_
 refine kr [1, 2] (by simp; rfl) ?_
 refine tr_seq ?_
 refine kc ?_
 refine ko [1, 2, 10] 1 (by simp; rfl) ?_
 replace h0 := bnd h0; obtain ⟨y1, hy1, h0⟩ := h0
 refine kcall [1, 2, 11] [] (history_Valid_ok hy1) rfl rfl rfl Tryz.call25 (by simp) (by simp; rfl) ?_
 refine ko [1, 2, 6] 1 (by simp; rfl) ?_
 refine tops_nil ?_
 refine kr [1, 2, 6, 13] (by simp; rfl) ?_
 refine tr_cond (b := (y1 != 0)) (by simp) (fun c1 => ?_) (fun c1 => ?_)
 · rw [if_pos c1] at h0
   refine kr [4, 5] (by simp; rfl) ?_
   cases h0
   exact tr_ret ⟨[], by simp, rfl, by simp⟩
 · rw [if_neg (by rw [c1]; decide)] at h0
   refine tr_skip ?_
   refine kc ?_
   refine ko [1, 15] 1 (by simp; rfl) ?_
   replace h0 := bnd h0; obtain ⟨y2, hy2, h0⟩ := h0
   refine kcall [1, 16] [] (walk_index_ok hy2) rfl rfl rfl Tryz.call26 (by simp) (by simp; rfl) ?_
   refine ko [1, 7] 1 (by simp; rfl) ?_
   refine tops_nil ?_
   refine tr_seq ?_
   refine kr [1, 7, 21] (by simp; rfl) ?_
   refine tr_cond (b := ((((mget inE y2 a1).getD (⟨0, 0, [], [], 0, [], ByteArray.empty, 0⟩ : api_Object)).Kind) != 3)) (by simp) (fun c2 => ?_) (fun c2 => ?_)
   · rw [if_pos c2] at h0
     refine kr [4, 5] (by simp; rfl) ?_
     cases h0
     exact tr_ret ⟨[], by simp, rfl, by simp⟩
   · rw [if_neg (by rw [c2]; decide)] at h0
     refine tr_skip ?_
     refine kc ?_
     refine ko [23, 24] 2 (by simp; rfl) ?_
     replace h0 := bnd h0; obtain ⟨y3, hy3, h0⟩ := h0
     refine kcall [25] [] (walk_paths_ok hy3) rfl rfl rfl Tryz.call29 (by simp) (by simp; rfl) ?_
     refine ko [8, 9] 5 (by simp; rfl) ?_
     refine tops_nil ?_
     refine tr_seq ?_
     refine kr [8, 29] (by simp; rfl) ?_
     refine tr_cond (b := (!y3.2)) (by simp) (fun c3 => ?_) (fun c3 => ?_)
     · rw [if_pos c3] at h0
       refine kr [4, 5] (by simp; rfl) ?_
       cases h0
       exact tr_ret ⟨[], by simp, rfl, by simp⟩
     · rw [if_neg (by rw [c3]; decide)] at h0
       refine tr_skip ?_
       refine kr [4, 5] (by simp; rfl) ?_
       cases h0
       exact tr_ret ⟨[], by simp, rfl, by simp⟩
set_option maxHeartbeats 1000000 in
theorem law16_awake_ok  {r : Bool} (h0 : law16_awake = some r) : FnOK Tryz.prog 18 [] [] (.d (.bool r)) [] := by
 unfold law16_awake at h0
 refine fn_ok (nt := 33) (rs := [.tmp 0]) Tryz.func18 rfl Tryz.ntmps18 rfl (by simp) (by decide) rfl fun K => ?_
 refine kr [] (by simp; rfl) ?_
 refine kc ?_
 refine ko [4, 7, 10, 11] 8 (by simp; rfl) ?_
 refine tops_frz 6 ?_
 refine tops_frz 9 ?_
 refine ko [1] 4 (by simp; rfl) ?_
 refine tops_nil ?_
 refine kc ?_
 refine ko [15] 1 (by simp; rfl) ?_
 refine tops_wk (wk_frz 12) ?_
 replace h0 := bnd h0; obtain ⟨y1, hy1, h0⟩ := h0
 refine kcall [16] [] (walk_Paths_ok hy1) rfl rfl rfl Tryz.call15 (by simp) (by simp; rfl) ?_
 refine ko [2, 3] 5 (by simp; rfl) ?_
 refine tops_nil ?_
 replace h0 := bnd h0; obtain ⟨v2, hvv2, h0⟩ := h0
 refine sjv (fun v2_ : Bool => ({ nt := 33, env := [(0, .d (.bool v2_))], box := [], vec := [] } : St)) (fun v2_ => v2 = v2_) (fun v2_ e => ?_) ?_
 · subst e
   cases h0
   exact tr_ret ⟨[], by simp, rfl, by simp⟩
 · refine kc1 ?_
   refine ko [2, 21] 3 (by simp; rfl) ?_
   refine tops_split 21 (y1.2 == 0) (by simp) (fun c5 => ?_) (fun c5 => ?_)
   · rw [if_pos c5] at hvv2
     refine ko [2, 26] 5 (by simp; rfl) ?_
     refine tops_split 26 (((y1.1).length : Int) == 1) (by simp) (fun c6 => ?_) (fun c6 => ?_)
     · rw [if_pos c6] at hvv2
       replace hvv2 := bnd hvv2; obtain ⟨x3, p3, hvv2⟩ := hvv2
       replace p3 := idx_some p3
       have p3' := p3; try simp at p3'
       refine ko [0] 7 (by simp [p3, p3']; rfl) ?_
       refine tops_nil ?_
       cases hvv2
       exact ⟨_, rfl, wk (by simp [weak_iff])⟩
     · rw [if_neg (by rw [c6]; decide)] at hvv2
       refine kskip 5 [] (by kernel_rfl) ?_
       refine ko [0] 2 (by simp; rfl) ?_
       refine tops_nil ?_
       cases hvv2
       exact ⟨_, rfl, wk (by simp [weak_iff])⟩
   · rw [if_neg (by rw [c5]; decide)] at hvv2
     refine kskip 3 [] (by kernel_rfl) ?_
     refine ko [2, 26] 2 (by simp; rfl) ?_
     refine kskip 5 [] (by kernel_rfl) ?_
     refine ko [0] 2 (by simp; rfl) ?_
     refine tops_nil ?_
     cases hvv2
     exact ⟨_, rfl, wk (by simp [weak_iff])⟩
set_option maxHeartbeats 1000000 in
theorem object_Copied_ok {a0 : api_Object} {r : api_Object} (h0 : object_Copied a0 = some r) : FnOK Tryz.prog 39 [] [.agg (api_Object_av a0)] (.agg (api_Object_av r)) [] := by
 unfold object_Copied at h0
 refine fn_ok (nt := 16) (rs := [.cell 2 49]) Tryz.func39 rfl Tryz.ntmps39 rfl (by simp) (by decide) rfl fun K => ?_
 refine kr [1, 2] (by simp; rfl) ?_
 refine kd [[], [0], [1], [], [3], [4], [], [6], [7], [], [1, 2, 4, 7, 9], [], [1, 4, 5, 7, 10, 11], [], [1, 4, 7, 8, 10, 12, 13]] [10, 12, 14] [(1, [10, 12, 14])] none [] 15 fol (by decide +kernel) (by simp) ?_
 refine dr_go 0 2 rfl (by simp (maxSteps := 1000000); rfl) ?_
 replace h0 := bnd h0; obtain ⟨y1, hy1, h0⟩ := h0
 refine dr_call 2 [] (slices_Clone_byte_ok hy1) rfl rfl rfl rfl rfl Tryz.call30 (by simp) ?_
 refine dr_go 3 2 rfl (by simp (maxSteps := 1000000); rfl) ?_
 replace h0 := bnd h0; obtain ⟨y2, hy2, h0⟩ := h0
 refine dr_call 5 [] (slices_Clone_api_Item_ok hy2) rfl rfl rfl rfl rfl Tryz.call54 (by simp) ?_
 refine dr_go 6 2 rfl (by simp (maxSteps := 1000000); rfl) ?_
 replace h0 := bnd h0; obtain ⟨y3, hy3, h0⟩ := h0
 refine dr_call 8 [] (slices_Clone_int_ok hy3) rfl rfl rfl rfl rfl Tryz.call75 (by simp) ?_
 refine dr_go 9 2 rfl (by simp (maxSteps := 1000000); rfl) ?_
 refine dr_go 11 2 rfl (by simp (maxSteps := 1000000); rfl) ?_
 refine dr_go 13 2 rfl (by simp (maxSteps := 1000000); rfl) ?_
 refine dr_end rfl (tops_nil ?_)
 refine kr [2] (by simp; rfl) ?_
 cases h0
 exact tr_ret ⟨[], by simp, rfl, by simp⟩
set_option maxHeartbeats 1000000 in
theorem history_Find_ok {a0 : api_Repository} {a1 : Int} {r : api_Object × Bool} (h0 : history_Find a0 a1 = some r) : FnOK Tryz.prog 19 [] [.agg (api_Repository_av a0), .d (.int .i64 a1)] (.tup [.agg (api_Object_av r.1), .d (.bool r.2)]) [] := by
 unfold history_Find at h0
 refine fn_ok (nt := 28) (rs := [.cell 4 49, .tmp 5]) Tryz.func19 rfl Tryz.ntmps19 rfl (by simp) (by decide) rfl fun K => ?_
 refine kr [1, 2, 4] (by simp; rfl) ?_
 refine tr_seq ?_
 refine kc ?_
 refine ko [1, 2, 4, 10] 1 (by simp; rfl) ?_
 replace h0 := bnd h0; obtain ⟨y1, hy1, h0⟩ := h0
 refine kcall [1, 2, 4, 11] [] (history_Valid_ok hy1) rfl rfl rfl Tryz.call25 (by simp) (by simp; rfl) ?_
 refine ko [1, 2, 4, 12] 1 (by simp; rfl) ?_
 refine tops_nil ?_
 refine tr_cond (b := (y1 != 0)) (by simp) (fun c1 => ?_) (fun c1 => ?_)
 · rw [if_pos c1] at h0
   refine kr [4, 5] (by simp; rfl) ?_
   cases h0
   exact tr_ret ⟨[], by simp, rfl, by simp⟩
 · rw [if_neg (by rw [c1]; decide)] at h0
   refine tr_skip ?_
   refine kc ?_
   refine ko [1, 4, 15] 1 (by simp; rfl) ?_
   replace h0 := bnd h0; obtain ⟨y2, hy2, h0⟩ := h0
   refine kcall [1, 4, 16] [] (history_index_ok hy2) rfl rfl rfl Tryz.call38 (by simp) (by simp; rfl) ?_
   refine ko [1, 4, 6] 5 (by simp; rfl) ?_
   refine tops_nil ?_
   refine kr [4, 8, 9] (by simp; rfl) ?_
   refine kc ?_
   refine ko [4, 9, 25] 1 (by simp; rfl) ?_
   replace h0 := bnd h0; obtain ⟨y3, hy3, h0⟩ := h0
   refine kcall [4, 9, 26] [] (object_Copied_ok hy3) rfl rfl rfl Tryz.call39 (by simp) (by simp; rfl) ?_
   refine ko [4, 5] 3 (by simp; rfl) ?_
   refine tops_nil ?_
   cases h0
   exact tr_ret ⟨[], by simp, rfl, by simp⟩
end Go.Vl
