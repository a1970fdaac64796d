/- What history.Valid answers, in plain words. Conditions: none. -/
import Derived.Test.YtjnflahicimmlaaGreatDoorPlG
import Derived.Test.YtjnflahicimmlaaGreatDoorJAx
set_option linter.unusedSimpArgs false
set_option linter.unusedVariables false
namespace Go.Vl
open Go
theorem iter_allL {α ε : Type} {body : Int → Option (Lp Int (Unit ⊕ ε))} (l : List α) (p : α → Bool) (e : ε) (hgo : ∀ (i : Nat) (h : i < l.length), body (i : Int) = some (if p l[i] = true then .go ((i + 1 : Nat) : Int) else .out (.inr e)))
   (hend : body (l.length : Int) = some (.out (.inl ()))) : iter body 0 = some (if l.all p = true then .inl () else .inr e) := by
 rw [iter_allE l.length (fun i => match l[i]? with | some x => p x | none => true) e (fun i hi => by simp only [List.getElem?_eq_getElem hi]; exact hgo i hi) hend]
 by_cases h : l.all p = true
 · rw [if_pos h, if_pos]
   intro i hi
   simp only [List.getElem?_eq_getElem hi]
   exact List.all_eq_true.1 h _ (List.getElem_mem hi)
 · rw [if_neg h, if_neg]
   intro hn
   refine h (List.all_eq_true.2 fun x hx => ?_)
   obtain ⟨i, hi, rfl⟩ := List.getElem_of_mem hx
   have := hn i hi
   simp only [List.getElem?_eq_getElem hi] at this
   exact this
def scanL {σ α ε : Type} (g : σ → α → ε ⊕ σ) (fin : σ → ε) : List α → σ → ε
 | [], s => fin s
 | x :: l, s => match g s x with
   | .inl e => e
   | .inr s' => scanL g fin l s'
theorem iter_scanL {σ α ε : Type} {body : Int × σ → Option (Lp (Int × σ) ε)} (l : List α) (g : σ → α → ε ⊕ σ) (fin : σ → ε)
   (hgo : ∀ (i : Nat) (h : i < l.length) (s : σ), body ((i : Int), s) = some (match g s l[i] with | .inl e => .out e | .inr s' => .go (((i + 1 : Nat) : Int), s')))
   (hend : ∀ s, body ((l.length : Int), s) = some (.out (fin s))) (s0 : σ) : iter body (0, s0) = some (scanL g fin l s0) := by
 have key : ∀ (m i : Nat) (s : σ), i + m = l.length → iter body ((i : Int), s) = some (scanL g fin (l.drop i) s) := fun m => by
   induction m with
   | zero =>
     intro i s h
     have : i = l.length := by omega
     subst this
     rw [iter_out (hend s)]; simp [scanL]
   | succ m ih =>
     intro i s h
     have hi : i < l.length := by omega
     have h1 := hgo i hi s
     rw [List.drop_eq_getElem_cons hi, scanL]
     cases hg : g s l[i] with
     | inl e => rw [hg] at h1; exact iter_out h1
     | inr s' => rw [hg] at h1; rw [iter_go h1, ih (i + 1) s' (by omega)]
 simpa using key l.length 0 s0 (by omega)
theorem find_any {α : Type} {body : Int → Option (Lp Int (Unit ⊕ Int))} (l : List α) (p : α → Bool)
   (hgo : ∀ (i : Nat) (h : i < l.length), body (i : Int) = some (if p l[i] = true then .out (.inr (i : Int)) else .go (((i + 1 : Nat) : Int))))
   (hend : body (l.length : Int) = some (.out (.inl ()))) : ((iter body 0).bind fun q => match q with | .inl _ => some (-1) | .inr r => some r).bind (fun y : Int => some (decide (0 ≤ y))) = some (l.any p) := by
 obtain ⟨h1, h2⟩ := iter_findS l p (fun i _ => (.inr (i : Int) : Unit ⊕ Int)) (.inl ()) hgo hend
 cases h : l.any p with
 | false => rw [h1 h]; rfl
 | true =>
   obtain ⟨i, hi, _, h3⟩ := h2 h
   rw [h3]
   simp
def chB (c : Int) : Bool := !(decide (c < 33) || (decide (126 < c) || (c == 47)))
def nmB (s : ByteArray) : Bool := (sbytes s).all chB && (decide (1 ≤ s.size) && decide (s.size ≤ 40))
theorem name_eq {s : ByteArray} (h : s.size ≤ 1000000000) : object_Name s = some (nmB s) := by
 have hl := sbytes_length s
 unfold object_Name
 rw [iter_allL (sbytes s) chB false (fun i hi => ?_) ?_]
 · unfold nmB
   by_cases hb : (sbytes s).all chB = true
   · rw [if_pos hb, hb]
     simp only [Option.bind_some, Bool.true_and]
     congr 2
     · simp; omega
     · simp; omega
   · rw [if_neg hb]
     have : (sbytes s).all chB = false := by simpa using hb
     rw [this]; rfl
 · unfold object_Name_l0
   rw [if_neg (by simp)]
 · unfold object_Name_l0
   rw [if_pos (by simp; omega), idx_lt hi, w64 (by omega) (by omega)]
   simp only [Option.bind_some]
   unfold chB
   cases (decide ((sbytes s)[i] < 33) || (decide (126 < (sbytes s)[i]) || ((sbytes s)[i] == 47))) <;> rfl
def numB (x : Int) : Bool := decide (1 ≤ x) && decide (x ≤ 1073741824)
theorem number_eq (x : Int) : object_Number x = some (numB x) := rfl
def treeB (l : List api_Item) (i : Nat) : Bool := match l[i]? with
 | some x => nmB x.Name && (numB x.ID && (i == 0 || match l[i - 1]? with | some y => Op.bytesLess y.Name.toList x.Name.toList | none => false))
 | none => true
theorem tree_eq {o : api_Object} (h : o.Items.length ≤ 1000000) (hf : ∀ x ∈ o.Items, x.Name.size ≤ 1000000000) : object_tree o = some (decide (∀ i, i < o.Items.length → treeB o.Items i = true)) := by
 unfold object_tree
 rw [iter_allE o.Items.length (treeB o.Items) false (fun i hi => ?_) ?_]
 · by_cases hb : ∀ i, i < o.Items.length → treeB o.Items i = true
   · rw [if_pos hb, decide_eq_true hb]; rfl
   · rw [if_neg hb, decide_eq_false hb]; rfl
 · unfold object_tree_l0
   rw [if_neg (by simp)]
 · unfold object_tree_l0
   rw [if_pos (by simp; omega), idx_lt hi, w64 (x := (i : Int) + 1) (by omega) (by omega)]
   simp only [Option.bind_some]
   rw [name_eq (hf _ (List.getElem_mem hi)), number_eq]
   simp only [Option.bind_some]
   unfold treeB
   rw [List.getElem?_eq_getElem hi]
   simp only
   rcases Bool.eq_false_or_eq_true (nmB o.Items[i].Name) with hb1 | hb1
   case inr => simp [hb1]
   case inl =>
     rcases Bool.eq_false_or_eq_true (numB o.Items[i].ID) with hb2 | hb2
     case inr => simp [hb1, hb2]
     case inl =>
       simp only [hb1, hb2, Bool.not_true, Bool.false_eq_true, if_false]
       cases i with
       | zero => simp
       | succ i =>
         rw [if_pos (by simp)]
         have hw : IntKind.i64.wrap (((i + 1 : Nat) : Int) - 1) = (i : Int) := by rw [w64 (by omega) (by omega)]; omega
         rw [hw, idx_lt (show i < o.Items.length by omega)]
         simp only [Option.bind_some, Nat.add_sub_cancel, List.getElem?_eq_getElem (show i < o.Items.length by omega)]
         cases Op.bytesLess o.Items[i].Name.toList o.Items[i + 1].Name.toList <;> simp
theorem contains_eq {l : List Int} (h : l.length ≤ 1000000) (x : Int) : slices_Contains_int l x = some (l.contains x) := by
 unfold slices_Contains_int slices_Index_int
 have := find_any (body := slices_Index_int_l0 l x) l (fun y => x == y) (fun i hi => ?_) ?_
 · rw [List.contains_eq_any_beq]; exact this
 · unfold slices_Index_int_l0
   rw [if_pos (by simp; omega), idx_lt hi, w64 (by omega) (by omega)]
   simp only [Option.bind_some]
   cases x == l[i] <;> rfl
 · unfold slices_Index_int_l0
   rw [if_neg (by simp)]
def parB (l : List Int) (i : Nat) : Bool := match l[i]? with
 | some x => numB x && !(l.take i).contains x
 | none => true
def commitB (o : api_Object) : Bool := decide (∀ i, i < o.Parents.length → parB o.Parents i = true) && (numB o.Tree && (nmB o.Author && (decide (0 ≤ o.Time) && decide (o.Time ≤ 1099511627776))))
theorem commit_eq {o : api_Object} (h : o.Parents.length ≤ 1000000) (hf : o.Author.size ≤ 1000000000) : object_commit o = some (commitB o) := by
 unfold object_commit commitB
 rw [iter_allE o.Parents.length (parB o.Parents) false (fun i hi => ?_) ?_]
 · by_cases hb : ∀ i, i < o.Parents.length → parB o.Parents i = true
   · rw [if_pos hb, decide_eq_true hb, number_eq, name_eq hf]
     simp only [Option.bind_some]
     cases numB o.Tree <;> cases nmB o.Author <;> cases decide (0 ≤ o.Time) <;> simp
   · rw [if_neg hb, decide_eq_false hb]; rfl
 · unfold object_commit_l0
   rw [if_neg (by simp)]
 · unfold object_commit_l0
   rw [if_pos (by simp; omega), idx_lt hi, w64 (x := (i : Int) + 1) (by omega) (by omega)]
   simp only [Option.bind_some]
   rw [number_eq]
   unfold parB
   rw [List.getElem?_eq_getElem hi]
   simp only [Option.bind_some]
   rcases Bool.eq_false_or_eq_true (numB o.Parents[i]) with hb1 | hb1
   case inr => simp [hb1]
   case inl =>
     simp only [hb1]
     rw [ck_t (by omega), contains_eq (by simp; omega)]
     simp only [Option.bind_some, Int.toNat_natCast]
     cases (o.Parents.take i).contains o.Parents[i] <;> simp
def otherB (o : api_Object) : Bool := (o.Tree != 0) || ((decide (0 < ((o.Parents).length : Int))) || ((!((o.Author).toList == ((⟨#[]⟩ : ByteArray)).toList)) || (o.Time != 0)))
def rightB (o : api_Object) : Bool :=
 if o.Kind = 1 then o.Items.isEmpty && !otherB o else
 if o.Kind = 2 then o.Data.isEmpty && (!otherB o && decide (∀ i, i < o.Items.length → treeB o.Items i = true)) else
 if o.Kind = 3 then o.Data.isEmpty && (o.Items.isEmpty && commitB o) else false
theorem len0 {α : Type} (l : List α) : (((l.length : Nat) : Int) == 0) = l.isEmpty := by cases l <;> simp <;> omega
def FitO (o : api_Object) : Prop := (∀ x ∈ o.Items, x.Name.size ≤ 1000000000) ∧ o.Author.size ≤ 1000000000
theorem right_eq {o : api_Object} (h1 : o.Items.length ≤ 1000000) (h2 : o.Parents.length ≤ 1000000) (hf : FitO o) : object_right o = some (rightB o) := by
 unfold object_right rightB
 rw [tree_eq h1 hf.1, commit_eq h2 hf.2]
 simp only [Option.bind_some, len0]
 rw [show ((o.Tree != 0) || ((decide (0 < ((o.Parents).length : Int))) || ((!((o.Author).toList == ((⟨#[]⟩ : ByteArray)).toList)) || (o.Time != 0)))) = otherB o from rfl]
 by_cases k1 : o.Kind = 1
 · simp [k1]
 · by_cases k2 : o.Kind = 2
   · simp only [k2]
     cases o.Data.isEmpty <;> cases otherB o <;> simp
   · by_cases k3 : o.Kind = 3
     · simp only [k3]
       cases o.Data.isEmpty <;> cases o.Items.isEmpty <;> simp
     · simp [k1, k2, k3]
def objE (o : api_Object) : Int :=
 if numB o.ID = false then 2 else
 if 65536 < o.Data.length ∨ 64 < o.Items.length ∨ 8 < o.Parents.length then 3 else
 if rightB o = false then 1 else 0
theorem objValid_eq {o : api_Object} (hf : FitO o) : object_Valid o = some (objE o) := by
 unfold object_Valid objE
 rw [number_eq]
 simp only [Option.bind_some]
 cases numB o.ID with
 | false => rfl
 | true =>
   by_cases hb : 65536 < o.Data.length ∨ 64 < o.Items.length ∨ 8 < o.Parents.length
   · rw [if_pos hb]
     have : (decide (65536 < ((o.Data).length : Int)) || ((decide (64 < ((o.Items).length : Int))) || (decide (8 < ((o.Parents).length : Int))))) = true := by
       simp only [Bool.or_eq_true, decide_eq_true_eq]; omega
     rw [this]; rfl
   · rw [if_neg hb]
     have : (decide (65536 < ((o.Data).length : Int)) || ((decide (64 < ((o.Items).length : Int))) || (decide (8 < ((o.Parents).length : Int))))) = false := by
       simp only [Bool.or_eq_false_iff, decide_eq_false_iff_not]; omega
     rw [this, right_eq (by omega) (by omega) hf]
     cases rightB o <;> rfl
theorem cF_obj {l : List api_Object} (hl : l.length ≤ 1000000) (hf : ∀ o ∈ l, FitO o) : slices_ContainsFunc_api_Object_at_history_Valid_1 l = some (l.any fun o => objE o != 0) := by
 unfold slices_ContainsFunc_api_Object_at_history_Valid_1 slices_IndexFunc_api_Object_at_history_Valid_1
 refine find_any (body := slices_IndexFunc_api_Object_at_history_Valid_1_l0 l) l _ (fun i hi => ?_) ?_
 · unfold slices_IndexFunc_api_Object_at_history_Valid_1_l0 history_Valid_1
   rw [if_pos (by simp; omega), idx_lt hi, w64 (by omega) (by omega)]
   simp only [Option.bind_some]
   rw [objValid_eq (hf _ (List.getElem_mem hi))]
   simp only [Option.bind_some]
   cases objE l[i] != 0 <;> rfl
 · unfold slices_IndexFunc_api_Object_at_history_Valid_1_l0
   rw [if_neg (by simp)]
def wrongB (e : api_RefEvent) : Bool := (e.Kind != 1 && e.Kind != 2) || (!nmB e.Name || (e.Kind == 2 && e.Commit != 0))
theorem wrong_eq {e : api_RefEvent} (hf : e.Name.size ≤ 1000000000) : history_wrong e = some (wrongB e) := by
 unfold history_wrong wrongB
 rw [name_eq hf]
 simp only [Option.bind_some]
 by_cases k1 : e.Kind = 1
 · cases nmB e.Name <;> simp [k1]
 · by_cases k2 : e.Kind = 2
   · cases nmB e.Name <;> simp [k2]
   · simp [k1, k2]
theorem cF_wrong {l : List api_RefEvent} (hl : l.length ≤ 1000000) (hf : ∀ e ∈ l, e.Name.size ≤ 1000000000) : slices_ContainsFunc_api_RefEvent_at_history_wrong l = some (l.any wrongB) := by
 unfold slices_ContainsFunc_api_RefEvent_at_history_wrong slices_IndexFunc_api_RefEvent_at_history_wrong
 refine find_any (body := slices_IndexFunc_api_RefEvent_at_history_wrong_l0 l) l _ (fun i hi => ?_) ?_
 · unfold slices_IndexFunc_api_RefEvent_at_history_wrong_l0
   rw [if_pos (by simp; omega), idx_lt hi, w64 (by omega) (by omega)]
   simp only [Option.bind_some]
   rw [wrong_eq (hf _ (List.getElem_mem hi))]
   simp only [Option.bind_some]
   cases wrongB l[i] <;> rfl
 · unfold slices_IndexFunc_api_RefEvent_at_history_wrong_l0
   rw [if_neg (by simp)]
noncomputable def idxM (l : List api_Object) : List (Int × api_Object) := l.foldl (fun m o => mset inE m o.ID o) []
theorem index_eq {a0 : api_Repository} (h : a0.Objects.length ≤ 1000000) : history_index a0 = some (idxM a0.Objects, decide ((idxM a0.Objects).length = a0.Objects.length)) := by
 unfold history_index
 rw [iter_foldl a0.Objects (fun m o => mset inE m o.ID o) (fun m => m) (fun _ _ => True) (fun i hi s _ => ⟨?_, trivial⟩) (fun s _ => ?_) [] trivial]
 · simp only [Option.bind_some]
   congr 2
   rw [Bool.eq_iff_iff, beq_iff_eq, decide_eq_true_eq]; exact Int.ofNat_inj
 · unfold history_index_l0
   rw [if_pos (by simp; omega), idx_lt hi, w64 (by omega) (by omega)]
   rfl
 · unfold history_index_l0
   rw [if_neg (by simp)]
theorem idx_fold : ∀ (l : List api_Object) (m : List (Int × api_Object)), (m.map (·.1)).Nodup → ((l.foldl (fun m o => mset inE m o.ID o) m).map (·.1)).Nodup ∧ (l.foldl (fun m o => mset inE m o.ID o) m).length ≤ m.length + l.length ∧
   (((m.map (·.1)) ++ l.map (·.ID)).Nodup → l.foldl (fun m o => mset inE m o.ID o) m = m ++ l.map fun o => (o.ID, o)) ∧
   (¬((m.map (·.1)) ++ l.map (·.ID)).Nodup → (l.foldl (fun m o => mset inE m o.ID o) m).length < m.length + l.length)
 | [], m, hm => by simp [hm]
 | o :: l, m, hm => by
   obtain ⟨k1, k2⟩ := mset_keys inE_eq m o.ID o
   obtain ⟨i1, i2, i3, i4⟩ := idx_fold l (mset inE m o.ID o) (mset_nodup inE_eq hm _ _)
   rw [List.foldl_cons]
   by_cases h : o.ID ∈ m.map (·.1)
   · have e1 := k1 h
     have e2 : (mset inE m o.ID o).length = m.length := by have := congrArg List.length e1; simpa using this
     refine ⟨i1, by simp only [List.length_cons]; omega, fun hn => ?_, fun _ => by simp only [List.length_cons]; omega⟩
     rw [List.nodup_append] at hn
     exact absurd rfl (hn.2.2 _ h o.ID (by simp))
   · have e1 := k2 h
     rw [e1] at i1 i2 i3 i4 ⊢
     have e3 : (List.map (·.1) (m ++ [(o.ID, o)])) ++ l.map (·.ID) = m.map (·.1) ++ (o :: l).map (·.ID) := by simp
     rw [e3] at i3 i4
     refine ⟨i1, by simp at i2 ⊢; omega, fun hn => by rw [i3 hn]; simp, fun hn => by have := i4 hn; simp at this ⊢; omega⟩
noncomputable def objM (l : List api_Object) : List (Int × api_Object) := l.map fun o => (o.ID, o)
theorem idxM_nodup {l : List api_Object} (h : (l.map (·.ID)).Nodup) : idxM l = objM l := by
 obtain ⟨_, _, h3, _⟩ := idx_fold l [] (by simp)
 have := h3 (by simpa using h)
 simpa [idxM, objM] using this
theorem idxM_single {l : List api_Object} : (idxM l).length = l.length ↔ (l.map (·.ID)).Nodup := by
 obtain ⟨_, _, h3, h4⟩ := idx_fold l [] (by simp)
 constructor
 · intro h
   refine Classical.byContradiction fun hn => ?_
   have := h4 (by simpa using hn)
   unfold idxM at h
   simp at this
   omega
 · intro h
   rw [idxM_nodup h]; simp [objM]
def kindM (all : List (Int × api_Object)) (id : Int) : Int := ((mget inE all id).getD (⟨0, 0, [], [], 0, [], ByteArray.empty, 0⟩ : api_Object)).Kind
def hereB (all : List (Int × api_Object)) (o : api_Object) : Bool :=
 o.Items.all (fun x => kindM all x.ID == 1 || kindM all x.ID == 2) && (o.Parents.all (fun p => kindM all p == 3) && (o.Kind != 3 || kindM all o.Tree == 2))
theorem missing_eq {all : List (Int × api_Object)} {o : api_Object} (h1 : o.Items.length ≤ 1000000) (h2 : o.Parents.length ≤ 1000000) : history_missing all o = some (!hereB all o) := by
 unfold history_missing hereB
 rw [iter_allL o.Items (fun x => kindM all x.ID == 1 || kindM all x.ID == 2) true (fun i hi => ?_) ?_]
 · by_cases hb : o.Items.all (fun x => kindM all x.ID == 1 || kindM all x.ID == 2) = true
   · rw [if_pos hb, hb]
     simp only [Option.bind_some, Bool.true_and]
     rw [iter_allL o.Parents (fun p => kindM all p == 3) true (fun i hi => ?_) ?_]
     · by_cases hc : o.Parents.all (fun p => kindM all p == 3) = true
       · rw [if_pos hc, hc]
         simp only [Option.bind_some, Bool.true_and, kindM]
         congr 1
         cases h : o.Kind == 3 <;> simp [bne, h]
       · rw [if_neg hc]
         have : o.Parents.all (fun p => kindM all p == 3) = false := by simpa using hc
         rw [this]; rfl
     · unfold history_missing_l1
       rw [if_neg (by simp)]
     · unfold history_missing_l1
       rw [if_pos (by simp; omega), idx_lt hi, w64 (by omega) (by omega)]
       simp only [Option.bind_some, kindM, bne]
       rcases Bool.eq_false_or_eq_true (((mget inE all o.Parents[i]).getD (⟨0, 0, [], [], 0, [], ByteArray.empty, 0⟩ : api_Object)).Kind == 3) with hb1 | hb1 <;> simp only [hb1] <;> rfl
   · rw [if_neg hb]
     have : o.Items.all (fun x => kindM all x.ID == 1 || kindM all x.ID == 2) = false := by simpa using hb
     rw [this]; rfl
 · unfold history_missing_l0
   rw [if_neg (by simp)]
 · unfold history_missing_l0
   rw [if_pos (by simp; omega), idx_lt hi, w64 (by omega) (by omega)]
   simp only [Option.bind_some, kindM, bne]
   rcases Bool.eq_false_or_eq_true (((mget inE all o.Items[i].ID).getD (⟨0, 0, [], [], 0, [], ByteArray.empty, 0⟩ : api_Object)).Kind == 1) with hb1 | hb1 <;> rcases Bool.eq_false_or_eq_true (((mget inE all o.Items[i].ID).getD (⟨0, 0, [], [], 0, [], ByteArray.empty, 0⟩ : api_Object)).Kind == 2) with hb2 | hb2 <;> simp only [hb1, hb2] <;> rfl
theorem cF_miss {l : List api_Object} (all : List (Int × api_Object)) (hl : l.length ≤ 1000000) (h1 : ∀ o ∈ l, o.Items.length ≤ 1000000 ∧ o.Parents.length ≤ 1000000) : slices_ContainsFunc_api_Object_at_history_Valid_2_b l all = some (l.any (fun o => !hereB all o), all) := by
 unfold slices_ContainsFunc_api_Object_at_history_Valid_2_b slices_IndexFunc_api_Object_at_history_Valid_2_b
 have key : ∀ (m i : Nat), i + m = l.length → ∃ r : Int ⊕ Unit, iter (slices_IndexFunc_api_Object_at_history_Valid_2_b_l0 l) ((i : Int), all) = some (match r with | .inl k => .inr (k, all) | .inr _ => .inl all) ∧
     (match r with | .inl k => 0 ≤ k ∧ (l.drop i).any (fun o => !hereB all o) = true | .inr _ => (l.drop i).any (fun o => !hereB all o) = false) := fun m => by
   induction m with
   | zero =>
     intro i h
     have : i = l.length := by omega
     subst this
     refine ⟨.inr (), ?_, by simp⟩
     refine iter_out ?_
     unfold slices_IndexFunc_api_Object_at_history_Valid_2_b_l0
     rw [if_neg (by simp)]
   | succ m ih =>
     intro i h
     have hi : i < l.length := by omega
     have hb : slices_IndexFunc_api_Object_at_history_Valid_2_b_l0 l ((i : Int), all) = some (if hereB all l[i] = true then .go (((i + 1 : Nat) : Int), all) else .out (.inr ((i : Int), all))) := by
       unfold slices_IndexFunc_api_Object_at_history_Valid_2_b_l0 history_Valid_2_cb
       obtain ⟨g1, g2⟩ := h1 _ (List.getElem_mem hi)
       simp only
       rw [if_pos (by simp; omega), idx_lt hi, w64 (by omega) (by omega)]
       simp only [Option.bind_some, missing_eq g1 g2]
       cases hereB all l[i] <;> rfl
     rw [List.drop_eq_getElem_cons hi, List.any_cons]
     cases hh : hereB all l[i] with
     | true =>
       rw [hh, if_pos rfl] at hb
       rw [iter_go hb]
       simpa using ih (i + 1) (by omega)
     | false =>
       rw [hh, if_neg (by decide)] at hb
       exact ⟨.inl (i : Int), iter_out hb, by omega, by simp⟩
 obtain ⟨r, h2, h3⟩ := key l.length 0 (by omega)
 rw [List.drop_zero] at h3
 cases r with
 | inl k =>
   simp only at h2 h3
   rw [show ((0 : Nat) : Int) = 0 from rfl] at h2
   rw [h2, h3.2]
   simp [h3.1]
 | inr u =>
   simp only at h2 h3
   rw [show ((0 : Nat) : Int) = 0 from rfl] at h2
   rw [h2, h3]
   simp
end Go.Vl
namespace Go.Vl
open Go
def bareB (all : List (Int × api_Object)) (m : List (ByteArray × Bool)) (e : api_RefEvent) : Bool := (e.Kind == 1 && kindM all e.Commit != 3) || (e.Kind == 2 && !((mget stE m e.Name).getD false))
noncomputable def nlB (all : List (Int × api_Object)) (l : List api_RefEvent) (m : List (ByteArray × Bool)) : Bool :=
 match scanL (fun m e => if bareB all m e = true then (.inl (.inr true) : (Unit ⊕ Bool) ⊕ List (ByteArray × Bool)) else .inr (mset stE m e.Name (e.Kind == 1))) (fun _ => .inl ()) l m with
 | .inl _ => false
 | .inr r => r
theorem nl_nil (all : List (Int × api_Object)) (m : List (ByteArray × Bool)) : nlB all [] m = false := rfl
theorem nl_cons (all : List (Int × api_Object)) (e : api_RefEvent) (l : List api_RefEvent) (m : List (ByteArray × Bool)) : nlB all (e :: l) m = (bareB all m e || nlB all l (mset stE m e.Name (e.Kind == 1))) := by
 unfold nlB
 rw [scanL]
 cases bareB all m e <;> simp
theorem nameless_eq {a0 : api_Repository} (h : a0.Events.length ≤ 1000000) (all : List (Int × api_Object)) : history_nameless a0 all = some (nlB all a0.Events []) := by
 unfold history_nameless nlB
 rw [iter_scanL a0.Events (fun m e => if bareB all m e = true then (.inl (.inr true) : (Unit ⊕ Bool) ⊕ List (ByteArray × Bool)) else .inr (mset stE m e.Name (e.Kind == 1))) (fun _ => .inl ()) (fun i hi s => ?_) (fun s => ?_)]
 · simp only [Option.bind_some]
   cases scanL (fun m e => if bareB all m e = true then (.inl (.inr true) : (Unit ⊕ Bool) ⊕ List (ByteArray × Bool)) else .inr (mset stE m e.Name (e.Kind == 1))) (fun _ => .inl ()) a0.Events [] <;> rfl
 · unfold history_nameless_l0
   rw [if_pos (by simp; omega), idx_lt hi, w64 (by omega) (by omega)]
   simp only [Option.bind_some]
   rw [show (bif (a0.Events[i].Kind == 1) then (((((mget inE all a0.Events[i].Commit).getD (⟨0, 0, [], [], 0, [], ByteArray.empty, 0⟩ : api_Object)).Kind) != 3) || ((a0.Events[i].Kind == 2) && (!((mget stE s a0.Events[i].Name).getD false)))) else ((a0.Events[i].Kind == 2) && (!((mget stE s a0.Events[i].Name).getD false)))) = bareB all s a0.Events[i] from by
     unfold bareB kindM
     cases a0.Events[i].Kind == 1 <;> simp]
   cases bareB all s a0.Events[i] <;> rfl
 · unfold history_nameless_l0
   rw [if_neg (by simp)]
def timeB (e : api_RefEvent) : Bool := decide (e.Time < 0) || decide (1099511627776 < e.Time)
theorem cF_time {l : List api_RefEvent} (hl : l.length ≤ 1000000) : slices_ContainsFunc_api_RefEvent_at_history_Valid_3 l = some (l.any timeB) := by
 unfold slices_ContainsFunc_api_RefEvent_at_history_Valid_3 slices_IndexFunc_api_RefEvent_at_history_Valid_3
 refine find_any (body := slices_IndexFunc_api_RefEvent_at_history_Valid_3_l0 l) l _ (fun i hi => ?_) ?_
 · unfold slices_IndexFunc_api_RefEvent_at_history_Valid_3_l0 history_Valid_3
   rw [if_pos (by simp; omega), idx_lt hi, w64 (by omega) (by omega)]
   simp only [Option.bind_some]
   unfold timeB
   cases (decide (l[i].Time < 0) || decide (1099511627776 < l[i].Time)) <;> rfl
 · unfold slices_IndexFunc_api_RefEvent_at_history_Valid_3_l0
   rw [if_neg (by simp)]
def sortB (l : List api_RefEvent) : Bool := decide (l.Pairwise fun x y => x.Time ≤ y.Time)
theorem cmp_lt (x y : Int) : cmp_Compare_int x y = some (if x < y then -1 else if y < x then 1 else 0) := by
 unfold cmp_Compare_int cmp_isNaN_int
 simp only [bne_self_eq_false, Option.bind_some]
 simp only [Bool.false_eq_true, if_false]
 by_cases h : x < y
 · simp [h]
 · by_cases h2 : y < x
   · simp [h, h2]
   · simp [h, h2]
theorem sorted_eq {l : List api_RefEvent} (hl : l.length ≤ 1000000) : slices_IsSortedFunc_api_RefEvent_at_history_Valid_4 l = some (sortB l) := by
 have hb : ∀ (i : Nat) (h : i + 1 < l.length), slices_IsSortedFunc_api_RefEvent_at_history_Valid_4_l0 l ((i + 1 : Nat) : Int) = some (if l[i].Time ≤ l[i + 1].Time then .go (i : Int) else .out (.inr false)) := fun i h => by
   unfold slices_IsSortedFunc_api_RefEvent_at_history_Valid_4_l0 history_Valid_4
   have hw : IntKind.i64.wrap (((i + 1 : Nat) : Int) - 1) = (i : Int) := by rw [w64 (by omega) (by omega)]; omega
   rw [if_pos (by simp <;> omega), hw, idx_lt h, idx_lt (show i < l.length by omega)]
   simp only [Option.bind_some, cmp_lt]
   by_cases hc : l[i + 1].Time < l[i].Time
   · rw [if_pos hc, if_neg (show ¬ l[i].Time ≤ l[i + 1].Time by omega)]; rfl
   · rw [if_neg hc, if_pos (show l[i].Time ≤ l[i + 1].Time by omega)]
     split <;> rfl
 have key : ∀ (n : Nat), n < l.length ∨ n = 0 → iter (slices_IsSortedFunc_api_RefEvent_at_history_Valid_4_l0 l) (n : Int) = some (if ∀ i, i < n → ∀ (h : i + 1 < l.length), l[i].Time ≤ l[i + 1].Time then .inl () else .inr false) := fun n => by
   induction n with
   | zero =>
     intro _
     rw [if_pos (by simp)]
     refine iter_out ?_
     unfold slices_IsSortedFunc_api_RefEvent_at_history_Valid_4_l0
     rw [if_neg (by simp)]
   | succ n ih =>
     intro h
     have h1 : n + 1 < l.length := by omega
     have h2 := hb n h1
     by_cases hc : l[n].Time ≤ l[n + 1].Time
     · rw [if_pos hc] at h2
       rw [iter_go h2, ih (by omega)]
       congr 1
       refine ite_congr (propext ⟨fun g i hi hh => ?_, fun g i hi hh => g i (by omega) hh⟩) (fun _ => rfl) (fun _ => rfl)
       rcases Nat.lt_succ_iff_lt_or_eq.1 hi with h3 | h3
       · exact g i h3 hh
       · subst h3; exact hc
     · rw [if_neg hc] at h2
       rw [iter_out h2, if_neg (fun g => hc (g n (by omega) h1))]
 have hP : (∀ i, i < l.length - 1 → ∀ (h : i + 1 < l.length), l[i].Time ≤ l[i + 1].Time) ↔ l.Pairwise fun x y => x.Time ≤ y.Time := by
   constructor
   · intro g
     rw [List.pairwise_iff_getElem]
     intro i j hi hj hij
     induction j with
     | zero => omega
     | succ j ih =>
       have g1 := g j (by omega) hj
       rcases Nat.lt_succ_iff_lt_or_eq.1 hij with h3 | h3
       · have := ih (by omega) h3; omega
       · subst h3; exact g1
   · intro g i hi h
     exact List.pairwise_iff_getElem.1 g i (i + 1) (by omega) h (by omega)
 unfold slices_IsSortedFunc_api_RefEvent_at_history_Valid_4 sortB
 by_cases h0 : l.length = 0
 · have : l = [] := List.eq_nil_of_length_eq_zero h0
   subst this
   have e : iter (slices_IsSortedFunc_api_RefEvent_at_history_Valid_4_l0 []) (IntKind.i64.wrap ((([] : List api_RefEvent).length : Int) - 1)) = some (.inl ()) := by
     refine iter_out ?_
     unfold slices_IsSortedFunc_api_RefEvent_at_history_Valid_4_l0
     rw [if_neg (by simp [IntKind.wrap, IntKind.signed, IntKind.bits])]
   rw [e]; simp
 · have hw : IntKind.i64.wrap ((l.length : Int) - 1) = ((l.length - 1 : Nat) : Int) := by rw [w64 (by omega) (by omega)]; omega
   rw [hw, key (l.length - 1) (by omega)]
   by_cases hc : ∀ i, i < l.length - 1 → ∀ (h : i + 1 < l.length), l[i].Time ≤ l[i + 1].Time
   · rw [if_pos hc, decide_eq_true (hP.1 hc)]; rfl
   · rw [if_neg hc, decide_eq_false (fun g => hc (hP.2 g))]; rfl
noncomputable def nameStep (m : List (ByteArray × Bool)) (e : api_RefEvent) : List (ByteArray × Bool) := if e.Kind = 1 then mset stE m e.Name true else mdel stE m e.Name
noncomputable def manyB : List api_RefEvent → List (ByteArray × Bool) → Bool
 | [], _ => false
 | e :: l, m => decide (32 < (nameStep m e).length) || manyB l (nameStep m e)
theorem many_eq {a0 : api_Repository} (h : a0.Events.length ≤ 1000000) : iter (history_Valid_l0 a0) (0, []) = some (if manyB a0.Events [] = true then .inr 3 else .inl ()) := by
 rw [iter_scanL a0.Events (fun m e => if 32 < (nameStep m e).length then (.inl (.inr 3) : (Unit ⊕ Int) ⊕ List (ByteArray × Bool)) else .inr (nameStep m e)) (fun _ => .inl ()) (fun i hi s => ?_) (fun s => ?_)]
 · congr 1
   generalize a0.Events = l
   generalize ([] : List (ByteArray × Bool)) = m
   induction l generalizing m with
   | nil => rfl
   | cons e l ih =>
     rw [scanL, manyB]
     by_cases hc : 32 < (nameStep m e).length
     · simp [hc]
     · rw [if_neg hc]
       simp only [hc, decide_false, Bool.false_or]
       exact ih _
 · unfold history_Valid_l0 nameStep
   rw [if_pos (by simp; omega), idx_lt hi]
   simp only [Option.bind_some]
   by_cases k : a0.Events[i].Kind = 1
   · rw [if_pos (by simpa using k), if_pos k]
     unfold history_Valid_j1
     rw [w64 (by omega) (by omega)]
     by_cases hc : 32 < (mset stE s a0.Events[i].Name true).length
     · rw [if_pos (by simp; omega), if_pos hc]
     · rw [if_neg (by simp; omega), if_neg hc]; rfl
   · rw [if_neg (by simpa using k), if_neg k]
     unfold history_Valid_j1
     rw [w64 (by omega) (by omega)]
     by_cases hc : 32 < (mdel stE s a0.Events[i].Name).length
     · rw [if_pos (by simp; omega), if_pos hc]
     · rw [if_neg (by simp; omega), if_neg hc]; rfl
 · unfold history_Valid_l0
   rw [if_neg (by simp)]
def FitR (a0 : api_Repository) : Prop := (∀ o ∈ a0.Objects, FitO o) ∧ ∀ e ∈ a0.Events, e.Name.size ≤ 1000000000
noncomputable def validE (a0 : api_Repository) : Int :=
 if 400 < a0.Objects.length ∨ 300 < a0.Events.length then 3 else
 if (a0.Objects.any (fun o => objE o != 0) || a0.Events.any wrongB) = true then 1 else
 if ¬(a0.Objects.map (·.ID)).Nodup then 7 else
 if (a0.Objects.any (fun o => !hereB (objM a0.Objects) o) || nlB (objM a0.Objects) a0.Events []) = true then 6 else
 if cycB (objM a0.Objects) = true then 8 else
 if a0.Events.any timeB = true then 2 else
 if sortB a0.Events = false then 11 else
 if manyB a0.Events [] = true then 3 else 0
theorem objE_zero {o : api_Object} : objE o = 0 ↔ numB o.ID = true ∧ (o.Data.length ≤ 65536 ∧ o.Items.length ≤ 64 ∧ o.Parents.length ≤ 8) ∧ rightB o = true := by
 unfold objE
 cases h : numB o.ID with
 | false => simp
 | true =>
   simp only [Bool.true_eq_false, if_false, true_and]
   split
   · simp; omega
   · cases h2 : rightB o with
     | false => simp
     | true => simp; omega
theorem objM_keys (l : List api_Object) : (objM l).map (·.1) = l.map (·.ID) := by simp [objM]
theorem valid_eq {a0 : api_Repository} (hf : FitR a0) : history_Valid a0 = some (validE a0) := by
 unfold history_Valid validE
 by_cases h1 : 400 < a0.Objects.length ∨ 300 < a0.Events.length
 · rw [if_pos h1]
   have : (decide (400 < ((a0.Objects).length : Int)) || decide (300 < ((a0.Events).length : Int))) = true := by
     simp only [Bool.or_eq_true, decide_eq_true_eq]; omega
   rw [this]; rfl
 · rw [if_neg h1]
   have : (decide (400 < ((a0.Objects).length : Int)) || decide (300 < ((a0.Events).length : Int))) = false := by
     simp only [Bool.or_eq_false_iff, decide_eq_false_iff_not]; omega
   rw [this, cF_obj (by omega) hf.1, cF_wrong (by omega) hf.2]
   simp only [Option.bind_some, Bool.false_eq_true, if_false]
   cases h2 : a0.Objects.any (fun o => objE o != 0) with
   | true => rfl
   | false =>
     simp only [Bool.false_eq_true, if_false, Bool.false_or, Option.bind_some]
     cases h3 : a0.Events.any wrongB with
     | true => rfl
     | false =>
       simp only [Bool.false_eq_true, if_false]
       rw [index_eq (by omega)]
       simp only [Option.bind_some]
       by_cases h4 : (a0.Objects.map (·.ID)).Nodup
       · rw [decide_eq_true (idxM_single.2 h4), idxM_nodup h4, if_neg (not_not_intro h4)]
         simp only [Bool.not_true, Bool.false_eq_true, if_false]
         have hob : ∀ o ∈ a0.Objects, objE o = 0 := fun o ho => by
           have := List.any_eq_false.1 h2 o ho
           simpa using this
         have hsz : ∀ o ∈ a0.Objects, o.Items.length ≤ 1000000 ∧ o.Parents.length ≤ 1000000 := fun o ho => by
           have := (objE_zero.1 (hob o ho)).2.1
           omega
         rw [cF_miss _ (by omega) hsz]
         simp only [Option.bind_some]
         cases h5 : a0.Objects.any (fun o => !hereB (objM a0.Objects) o) with
         | true => rfl
         | false =>
           simp only [Bool.false_eq_true, if_false, Bool.false_or]
           rw [nameless_eq (by omega)]
           simp only [Option.bind_some]
           cases h6 : nlB (objM a0.Objects) a0.Events [] with
           | true => rfl
           | false =>
             simp only [Bool.false_eq_true, if_false]
             have hcy : history_cycle (objM a0.Objects) = some (cycB (objM a0.Objects)) := by
               unfold history_cycle
               rw [if_pos]
               refine ⟨by rw [objM_keys]; exact h4, fun q hq => ?_⟩
               obtain ⟨o, ho, rfl⟩ := List.mem_map.1 hq
               have := hsz o ho
               simp only [fitO, Bool.and_eq_true, decide_eq_true_eq]
               exact ⟨this.2, this.1⟩
             rw [hcy]
             simp only [Option.bind_some]
             cases h7 : cycB (objM a0.Objects) with
             | true => rfl
             | false =>
               simp only [Bool.false_eq_true, if_false]
               rw [cF_time (by omega)]
               simp only [Option.bind_some]
               cases h8 : a0.Events.any timeB with
               | true => rfl
               | false =>
                 simp only [Bool.false_eq_true, if_false]
                 rw [sorted_eq (by omega)]
                 simp only [Option.bind_some]
                 cases h9 : sortB a0.Events with
                 | false => rfl
                 | true =>
                   simp only [Bool.not_true, Bool.true_eq_false, Bool.false_eq_true, if_false]
                   rw [many_eq (by omega)]
                   cases manyB a0.Events [] <;> rfl
       · rw [decide_eq_false (fun h => h4 (idxM_single.1 h)), if_pos h4]; rfl
structure OkV (a0 : api_Repository) : Prop where
 no : a0.Objects.length ≤ 400
 ne : a0.Events.length ≤ 300
 ob : ∀ o ∈ a0.Objects, objE o = 0
 ev : ∀ e ∈ a0.Events, wrongB e = false
 nd : (a0.Objects.map (·.ID)).Nodup
 hr : ∀ o ∈ a0.Objects, hereB (objM a0.Objects) o = true
 nl : nlB (objM a0.Objects) a0.Events [] = false
 cy : cycB (objM a0.Objects) = false
 tm : ∀ e ∈ a0.Events, timeB e = false
 so : a0.Events.Pairwise fun x y => x.Time ≤ y.Time
 mn : manyB a0.Events [] = false
theorem validE_zero {a0 : api_Repository} : validE a0 = 0 ↔ OkV a0 := by
 constructor
 · intro h
   unfold validE at h
   split at h
   · cases h
   split at h
   · cases h
   split at h
   · cases h
   split at h
   · cases h
   split at h
   · cases h
   split at h
   · cases h
   split at h
   · cases h
   split at h
   · cases h
   rename_i h1 h2 h3 h4 h5 h6 h7 h8
   have h2 : (a0.Objects.any (fun o => objE o != 0) || a0.Events.any wrongB) = false := by simpa only [Bool.not_eq_true] using h2
   have h4 : (a0.Objects.any (fun o => !hereB (objM a0.Objects) o) || nlB (objM a0.Objects) a0.Events []) = false := by simpa only [Bool.not_eq_true] using h4
   have h6 : a0.Events.any timeB = false := by simpa only [Bool.not_eq_true] using h6
   rw [Bool.or_eq_false_iff] at h2 h4
   exact ⟨by omega, by omega, fun o ho => by simpa using List.any_eq_false.1 h2.1 o ho, fun e he => by simpa using List.any_eq_false.1 h2.2 e he, Classical.not_not.1 h3, fun o ho => by simpa using List.any_eq_false.1 h4.1 o ho, h4.2, by simpa using h5, fun e he => by simpa using List.any_eq_false.1 h6 e he, by
     have : sortB a0.Events = true := by simpa using h7
     exact of_decide_eq_true this, by simpa using h8⟩
 · intro h
   unfold validE
   rw [if_neg (by have := h.no; have := h.ne; omega), if_neg, if_neg (not_not_intro h.nd), if_neg, if_neg (by rw [h.cy]; decide), if_neg, if_neg, if_neg (by rw [h.mn]; decide)]
   · have : sortB a0.Events = true := decide_eq_true h.so
     rw [this]; decide
   · rw [Bool.not_eq_true]
     exact List.any_eq_false.2 fun e he => by simpa using h.tm e he
   · rw [Bool.not_eq_true, Bool.or_eq_false_iff]
     exact ⟨List.any_eq_false.2 fun o ho => by simpa using h.hr o ho, h.nl⟩
   · rw [Bool.not_eq_true, Bool.or_eq_false_iff]
     exact ⟨List.any_eq_false.2 fun o ho => by simpa using h.ob o ho, List.any_eq_false.2 fun e he => by simpa using h.ev e he⟩
end Go.Vl
namespace Go.Vl
open Go
def TB (m : make_Tape) (b : Int) : Prop := 0 ≤ m.at_ ∧ m.at_ ≤ b
theorem TB.mono {m : make_Tape} {b c : Int} (h : TB m b) (hc : b ≤ c) : TB m c := ⟨h.1, Int.le_trans h.2 hc⟩
theorem next_b {m : make_Tape} {b : Int} (h : TB m b) (hb : b ≤ 1000000000) {n : Int} (hn : 0 < n) : ∃ v m', make_Tape_Next m n = some (v, m') ∧ 0 ≤ v ∧ v < n ∧ TB m' (b + 1) := by
 obtain ⟨h1, h2⟩ := h
 unfold make_Tape_Next
 by_cases hx : (m.L.length : Int) ≤ m.at_
 · rw [if_pos (by simpa using hx)]
   exact ⟨0, m, rfl, by omega, hn, h1, by omega⟩
 · rw [if_neg (by simpa using hx), idx_toNat h1 (by omega)]
   simp only [Option.bind_some, ck_t (show n ≠ 0 by omega), bAnd16]
   rw [Int.tmod_eq_emod_of_nonneg (Int.emod_nonneg _ (by omega)), w64 (by omega) (by omega)]
   exact ⟨_, _, rfl, Int.emod_nonneg _ (by omega), Int.emod_lt_of_pos _ hn, by simp only; omega, by simp only; omega⟩
theorem between_b {m : make_Tape} {b : Int} (h : TB m b) (hb : b ≤ 1000000000) {x y : Int} (hxy : x ≤ y) (hx : -1000000 ≤ x) (hy : y ≤ 1000000) : ∃ v m', make_Tape_Between m x y = some (v, m') ∧ x ≤ v ∧ v ≤ y ∧ TB m' (b + 1) := by
 unfold make_Tape_Between
 rw [w64 (x := y - x) (by omega) (by omega), w64 (x := y - x + 1) (by omega) (by omega)]
 obtain ⟨v, m', h1, h2, h3, h4⟩ := next_b h hb (n := y - x + 1) (by omega)
 rw [h1]
 simp only [Option.bind_some]
 rw [w64 (by omega) (by omega)]
 exact ⟨_, _, rfl, by omega, by omega, h4⟩
theorem sidxB {b : ByteArray} {i : Int} (h0 : 0 ≤ i) (h1 : i < b.size) : ∃ x, sidx b i = some x ∧ 0 ≤ x ∧ x < 256 := by
 have h2 : i.toNat < b.size := by omega
 have h3 := (b[i.toNat]).toNat_lt
 exact ⟨((b[i.toNat]).toNat : Int), by unfold sidx; rw [if_pos h0, getElem?_pos b i.toNat h2]; rfl, by omega, by omega⟩
theorem bytes_j {x0 : Int × make_Tape} {m : make_Tape} {b : Int} (hm : TB m b) (hb : b ≤ 1000000) {n i : Int} (hi : 0 ≤ i) (hn : n ≤ 1000000) (hin : i < n) {L : List Int} {p : Int} {out : List Int} (ho : (out.length : Int) = i) (w : Bool) :
   ∃ s', make_Bytes_j1 (x0.1, m) (i, L, p, out) w = some (.go s') ∧ s'.1 = i + 1 ∧ (s'.2.2.2.length : Int) = i + 1 ∧ TB ⟨s'.2.1, s'.2.2.1⟩ (b + 1) := by
 unfold make_Bytes_j1
 cases w with
 | true =>
   obtain ⟨v, m1, e1, v1, v2, t1⟩ := next_b hm (by omega) (n := 10) (by omega)
   simp only [if_true, e1, Option.bind_some]
   rw [ck_t (by simp <;> omega), w64 (x := i + 1) (by omega) (by omega)]
   exact ⟨_, rfl, rfl, by simp <;> omega, t1⟩
 | false =>
   obtain ⟨v, m1, e1, v1, v2, t1⟩ := next_b hm (by omega) (n := 8) (by omega)
   obtain ⟨x, ex, _, _⟩ := sidxB (b := (⟨#[97, 98, 99, 100, 101, 102, 116, 107]⟩ : ByteArray)) (i := v) v1 (by exact v2)
   simp only [Bool.false_eq_true, if_false, e1, Option.bind_some, ex]
   rw [ck_t (by simp <;> omega), w64 (x := i + 1) (by omega) (by omega)]
   exact ⟨_, rfl, rfl, by simp <;> omega, t1⟩
theorem bytes_b {m : make_Tape} {b : Int} (h : TB m b) (hb : b ≤ 100000) {n : Int} (h0 : 0 ≤ n) (hn : n ≤ 1000) : ∃ l m', make_Bytes m n = some (l, m') ∧ (l.length : Int) = n ∧ TB m' (b + 3 * n) := by
 unfold make_Bytes
 have key : ∃ e, iter (make_Bytes_l0 n) (0, m.L, m.at_, []) = some e ∧ (TB ⟨e.1, e.2.1⟩ (b + 3 * n) ∧ (e.2.2.length : Int) = n) := by
   refine iter_ex (body := make_Bytes_l0 n) (fun s => 0 ≤ s.1 ∧ s.1 ≤ n ∧ TB ⟨s.2.1, s.2.2.1⟩ (b + 3 * s.1) ∧ (s.2.2.2.length : Int) = s.1) (fun s => (n - s.1).toNat) _ ?_ ⟨by simp, h0, by simpa using h, by simp⟩
   rintro ⟨i, L, p, out⟩ ⟨g1, g2, g3, g4⟩
   simp only at g1 g2 g3 g4
   unfold make_Bytes_l0
   simp only
   by_cases hi : i < n
   · left
     obtain ⟨v, m1, e1, v1, v2, t1⟩ := next_b g3 (by omega) (n := 8) (by omega)
     rw [if_pos (by simpa using hi), e1]
     simp only [Option.bind_some]
     by_cases c0 : v = 0
     · rw [if_pos (by simpa using c0)]
       obtain ⟨v', m2, e2, w1, w2, t2⟩ := next_b t1 (by omega) (n := 8) (by omega)
       obtain ⟨x, ex, _, _⟩ := sidxB (b := (⟨#[32, 10, 61, 37, 43, 47, 45, 46]⟩ : ByteArray)) (i := v') w1 (by exact w2)
       simp only [e2, Option.bind_some, ex]
       rw [ck_t (by simp <;> omega), w64 (x := i + 1) (by omega) (by omega)]
       refine ⟨_, rfl, ⟨by simp only; omega, by simp only; omega, t2.mono (by simp only; omega), by simp <;> omega⟩, by simp only; omega⟩
     · rw [if_neg (by simpa using c0)]
       by_cases c1 : v = 1
       · rw [if_pos (by simpa using c1)]
         obtain ⟨v', m2, e2, w1, w2, t2⟩ := next_b t1 (by omega) (n := 256) (by omega)
         simp only [e2, Option.bind_some]
         rw [ck_t (by simp <;> omega), w64 (x := i + 1) (by omega) (by omega)]
         refine ⟨_, rfl, ⟨by simp only; omega, by simp only; omega, t2.mono (by simp only; omega), by simp <;> omega⟩, by simp only; omega⟩
       · rw [if_neg (by simpa using c1)]
         have hj := fun w => bytes_j (x0 := (v, m1)) t1 (by omega) g1 (n := n) (by omega) hi (L := L) (p := p) g4 w
         split
         · obtain ⟨s', e2, r1, r2, r3⟩ := hj (v == 2)
           exact ⟨s', e2, ⟨by omega, by omega, r3.mono (by omega), by omega⟩, by omega⟩
         · obtain ⟨s', e2, r1, r2, r3⟩ := hj (v == 3)
           exact ⟨s', e2, ⟨by omega, by omega, r3.mono (by omega), by omega⟩, by omega⟩
   · right
     have : i = n := by omega
     subst this
     rw [if_neg (by simp)]
     exact ⟨_, rfl, g3, g4⟩
 obtain ⟨e, h1, h2, h3⟩ := key
 rw [h1]
 exact ⟨_, _, rfl, h3, h2⟩
def kAt (os : List api_Object) (id k : Int) : Prop := ∃ o ∈ os, o.ID = id ∧ o.Kind = k
theorem kAt.mono {os l : List api_Object} {id k : Int} (h : kAt os id k) : kAt (os ++ l) id k := by
 obtain ⟨o, h1, h2⟩ := h
 exact ⟨o, List.mem_append_left _ h1, h2⟩
abbrev nA : ByteArray := ⟨#[97]⟩
abbrev nB : ByteArray := ⟨#[98]⟩
abbrev nD : ByteArray := ⟨#[100]⟩
abbrev nAnn : ByteArray := ⟨#[97, 110, 110]⟩
inductive MObj (os : List api_Object) (o : api_Object) : Prop
 | blob : o.Kind = 1 → o.Data.length ≤ 20 → o.Items = [] → o.Tree = 0 → o.Parents = [] → o.Author = ByteArray.empty → o.Time = 0 → MObj os o
 | tree : o.Kind = 2 → o.Data = [] → (o.Items.map (·.Name)).Sublist [nA, nB, nD] → (∀ x ∈ o.Items, x.ID < o.ID ∧ (kAt os x.ID 1 ∨ kAt os x.ID 2)) → o.Tree = 0 → o.Parents = [] → o.Author = ByteArray.empty → o.Time = 0 → MObj os o
 | commit : o.Kind = 3 → o.Data = [] → o.Items = [] → o.Tree < o.ID → kAt os o.Tree 2 → (∀ p ∈ o.Parents, p < o.ID ∧ kAt os p 3) → o.Parents.Nodup → o.Parents.length ≤ 2 → o.Author = nAnn → 0 ≤ o.Time → o.Time ≤ 20 → MObj os o
theorem MObj.mono {os l : List api_Object} {o : api_Object} (h : MObj os o) : MObj (os ++ l) o := by
 cases h with
 | blob h1 h2 h3 h4 h5 h6 h7 => exact .blob h1 h2 h3 h4 h5 h6 h7
 | tree h1 h2 h3 h4 h5 h6 h7 h8 => exact .tree h1 h2 h3 (fun x hx => ⟨(h4 x hx).1, (h4 x hx).2.imp kAt.mono kAt.mono⟩) h5 h6 h7 h8
 | commit h1 h2 h3 h4 h5 h6 h7 h8 h9 h10 h11 => exact .commit h1 h2 h3 h4 h5.mono (fun p hp => ⟨(h6 p hp).1, (h6 p hp).2.mono⟩) h7 h8 h9 h10 h11
structure MadeO (os : List api_Object) : Prop where
 ids : ∀ (i : Nat) (h : i < os.length), os[i].ID = (i : Int) + 1
 obj : ∀ o ∈ os, MObj os o
def tn (os : List api_Object) : Nat := (os.filter fun o => o.Kind == 2).length
theorem tn_push (os : List api_Object) (o : api_Object) : tn (os ++ [o]) = tn os + if o.Kind = 2 then 1 else 0 := by
 unfold tn
 rw [List.filter_append, List.length_append]
 congr 1
 by_cases h : o.Kind = 2 <;> simp [h]
theorem MadeO.nil : MadeO [] := ⟨fun i h => by simp at h, fun o h => by cases h⟩
theorem MadeO.le {os : List api_Object} (M : MadeO os) {id k : Int} (h : kAt os id k) : 1 ≤ id ∧ id ≤ os.length := by
 obtain ⟨o, ho, rfl, _⟩ := h
 obtain ⟨i, hi, rfl⟩ := List.getElem_of_mem ho
 rw [M.ids i hi]
 omega
theorem MadeO.push {os : List api_Object} (M : MadeO os) {o : api_Object} (hid : o.ID = (os.length : Int) + 1) (ho : MObj os o) : MadeO (os ++ [o]) := by
 refine ⟨fun i h => ?_, fun x hx => ?_⟩
 · rw [List.getElem_append]
   split
   · exact M.ids i _
   · have : i = os.length := by simp at h; omega
     subst this
     simpa using hid
 · rcases List.mem_append.1 hx with h | h
   · exact (M.obj x h).mono
   · rw [List.mem_singleton.1 h]; exact ho.mono
theorem MadeO.nd {os : List api_Object} (M : MadeO os) : (os.map (·.ID)).Nodup := by
 refine List.pairwise_iff_getElem.2 fun i j hi hj hij => ?_
 have hj' : j < os.length := by simpa using hj
 simp only [List.getElem_map]
 rw [M.ids, M.ids]
 omega
theorem add_eq {o : api_Object} {os : List api_Object} {ev : List api_RefEvent} {id : Int} (h : id = os.length) (hl : os.length ≤ 1000) :
   make_Repository_1_cbbo0 o id ⟨os, ev⟩ = some (id + 1, id + 1, ⟨os ++ [⟨id + 1, o.Kind, o.Data, o.Items, o.Tree, o.Parents, o.Author, o.Time⟩], ev⟩) := by
 unfold make_Repository_1_cbbo0
 rw [ck_t (by simp <;> omega), w64 (x := id + 1) (by omega) (by omega)]
 rfl
theorem l0_ex {m : make_Tape} (h : TB m 10) {K : Int} (h1 : 1 ≤ K) (h4 : K ≤ 4) : ∃ e, iter make_Repository_l0 (K, m.L, m.at_, [], 0, [], []) = some e ∧
   (TB ⟨e.1, e.2.1⟩ 200 ∧ e.2.2.1 = [] ∧ e.2.2.2.1 = (e.2.2.2.2.2.length : Int) ∧ (MadeO e.2.2.2.2.2 ∧ tn e.2.2.2.2.2 = 0) ∧ (e.2.2.2.2.2.length : Int) ≤ 4 ∧ (e.2.2.2.2.1.length : Int) = K ∧ ∀ x ∈ e.2.2.2.2.1, kAt e.2.2.2.2.2 x 1) := by
 refine iter_ex (body := make_Repository_l0) (fun s => 0 ≤ s.1 ∧ s.1 ≤ K ∧ TB ⟨s.2.1, s.2.2.1⟩ (10 + 40 * (K - s.1)) ∧ s.2.2.2.1 = [] ∧ s.2.2.2.2.1 = (s.2.2.2.2.2.2.length : Int) ∧ (MadeO s.2.2.2.2.2.2 ∧ tn s.2.2.2.2.2.2 = 0) ∧ (s.2.2.2.2.2.2.length : Int) + s.1 = K ∧ (s.2.2.2.2.2.1.length : Int) + s.1 = K ∧ ∀ x ∈ s.2.2.2.2.2.1, kAt s.2.2.2.2.2.2 x 1) (fun s => s.1.toNat) _ ?_ ⟨by simp only; omega, by simp only; omega, h.mono (by simp only; omega), rfl, rfl, ⟨MadeO.nil, rfl⟩, by simp, by simp, by simp⟩
 rintro ⟨k, L, p, ev, id, bl, os⟩ ⟨g1, g2, g3, g4, g5, g6, g7, g8, g9⟩
 simp only at g1 g2 g3 g4 g5 g6 g7 g8 g9
 unfold make_Repository_l0
 simp only
 by_cases hk : 0 < k
 · left
   obtain ⟨v, m1, e1, v1, v2, t1⟩ := next_b g3 (by omega) (n := 12) (by omega)
   obtain ⟨d, m2, e2, d1, t2⟩ := bytes_b t1 (by omega) v1 (by omega)
   rw [if_pos (by simpa using hk), e1]
   simp only [Option.bind_some, e2]
   rw [add_eq g5 (by omega)]
   simp only [Option.bind_some]
   rw [ck_t (by simp <;> omega), w64 (x := k - 1) (by omega) (by omega)]
   refine ⟨_, rfl, ⟨by simp only; omega, by simp only; omega, t2.mono (by simp only; omega), g4, by simp <;> omega, ?_, by simp <;> omega, by simp <;> omega, ?_⟩, by simp only; omega⟩
   · refine ⟨g6.1.push (by simp only; omega) (.blob rfl (by simp only; omega) rfl rfl rfl rfl rfl), ?_⟩
     simp only [tn_push, g6.2]
     rfl
   · intro x hx
     simp only [List.mem_append, List.mem_singleton] at hx
     rcases hx with hx | rfl
     · exact (g9 x hx).mono
     · exact ⟨_, List.mem_append_right _ (List.mem_singleton.2 rfl), rfl, rfl⟩
 · right
   have : k = 0 := by omega
   subst this
   rw [if_neg (by simp)]
   exact ⟨_, rfl, g3.mono (by omega), g4, g5, g6, by simp only; omega, by simp only; omega, g9⟩
theorem l4_ex {v2 : (List Int) × Int × (List api_RefEvent) × Int × (List Int) × (List api_Object)} {s18 : Int × (List Int) × Int × (List api_RefEvent) × Int × (List api_Object) × (List Int)} {m : make_Tape} {b : Int} (h : TB m b) (hb : b ≤ 10000) {os : List api_Object}
   (hbl : 1 ≤ v2.2.2.2.2.1.length) (hbl2 : v2.2.2.2.2.1.length ≤ 1000) (h1 : ∀ x ∈ v2.2.2.2.2.1, kAt os x 1) (htl : s18.2.2.2.2.2.2.length ≤ 1000) (h2 : ∀ x ∈ s18.2.2.2.2.2.2, kAt os x 2) :
   ∃ e, iter (make_Repository_l4 [nA, nB, nD] v2 s18) (0, m.L, m.at_, []) = some e ∧ (TB ⟨e.1, e.2.1⟩ (b + 6) ∧ (e.2.2.map (·.Name)).Sublist [nA, nB, nD] ∧ ∀ x ∈ e.2.2, kAt os x.ID 1 ∨ kAt os x.ID 2) := by
 refine iter_ex (body := make_Repository_l4 [nA, nB, nD] v2 s18) (fun s => 0 ≤ s.1 ∧ s.1 ≤ 3 ∧ TB ⟨s.2.1, s.2.2.1⟩ (b + 2 * s.1) ∧ (s.2.2.2.map (·.Name)).Sublist ([nA, nB, nD].take s.1.toNat) ∧ ∀ x ∈ s.2.2.2, kAt os x.ID 1 ∨ kAt os x.ID 2) (fun s => (3 - s.1).toNat) _ ?_ ⟨by simp, by simp, h.mono (by simp only; omega), by simp, by simp⟩
 rintro ⟨i, L, p, it⟩ ⟨g1, g2, g3, g4, g5⟩
 simp only at g1 g2 g3 g4 g5
 unfold make_Repository_l4
 simp only
 have hln : it.length ≤ 3 := by
   have := g4.length_le
   simp at this
   omega
 by_cases hi : i < 3
 · left
   rw [if_pos (by simp <;> omega), ck_t (by simp <;> omega), idx_toNat g1 (by simp <;> omega)]
   simp only [Option.bind_some]
   obtain ⟨v, m1, e1, v1, v2', t1⟩ := next_b g3 (by omega) (n := 3) (by omega)
   rw [e1, w64 (x := i + 1) (by omega) (by omega)]
   simp only [Option.bind_some]
   obtain ⟨j, rfl⟩ : ∃ j : Nat, i = (j : Int) := ⟨i.toNat, by omega⟩
   have hj : j < [nA, nB, nD].length := by simp <;> omega
   simp only [Int.toNat_natCast] at g4 ⊢
   have hsub : ∀ id, ((it ++ [(⟨[nA, nB, nD][j], id⟩ : api_Item)]).map (·.Name)).Sublist ([nA, nB, nD].take ((j : Int) + 1).toNat) := fun id => by
     have e : ((j : Int) + 1).toNat = j + 1 := by omega
     rw [e, List.take_succ_eq_append_getElem hj, List.map_append]
     exact g4.append (List.Sublist.refl _)
   have hsub2 : (it.map (·.Name)).Sublist ([nA, nB, nD].take ((j : Int) + 1).toNat) := by
     have e : ((j : Int) + 1).toNat = j + 1 := by omega
     rw [e, List.take_succ_eq_append_getElem hj]
     exact g4.trans (List.sublist_append_left _ _)
   have hput : ∀ id, (kAt os id 1 ∨ kAt os id 2) → ∀ x ∈ it ++ [(⟨[nA, nB, nD][j], id⟩ : api_Item)], kAt os x.ID 1 ∨ kAt os x.ID 2 := fun id hid x hx => by
     rcases List.mem_append.1 hx with hx | hx
     · exact g5 x hx
     · rw [List.mem_singleton.1 hx]; exact hid
   by_cases c0 : v = 0
   · rw [if_pos (by simpa using c0)]
     obtain ⟨v', m2, e2, w1, w2, t2⟩ := next_b t1 (by omega) (n := (v2.2.2.2.2.1.length : Int)) (by omega)
     rw [e2]
     simp only [Option.bind_some]
     rw [ck_t (by omega), idx_toNat w1 (by omega)]
     simp only [Option.bind_some]
     rw [ck_t (by simp <;> omega)]
     refine ⟨_, rfl, ⟨by simp only; omega, by simp only; omega, t2.mono (by simp only; omega), hsub _, hput _ (.inl (h1 _ (List.getElem_mem _)))⟩, by simp only; omega⟩
   · rw [if_neg (by simpa using c0)]
     by_cases c1 : v = 1
     · rw [if_pos (by simpa using c1)]
       by_cases c2 : 0 < (s18.2.2.2.2.2.2.length : Int)
       · rw [if_pos (by simpa using c2)]
         obtain ⟨v', m2, e2, w1, w2, t2⟩ := next_b t1 (by omega) (n := (s18.2.2.2.2.2.2.length : Int)) c2
         rw [e2]
         simp only [Option.bind_some]
         rw [ck_t (by omega), idx_toNat w1 (by omega)]
         simp only [Option.bind_some]
         rw [ck_t (by simp <;> omega)]
         refine ⟨_, rfl, ⟨by simp only; omega, by simp only; omega, t2.mono (by simp only; omega), hsub _, hput _ (.inr (h2 _ (List.getElem_mem _)))⟩, by simp only; omega⟩
       · rw [if_neg (by simpa using c2)]
         exact ⟨_, rfl, ⟨by simp only; omega, by simp only; omega, t1.mono (by simp only; omega), hsub2, g5⟩, by simp only; omega⟩
     · rw [if_neg (by simpa using c1)]
       exact ⟨_, rfl, ⟨by simp only; omega, by simp only; omega, t1.mono (by simp only; omega), hsub2, g5⟩, by simp only; omega⟩
 · right
   have : i = 3 := by omega
   subst this
   rw [if_neg (by simp)]
   exact ⟨_, rfl, g3.mono (by omega), g4, g5⟩
theorem l1_ex {v2 : (List Int) × Int × (List api_RefEvent) × Int × (List Int) × (List api_Object)} {m : make_Tape} (h : TB m 210) {os0 : List api_Object} (M : MadeO os0) (Mt : tn os0 = 0) (hl0 : os0.length ≤ 4) (hbl : 1 ≤ v2.2.2.2.2.1.length) (hbl2 : v2.2.2.2.2.1.length ≤ 1000) (hb : ∀ x ∈ v2.2.2.2.2.1, kAt os0 x 1) {id0 : Int} (hid : id0 = os0.length) {K : Int} (h1 : 1 ≤ K) (h4 : K ≤ 4) :
   ∃ e, iter (make_Repository_l1 v2) (K, m.L, m.at_, [], id0, os0, []) = some e ∧ (TB ⟨e.1, e.2.1⟩ 300 ∧ e.2.2.1 = [] ∧ e.2.2.2.1 = (e.2.2.2.2.1.length : Int) ∧ (MadeO e.2.2.2.2.1 ∧ tn e.2.2.2.2.1 ≤ 4) ∧ (e.2.2.2.2.1.length : Int) ≤ 8 ∧ (e.2.2.2.2.2.length : Int) = K ∧ ∀ x ∈ e.2.2.2.2.2, kAt e.2.2.2.2.1 x 2) := by
 refine iter_ex (body := make_Repository_l1 v2) (fun s => 0 ≤ s.1 ∧ s.1 ≤ K ∧ TB ⟨s.2.1, s.2.2.1⟩ (210 + 10 * (K - s.1)) ∧ s.2.2.2.1 = [] ∧ s.2.2.2.2.1 = (s.2.2.2.2.2.1.length : Int) ∧ (MadeO s.2.2.2.2.2.1 ∧ (tn s.2.2.2.2.2.1 : Int) + s.1 ≤ 4) ∧ (s.2.2.2.2.2.1.length : Int) + s.1 ≤ 8 ∧ (s.2.2.2.2.2.2.length : Int) + s.1 = K ∧ (∀ x ∈ s.2.2.2.2.2.2, kAt s.2.2.2.2.2.1 x 2) ∧ ∀ x ∈ v2.2.2.2.2.1, kAt s.2.2.2.2.2.1 x 1) (fun s => s.1.toNat) _ ?_ ⟨by simp only; omega, by simp only; omega, h.mono (by simp only; omega), rfl, hid, ⟨M, by simp only; omega⟩, by simp only; omega, by simp, by simp, hb⟩
 rintro ⟨k, L, p, ev, id, os, tr⟩ ⟨g1, g2, g3, g4, g5, g6, g7, g8, g9, g10⟩
 simp only at g1 g2 g3 g4 g5 g6 g7 g8 g9 g10
 unfold make_Repository_l1
 simp only
 by_cases hk : 0 < k
 · left
   obtain ⟨e, e1, t1, i1, i2⟩ := l4_ex (s18 := (k, L, p, ev, id, os, tr)) g3 (by omega) hbl hbl2 g10 (by simp only; omega) g9
   rw [if_pos (by simpa using hk)]
   simp only [Option.bind_some]
   have e1' : iter (make_Repository_l4 [(⟨#[97]⟩ : ByteArray), (⟨#[98]⟩ : ByteArray), (⟨#[100]⟩ : ByteArray)] v2 (k, L, p, ev, id, os, tr)) (0, L, p, []) = some e := e1
   rw [e1']
   simp only [Option.bind_some]
   rw [add_eq g5 (by omega)]
   simp only [Option.bind_some]
   rw [ck_t (by simp <;> omega), w64 (x := k - 1) (by omega) (by omega)]
   refine ⟨_, rfl, ⟨by simp only; omega, by simp only; omega, t1.mono (by simp only; omega), g4, by simp <;> omega, ?_, by simp <;> omega, by simp <;> omega, ?_, fun x hx => (g10 x hx).mono⟩, by simp only; omega⟩
   · refine ⟨g6.1.push (by simp only; omega) (.tree rfl rfl i1 (fun x hx => ⟨?_, i2 x hx⟩) rfl rfl rfl rfl), by simp only [tn_push]; have := g6.2; simp; omega⟩
     rcases i2 x hx with h | h
     · have := g6.1.le h; simp only; omega
     · have := g6.1.le h; simp only; omega
   · intro x hx
     simp only [List.mem_append, List.mem_singleton] at hx
     rcases hx with hx | rfl
     · exact (g9 x hx).mono
     · exact ⟨_, List.mem_append_right _ (List.mem_singleton.2 rfl), rfl, rfl⟩
 · right
   have : k = 0 := by omega
   subst this
   rw [if_neg (by simp)]
   exact ⟨_, rfl, g3.mono (by omega), g4, g5, ⟨g6.1, by have := g6.2; simp only; omega⟩, by simp only; omega, by simp only; omega, g9⟩
theorem l3_ex {s8 : Int × (List Int) × Int × (List api_RefEvent) × Int × (List api_Object) × (List Int)} {m : make_Tape} {b : Int} (h : TB m b) (hb : b ≤ 10000) (hl : s8.2.2.2.2.2.2.length ≤ 1000) (hn : s8.2.2.2.2.2.2.Nodup) :
   ∃ e, iter (make_Repository_l3 s8) (IntKind.i64.wrap (((s8.2.2.2.2.2.2).length : Int) - 1), m.L, m.at_, []) = some e ∧ (TB ⟨e.1, e.2.1⟩ (b + s8.2.2.2.2.2.2.length) ∧ e.2.2.Nodup ∧ e.2.2.length ≤ 2 ∧ ∀ x ∈ e.2.2, x ∈ s8.2.2.2.2.2.2) := by
 generalize hcs : s8.2.2.2.2.2.2 = cs at *
 rw [w64 (by omega) (by omega)]
 refine iter_ex (body := make_Repository_l3 s8) (fun s => -1 ≤ s.1 ∧ s.1 < cs.length ∧ TB ⟨s.2.1, s.2.2.1⟩ (b + (cs.length - 1 - s.1)) ∧ s.2.2.2.Nodup ∧ s.2.2.2.length ≤ 2 ∧ ∀ x ∈ s.2.2.2, ∃ j : Nat, s.1 < (j : Int) ∧ cs[j]? = some x) (fun s => (s.1 + 1).toNat) _ ?_ ⟨by simp only; omega, by simp only; omega, h.mono (by simp only; omega), .nil, by simp, by simp⟩
 rintro ⟨q, L, p, ps⟩ ⟨g1, g2, g3, g4, g5, g6⟩
 simp only at g1 g2 g3 g4 g5 g6
 unfold make_Repository_l3
 simp only [Option.bind_some]
 by_cases hc : 0 ≤ q ∧ ps.length < 2
 · left
   have hcb : (decide (0 ≤ q) && decide ((ps.length : Int) < 2)) = true := by simp only [Bool.and_eq_true, decide_eq_true_eq]; omega
   rw [if_pos hcb]
   obtain ⟨v, m1, e1, v1, v2, t1⟩ := next_b g3 (by omega) (n := 2) (by omega)
   rw [e1, w64 (x := q - 1) (by omega) (by omega)]
   simp only [Option.bind_some]
   by_cases c0 : v = 0
   · rw [if_pos (by simpa using c0), hcs, ck_t (by omega), idx_toNat hc.1 (by omega)]
     simp only [Option.bind_some]
     rw [ck_t (by simp <;> omega)]
     refine ⟨_, rfl, ⟨by simp only; omega, by simp only; omega, t1.mono (by simp only; omega), ?_, by simp <;> omega, fun x hx => ?_⟩, by simp only; omega⟩
     · rw [List.nodup_append]
       refine ⟨g4, by simp, fun a ha c hc' => ?_⟩
       rw [List.mem_singleton] at hc'
       subst hc'
       obtain ⟨j, h1, h2⟩ := g6 a ha
       intro e
       subst e
       have hj : j < cs.length := (List.getElem?_eq_some_iff.1 h2).1
       have := (List.pairwise_iff_getElem.1 hn) q.toNat j (by omega) hj (by omega)
       rw [List.getElem?_eq_getElem hj] at h2
       exact this (Option.some.inj h2).symm
     · simp only [List.mem_append, List.mem_singleton] at hx
       rcases hx with hx | rfl
       · obtain ⟨j, h1, h2⟩ := g6 x hx
         exact ⟨j, by simp only; omega, h2⟩
       · exact ⟨q.toNat, by simp only; omega, List.getElem?_eq_getElem (by omega)⟩
   · rw [if_neg (by simpa using c0)]
     refine ⟨_, rfl, ⟨by simp only; omega, by simp only; omega, t1.mono (by simp only; omega), g4, g5, fun x hx => ?_⟩, by simp only; omega⟩
     obtain ⟨j, h1, h2⟩ := g6 x hx
     exact ⟨j, by simp only; omega, h2⟩
 · right
   have hcb : ¬(decide (0 ≤ q) && decide ((ps.length : Int) < 2)) = true := by simp only [Bool.and_eq_true, decide_eq_true_eq]; omega
   rw [if_neg hcb]
   refine ⟨_, rfl, g3.mono (by omega), g4, g5, fun x hx => ?_⟩
   obtain ⟨j, _, h2⟩ := g6 x hx
   exact List.mem_of_getElem? h2
theorem l2_ex {v4 : (List Int) × Int × (List api_RefEvent) × Int × (List api_Object) × (List Int)} {m : make_Tape} (h : TB m 310) {os0 : List api_Object} (M : MadeO os0) (Mt : tn os0 ≤ 4) (hl0 : os0.length ≤ 8) (htl : 1 ≤ v4.2.2.2.2.2.length) (htl2 : v4.2.2.2.2.2.length ≤ 1000) (hb : ∀ x ∈ v4.2.2.2.2.2, kAt os0 x 2) {id0 : Int} (hid : id0 = os0.length) {K : Int} (h1 : 1 ≤ K) (h4 : K ≤ 5) :
   ∃ e, iter (make_Repository_l2 v4) (K, m.L, m.at_, [], id0, os0, []) = some e ∧ (TB ⟨e.1, e.2.1⟩ 400 ∧ e.2.2.1 = [] ∧ (MadeO e.2.2.2.1 ∧ tn e.2.2.2.1 ≤ 4) ∧ (e.2.2.2.1.length : Int) ≤ 13 ∧ (e.2.2.2.2.length : Int) = K ∧ ∀ x ∈ e.2.2.2.2, kAt e.2.2.2.1 x 3) := by
 refine iter_ex (body := make_Repository_l2 v4) (fun s => 0 ≤ s.1 ∧ s.1 ≤ K ∧ TB ⟨s.2.1, s.2.2.1⟩ (310 + 10 * (K - s.1)) ∧ s.2.2.2.1 = [] ∧ s.2.2.2.2.1 = (s.2.2.2.2.2.1.length : Int) ∧ (MadeO s.2.2.2.2.2.1 ∧ tn s.2.2.2.2.2.1 ≤ 4) ∧ (s.2.2.2.2.2.1.length : Int) + s.1 ≤ 13 ∧ ((s.2.2.2.2.2.2.length : Int) + s.1 = K ∧ s.2.2.2.2.2.2.Nodup) ∧ (∀ x ∈ s.2.2.2.2.2.2, kAt s.2.2.2.2.2.1 x 3) ∧ ∀ x ∈ v4.2.2.2.2.2, kAt s.2.2.2.2.2.1 x 2) (fun s => s.1.toNat) _ ?_ ⟨by simp only; omega, by simp only; omega, h.mono (by simp only; omega), rfl, hid, ⟨M, Mt⟩, by simp only; omega, ⟨by simp, .nil⟩, by simp, hb⟩
 rintro ⟨k, L, p, ev, id, os, cs⟩ ⟨g1, g2, g3, g4, g5, g6, g7, ⟨g8, g8n⟩, g9, g10⟩
 simp only at g1 g2 g3 g4 g5 g6 g7 g8 g8n g9 g10
 unfold make_Repository_l2
 simp only
 by_cases hk : 0 < k
 · left
   obtain ⟨v, m1, e1, v1, v2, t1⟩ := next_b g3 (by omega) (n := (v4.2.2.2.2.2.length : Int)) (by omega)
   rw [if_pos (by simpa using hk), e1]
   simp only [Option.bind_some]
   rw [ck_t (by omega), idx_toNat v1 (by omega)]
   simp only [Option.bind_some]
   obtain ⟨u, m2, e2, u1, u2, t2⟩ := next_b t1 (by omega) (n := 20) (by omega)
   rw [e2]
   simp only [Option.bind_some]
   obtain ⟨e, e3, t3, i1, i2, i3⟩ := l3_ex (s8 := (k, L, p, ev, id, os, cs)) t2 (by omega) (by simp only; omega) g8n
   simp only at e3 t3 i3
   rw [e3]
   simp only [Option.bind_some]
   rw [add_eq g5 (by omega)]
   simp only [Option.bind_some]
   rw [ck_t (by simp <;> omega), w64 (x := k - 1) (by omega) (by omega)]
   have hT : kAt os (v4.2.2.2.2.2[v.toNat]'(by omega)) 2 := g10 _ (List.getElem_mem _)
   refine ⟨_, rfl, ⟨by simp only; omega, by simp only; omega, t3.mono (by simp only; omega), g4, by simp <;> omega, ?_, by simp <;> omega, ⟨by simp <;> omega, ?_⟩, ?_, fun x hx => (g10 x hx).mono⟩, by simp only; omega⟩
   · refine ⟨g6.1.push (by simp only; omega) (.commit rfl rfl rfl ?_ hT (fun x hx => ⟨?_, g9 x (i3 x hx)⟩) i1 i2 rfl u1 (by simp only; omega)), by simp only [tn_push]; have := g6.2; simp; omega⟩
     · have := g6.1.le hT; simp only; omega
     · have := g6.1.le (g9 x (i3 x hx)); simp only; omega
   · simp only
     rw [List.nodup_append]
     refine ⟨g8n, by simp, fun a ha c hc => ?_⟩
     rw [List.mem_singleton] at hc
     subst hc
     have := g6.1.le (g9 a ha)
     omega
   · intro x hx
     simp only [List.mem_append, List.mem_singleton] at hx
     rcases hx with hx | rfl
     · exact (g9 x hx).mono
     · exact ⟨_, List.mem_append_right _ (List.mem_singleton.2 rfl), rfl, rfl⟩
 · right
   have : k = 0 := by omega
   subst this
   rw [if_neg (by simp)]
   exact ⟨_, rfl, g3.mono (by omega), g4, g6, by simp only; omega, by simp only; omega, g9⟩
abbrev nMain : ByteArray := ⟨#[109, 97, 105, 110]⟩
abbrev nOld : ByteArray := ⟨#[111, 108, 100]⟩
abbrev nX : ByteArray := ⟨#[120]⟩
abbrev nNew : ByteArray := ⟨#[110, 101, 119]⟩
structure EvOk (os : List api_Object) (e : api_RefEvent) : Prop where
 k : (e.Kind = 1 ∧ kAt os e.Commit 3) ∨ (e.Kind = 2 ∧ e.Commit = 0)
 n : e.Name ∈ [nMain, nOld, nX, nNew]
 t : 0 ≤ e.Time ∧ e.Time ≤ 100
noncomputable def nmF (l : List api_RefEvent) : List (ByteArray × Bool) := l.foldl (fun m e => mset stE m e.Name (e.Kind == 1)) []
noncomputable def delB : List api_RefEvent → List (ByteArray × Bool) → Bool
 | [], _ => true
 | e :: l, m => (e.Kind != 2 || (mget stE m e.Name).getD false) && delB l (mset stE m e.Name (e.Kind == 1))
theorem delB_append : ∀ (l l2 : List api_RefEvent) (m : List (ByteArray × Bool)), delB (l ++ l2) m = (delB l m && delB l2 (l.foldl (fun m e => mset stE m e.Name (e.Kind == 1)) m))
 | [], l2, m => by simp [delB]
 | e :: l, l2, m => by simp only [List.cons_append, delB, List.foldl_cons, delB_append l l2]; rw [Bool.and_assoc]
structure MadeE (os : List api_Object) (l : List api_RefEvent) : Prop where
 ok : ∀ e ∈ l, EvOk os e
 so : l.Pairwise fun x y => x.Time ≤ y.Time
 dl : delB l [] = true
theorem events_ex {m : make_Tape} (h : TB m 400) {os : List api_Object} {cs : List Int} (hl : 1 ≤ cs.length) (hl2 : cs.length ≤ 1000) (hc : ∀ x ∈ cs, kAt os x 3) : ∃ l m', make_Events m cs = some (l, m') ∧ MadeE os l ∧ l.length ≤ 7 ∧ (∀ e ∈ l, e.Time ≤ 20) ∧ TB m' 500 := by
 unfold make_Events
 obtain ⟨v, m1, e1, v1, v2, t1⟩ := next_b h (by omega) (n := 4) (by omega)
 rw [e1]
 simp only [Option.bind_some]
 obtain ⟨K, m2, e2, u1, u2, t2⟩ := next_b t1 (by omega) (n := 8) (by omega)
 rw [e2]
 simp only [Option.bind_some]
 have key : ∃ e, iter (make_Events_l0 cs) (v, K, m2.L, m2.at_, [], []) = some e ∧ (TB ⟨e.1, e.2.1⟩ 500 ∧ MadeE os e.2.2 ∧ e.2.2.length ≤ 7 ∧ ∀ x ∈ e.2.2, x.Time ≤ 20) := by
   refine iter_ex (body := make_Events_l0 cs) (fun s => 0 ≤ s.2.1 ∧ s.2.1 ≤ 7 ∧ (0 ≤ s.1 ∧ s.1 + 2 * s.2.1 ≤ 20) ∧ TB ⟨s.2.2.1, s.2.2.2.1⟩ (410 + 5 * (7 - s.2.1)) ∧ s.2.2.2.2.1 = nmF s.2.2.2.2.2 ∧ (s.2.2.2.2.2.length : Int) + s.2.1 ≤ 7 ∧ MadeE os s.2.2.2.2.2 ∧ ∀ e ∈ s.2.2.2.2.2, e.Time ≤ s.1) (fun s => s.2.1.toNat) _ ?_ ⟨u1, by simp only; omega, ⟨v1, by simp only; omega⟩, t2.mono (by simp only; omega), rfl, by simp only [List.length_nil]; omega, ⟨by simp, .nil, rfl⟩, by simp⟩
   rintro ⟨now, k, L, p, th, out⟩ ⟨g1, g2, ⟨g3, g3'⟩, g4, g5, g6, g7, g8⟩
   simp only at g1 g2 g3 g3' g4 g5 g6 g7 g8
   unfold make_Events_l0
   simp only
   by_cases hk : 0 < k
   · left
     rw [if_pos (by simpa using hk)]
     obtain ⟨a, m3, e3, a1, a2, t3⟩ := next_b g4 (by omega) (n := 3) (by omega)
     rw [e3]
     simp only [Option.bind_some]
     obtain ⟨b, m4, e4, b1, b2, t4⟩ := next_b t3 (by omega) (n := 3) (by omega)
     rw [e4]
     simp only [Option.bind_some]
     rw [ck_t (by simp <;> omega), idx_toNat b1 (by simp <;> omega)]
     simp only [Option.bind_some]
     have hnm : ([nMain, nOld, nX][b.toNat]'(by simp <;> omega)) ∈ [nMain, nOld, nX, nNew] := by
       have : ([nMain, nOld, nX][b.toNat]'(by simp <;> omega)) ∈ [nMain, nOld, nX] := List.getElem_mem _
       exact List.mem_append_left [nNew] this
     rw [show ([(⟨#[109, 97, 105, 110]⟩ : ByteArray), (⟨#[111, 108, 100]⟩ : ByteArray), (⟨#[120]⟩ : ByteArray)][b.toNat]'(by simp <;> omega)) = ([nMain, nOld, nX][b.toNat]'(by simp <;> omega)) from rfl]
     generalize [nMain, nOld, nX][b.toNat]'(by simp <;> omega) = nm at hnm ⊢
     rw [w64 (x := now + a) (by omega) (by omega), w64 (x := k - 1) (by omega) (by omega)]
     have hfin : ∀ (e : api_RefEvent), EvOk os e → e.Time = now + a → e.Name = nm → (e.Kind = 2 → (mget stE th nm).getD false = true) → MadeE os (out ++ [e]) ∧ (∀ x ∈ out ++ [e], x.Time ≤ now + a) ∧ mset stE th nm (e.Kind == 1) = nmF (out ++ [e]) := fun e hok ht hn hd => by
       refine ⟨⟨fun x hx => ?_, ?_, ?_⟩, fun x hx => ?_, ?_⟩
       · rcases List.mem_append.1 hx with h | h
         · exact g7.ok x h
         · rw [List.mem_singleton.1 h]; exact hok
       · rw [List.pairwise_append]
         exact ⟨g7.so, List.pairwise_singleton _ _, fun x hx y hy => by rw [List.mem_singleton.1 hy, ht]; have := g8 x hx; omega⟩
       · rw [delB_append, g7.dl]
         have : out.foldl (fun m e => mset stE m e.Name (e.Kind == 1)) [] = th := g5.symm
         rw [this]
         simp only [delB, Bool.true_and, Bool.and_true, hn]
         by_cases k2 : e.Kind = 2
         · rw [hd k2]; simp
         · simp [k2]
       · rcases List.mem_append.1 hx with h | h
         · have := g8 x h; omega
         · rw [List.mem_singleton.1 h, ht]; exact Int.le_refl _
       · unfold nmF
         rw [List.foldl_append, List.foldl_cons, List.foldl_nil]
         have : out.foldl (fun m e => mset stE m e.Name (e.Kind == 1)) [] = th := g5.symm
         rw [this, hn]
     have hset : ∀ (L' : List Int) (p' : Int), TB ⟨L', p'⟩ (413 + 5 * (7 - k)) → ∃ s', ((make_Tape_Next (⟨L', p'⟩ : make_Tape) ((cs).length : Int)).bind fun y9 =>
         (idx cs y9.1).bind fun x10 =>
         (ck ((out).length + ([(⟨1, nm, x10, now + a⟩ : api_RefEvent)]).length ≤ 268435456)).bind fun _ =>
         some (Lp.go (ε := (List Int) × Int × (List api_RefEvent)) (now + a, k - 1, y9.2.L, y9.2.at_, (mset stE th nm true), (out ++ [(⟨1, nm, x10, now + a⟩ : api_RefEvent)])))) = some (.go s') ∧ (0 ≤ s'.2.1 ∧ s'.2.1 ≤ 7 ∧ (0 ≤ s'.1 ∧ s'.1 + 2 * s'.2.1 ≤ 20) ∧ TB ⟨s'.2.2.1, s'.2.2.2.1⟩ (410 + 5 * (7 - s'.2.1)) ∧ s'.2.2.2.2.1 = nmF s'.2.2.2.2.2 ∧ (s'.2.2.2.2.2.length : Int) + s'.2.1 ≤ 7 ∧ MadeE os s'.2.2.2.2.2 ∧ ∀ e ∈ s'.2.2.2.2.2, e.Time ≤ s'.1) ∧ s'.2.1.toNat < k.toNat := fun L' p' ht => by
       obtain ⟨c, m5, e5, c1, c2, t5⟩ := next_b ht (by omega) (n := (cs.length : Int)) (by omega)
       rw [e5]
       simp only [Option.bind_some]
       rw [idx_toNat c1 (by omega)]
       simp only [Option.bind_some]
       rw [ck_t (by simp <;> omega)]
       obtain ⟨f1, f2, f3⟩ := hfin ⟨1, nm, cs[c.toNat]'(by omega), now + a⟩ ⟨.inl ⟨rfl, hc _ (List.getElem_mem _)⟩, hnm, by simp only; omega⟩ rfl rfl (fun h => by cases h)
       exact ⟨_, rfl, ⟨by simp only; omega, by simp only; omega, ⟨by simp only; omega, by simp only; omega⟩, t5.mono (by simp only; omega), f3, by simp <;> omega, f1, f2⟩, by simp only; omega⟩
     by_cases hth : (mget stE th nm).getD false = true
     · rw [if_pos hth]
       obtain ⟨d, m5, e5, d1, d2, t5⟩ := next_b t4 (by omega) (n := 3) (by omega)
       rw [e5]
       simp only [Option.bind_some]
       by_cases c0 : d = 0
       · rw [if_pos (by simpa using c0), ck_t (by simp <;> omega)]
         obtain ⟨f1, f2, f3⟩ := hfin ⟨2, nm, 0, now + a⟩ ⟨.inr ⟨rfl, rfl⟩, hnm, by simp only; omega⟩ rfl rfl (fun _ => hth)
         exact ⟨_, rfl, ⟨by simp only; omega, by simp only; omega, ⟨by simp only; omega, by simp only; omega⟩, t5.mono (by simp only; omega), f3, by simp <;> omega, f1, f2⟩, by simp only; omega⟩
       · rw [if_neg (by simpa using c0)]
         exact hset m5.L m5.at_ (t5.mono (by omega))
     · rw [if_neg hth]
       simp only [Option.bind_some, Bool.false_eq_true, if_false]
       exact hset m4.L m4.at_ (t4.mono (by omega))
   · right
     have : k = 0 := by omega
     subst this
     rw [if_neg (by simp)]
     exact ⟨_, rfl, g4.mono (by omega), g7, by simp only; omega, fun e he => by have := g8 e he; omega⟩
 obtain ⟨e, h1, h2, h3, h4, h5⟩ := key
 rw [h1]
 exact ⟨_, _, rfl, h3, h4, h5, h2⟩
structure MadeR (r : api_Repository) : Prop where
 o : MadeO r.Objects
 lo : r.Objects.length ≤ 13
 cm : ∃ o ∈ r.Objects, o.Kind = 3
 e : MadeE r.Objects r.Events
 le : r.Events.length ≤ 10
 tn : tn r.Objects ≤ 4
theorem repo_ex (a : List Int) : ∃ r m, make_Repository ⟨a, 0⟩ = some (r, m) ∧ MadeR r ∧ r.Events.length ≤ 7 ∧ (∀ e ∈ r.Events, e.Time ≤ 20) ∧ TB m 500 := by
 unfold make_Repository
 obtain ⟨k1, m1, e1, a1, b1, t1⟩ := between_b (m := ⟨a, 0⟩) (b := 0) ⟨Int.le_refl _, Int.le_refl _⟩ (by omega) (x := 1) (y := 4) (by omega) (by omega) (by omega)
 rw [e1]
 simp only [Option.bind_some]
 obtain ⟨⟨L1, p1, ev1, id1, bl1, os1⟩, e2, t2, x1, x2, x3, x4, x5, x6⟩ := l0_ex (t1.mono (by omega)) a1 b1
 rw [e2]
 simp only at t2 x1 x2 x3 x4 x5 x6
 simp only [Option.bind_some]
 subst x1
 obtain ⟨k2, m2, e3, a2, b2, t3⟩ := between_b t2 (by omega) (x := 1) (y := 4) (by omega) (by omega) (by omega)
 rw [e3]
 simp only [Option.bind_some]
 obtain ⟨⟨L2, p2, ev2, id2, os2, tr2⟩, e4, t4, y1, y2, y3, y4, y5, y6⟩ := l1_ex (v2 := (L1, p1, [], id1, bl1, os1)) (t3.mono (by omega)) x3.1 x3.2 (by omega) (by simp only; omega) (by simp only; omega) x6 x2 a2 b2
 rw [e4]
 simp only at t4 y1 y2 y3 y4 y5 y6
 simp only [Option.bind_some]
 subst y1
 obtain ⟨k3, m3, e5, a3, b3, t5⟩ := between_b t4 (by omega) (x := 1) (y := 5) (by omega) (by omega) (by omega)
 rw [e5]
 simp only [Option.bind_some]
 obtain ⟨⟨L3, p3, ev3, os3, cs3⟩, e6, t6, z1, z2, z3, z4, z5⟩ := l2_ex (v4 := (L2, p2, [], id2, os2, tr2)) (t5.mono (by omega)) y3.1 y3.2 (by omega) (by simp only; omega) (by simp only; omega) y6 y2 a3 b3
 rw [e6]
 simp only at t6 z1 z2 z3 z4 z5
 simp only [Option.bind_some]
 obtain ⟨ev, m4, e7, w1, w2, w3, t7⟩ := events_ex t6 (cs := cs3) (by omega) (by omega) z5
 rw [e7]
 simp only [Option.bind_some]
 refine ⟨_, _, rfl, ⟨z2.1, by simp only; omega, ?_, w1, by simp only; omega, z2.2⟩, w2, w3, t7⟩
 obtain ⟨o, h1, _, h2⟩ := z5 (cs3[0]'(by omega)) (List.getElem_mem _)
 exact ⟨o, h1, h2⟩
end Go.Vl
namespace Go.Vl
open Go
theorem stE_eq (a b : ByteArray) : stE a b = true ↔ a = b := by
 unfold stE
 rw [beq_iff_eq, ByteArray.toList_eq, ByteArray.toList_eq]
 exact ⟨fun h => ByteArray.ext (Array.toList_inj.1 h), fun h => by rw [h]⟩
theorem nodup_len {α : Type} : ∀ {l m : List α}, l.Nodup → l ⊆ m → l.length ≤ m.length
 | [], _, _, _ => Nat.zero_le _
 | x :: l, m, h1, h2 => by
   rw [List.nodup_cons] at h1
   obtain ⟨s, t, rfl⟩ := List.append_of_mem (h2 (List.mem_cons_self ..))
   have : l ⊆ s ++ t := fun y hy => by
     rcases List.mem_append.1 (h2 (List.mem_cons_of_mem _ hy)) with h | h
     · exact List.mem_append_left _ h
     · rcases List.mem_cons.1 h with rfl | h
       · exact absurd hy h1.1
       · exact List.mem_append_right _ h
   have := nodup_len h1.2 this
   simp only [List.length_append, List.length_cons] at this ⊢
   omega
theorem leave_sub (l : List (Int × api_Object)) : (leaveL l).Sublist l := List.filter_sublist
theorem min_key : ∀ {l : List (Int × api_Object)}, l ≠ [] → ∃ q ∈ l, ∀ r ∈ l, q.1 ≤ r.1
 | [], h => absurd rfl h
 | [q], _ => ⟨q, by simp, by simp⟩
 | q :: r :: l, _ => by
   obtain ⟨p, hp, h⟩ := min_key (l := r :: l) (by simp)
   by_cases hc : q.1 ≤ p.1
   · refine ⟨q, by simp, fun x hx => ?_⟩
     rcases List.mem_cons.1 hx with rfl | hx
     · exact Int.le_refl _
     · exact Int.le_trans hc (h x hx)
   · refine ⟨p, List.mem_cons_of_mem _ hp, fun x hx => ?_⟩
     rcases List.mem_cons.1 hx with rfl | hx
     · omega
     · exact h x hx
theorem leave_lt {l : List (Int × api_Object)} (h : ∀ q ∈ l, ∀ j ∈ namesO q.2, j < q.1) (hne : l ≠ []) : (leaveL l).length < l.length := by
 obtain ⟨q, hq, hmin⟩ := min_key hne
 refine List.length_filter_lt_length_iff_exists.2 ⟨q, hq, ?_⟩
 rw [Bool.not_eq_true]
 refine List.any_eq_false.2 fun j hj hk => ?_
 unfold hasK at hk
 rw [mget_mem inE_eq] at hk
 obtain ⟨r, hr, h2⟩ := List.mem_map.1 hk
 have h1 := h q hq j hj
 have h3 := hmin r hr
 omega
theorem cycN_nil : ∀ (n : Nat) {l : List (Int × api_Object)}, (∀ q ∈ l, ∀ j ∈ namesO q.2, j < q.1) → l.length ≤ n → cycN n l = []
 | 0, l, _, hl => by
   have : l = [] := List.eq_nil_of_length_eq_zero (by omega)
   subst this; rfl
 | n + 1, l, h, hl => by
   rw [cycN]
   refine cycN_nil n (fun q hq => h q ((leave_sub l).subset hq)) ?_
   by_cases hne : l = []
   · subst hne; simp [leaveL]
   · have := leave_lt h hne; omega
theorem cyc_no {l : List (Int × api_Object)} (h : ∀ q ∈ l, ∀ j ∈ namesO q.2, j < q.1) : cycB l = false := by
 unfold cycB
 rw [cycN_nil l.length h (Nat.le_refl _)]; rfl
theorem many_no {ns : List ByteArray} (hn : ns.length ≤ 32) : ∀ {l : List api_RefEvent} {m : List (ByteArray × Bool)}, (∀ e ∈ l, e.Name ∈ ns) → (m.map (·.1)).Nodup → (∀ k ∈ m.map (·.1), k ∈ ns) → manyB l m = false
 | [], _, _, _, _ => rfl
 | e :: l, m, h, h1, h2 => by
   have h3 : ((nameStep m e).map (·.1)).Nodup := by
     unfold nameStep
     split
     · exact mset_nodup stE_eq h1 _ _
     · exact mdel_nodup h1 _
   have h4 : ∀ k ∈ (nameStep m e).map (·.1), k ∈ ns := by
     intro k hk
     unfold nameStep at hk
     split at hk
     · rcases (mset_mem stE_eq).1 hk with rfl | hk
       · exact h e (by simp)
       · exact h2 k hk
     · exact h2 k (((mdel_mem stE_eq h1).1 hk).2)
   have h5 := nodup_len h3 h4
   rw [manyB, many_no hn (fun x hx => h x (by simp [hx])) h3 h4]
   simp at h5 ⊢
   omega
theorem nlB_iff {all : List (Int × api_Object)} : ∀ {l : List api_RefEvent} {m : List (ByteArray × Bool)}, (∀ e ∈ l, e.Kind = 1 → kindM all e.Commit = 3) → delB l m = true → nlB all l m = false
 | [], _, _, _ => nl_nil _ _
 | e :: l, m, h, hd => by
   rw [delB, Bool.and_eq_true] at hd
   rw [nl_cons, nlB_iff (fun x hx => h x (by simp [hx])) hd.2, Bool.or_false]
   unfold bareB
   rw [Bool.or_eq_false_iff]
   constructor
   · by_cases k1 : e.Kind = 1
     · simp [h e (by simp) k1]
     · simp [k1]
   · cases hb : e.Kind == 2 with
     | false => rfl
     | true =>
       have := hd.1
       unfold bne at this
       rw [hb] at this
       simpa using this
theorem MadeO.kind {os : List api_Object} (M : MadeO os) {id k : Int} (h : kAt os id k) : kindM (objM os) id = k := by
 obtain ⟨o, ho, rfl, rfl⟩ := h
 unfold kindM
 have : mget inE (objM os) o.ID = some o := mget_of inE_eq (v := o) (by rw [objM_keys]; exact M.nd) (List.mem_map.2 ⟨o, ho, rfl⟩)
 rw [this]; rfl
theorem MadeO.id_le {os : List api_Object} (M : MadeO os) {o : api_Object} (h : o ∈ os) : 1 ≤ o.ID ∧ o.ID ≤ os.length := M.le ⟨o, h, rfl, rfl⟩
theorem nm3 : nmB nA = true ∧ nmB nB = true ∧ nmB nD = true ∧ nmB nAnn = true := by
 refine ⟨?_, ?_, ?_, ?_⟩ <;> decide +kernel
theorem nmz4 : ∀ n ∈ [nMain, nOld, nX, nNew], nmB n = true := by
 intro n hn
 simp only [List.mem_cons, List.not_mem_nil, or_false] at hn
 rcases hn with rfl | rfl | rfl | rfl <;> decide +kernel
theorem lt3 : [nA, nB, nD].Pairwise fun x y => Op.bytesLess x.toList y.toList = true := by
 simp only [List.pairwise_cons, List.mem_cons, List.not_mem_nil, or_false, ByteArray.toList_eq]
 refine ⟨?_, ?_, ?_, .nil⟩
 · rintro y (rfl | rfl) <;> decide +kernel
 · rintro y rfl; decide +kernel
 · intro y h; cases h
theorem other_no {o : api_Object} (h1 : o.Tree = 0) (h2 : o.Parents = []) (h3 : o.Author = ByteArray.empty) (h4 : o.Time = 0) : otherB o = false := by
 unfold otherB
 rw [h1, h2, h3, h4]
 have : ByteArray.empty = (⟨#[]⟩ : ByteArray) := rfl
 rw [this]
 simp
theorem items_ok {l : List api_Item} (h : (l.map (·.Name)).Sublist [nA, nB, nD]) (hid : ∀ x ∈ l, numB x.ID = true) : ∀ i, i < l.length → treeB l i = true := by
 intro i hi
 have hp := List.Pairwise.sublist h lt3
 have hn : ∀ x ∈ l, nmB x.Name = true := fun x hx => by
   have := h.subset (List.mem_map_of_mem (f := (·.Name)) hx)
   simp only [List.mem_cons, List.not_mem_nil, or_false] at this
   rcases this with e | e | e <;> rw [e]
   · exact nm3.1
   · exact nm3.2.1
   · exact nm3.2.2.1
 unfold treeB
 rw [List.getElem?_eq_getElem hi]
 simp only
 rw [hn _ (List.getElem_mem hi), hid _ (List.getElem_mem hi)]
 cases i with
 | zero => rfl
 | succ i =>
   simp only [Nat.add_sub_cancel, List.getElem?_eq_getElem (show i < l.length by omega)]
   have := List.pairwise_iff_getElem.1 hp i (i + 1) (by simp; omega) (by simp; omega) (by omega)
   simp only [List.getElem_map] at this
   rw [this]; simp
theorem parents_ok {l : List Int} (h : l.Nodup) (hid : ∀ x ∈ l, numB x = true) : ∀ i, i < l.length → parB l i = true := by
 intro i hi
 unfold parB
 rw [List.getElem?_eq_getElem hi]
 simp only
 rw [hid _ (List.getElem_mem hi), Bool.true_and, Bool.not_eq_true', List.contains_eq_mem, decide_eq_false_iff_not]
 intro hm
 obtain ⟨j, hj, e⟩ := List.getElem_of_mem hm
 rw [List.getElem_take] at e
 have hji : j < i := by simp at hj; omega
 have := (List.pairwise_iff_getElem.1 h) j i (by omega) hi hji
 exact this e
theorem numB_of {x : Int} (h : 1 ≤ x ∧ x ≤ 1000) : numB x = true := by
 unfold numB
 simp only [Bool.and_eq_true, decide_eq_true_eq]
 omega
theorem sub3_len {l : List api_Item} (h : (l.map (·.Name)).Sublist [nA, nB, nD]) : l.length ≤ 3 := by
 have := h.length_le
 simpa using this
theorem MadeO.objE {os : List api_Object} (M : MadeO os) (hl : os.length ≤ 1000) {o : api_Object} (ho : o ∈ os) : objE o = 0 := by
 have hid := M.id_le ho
 refine objE_zero.2 ⟨numB_of (by omega), ?_, ?_⟩
 · cases M.obj o ho with
   | blob h1 h2 h3 h4 h5 => rw [h3, h5]; simp; omega
   | tree h1 h2 h3 h4 h5 h6 => rw [h2, h6]; have := sub3_len h3; simp; omega
   | commit h1 h2 h3 h4 h5 h6 h7 h8 => rw [h2, h3]; simp; omega
 · unfold rightB
   cases M.obj o ho with
   | blob h1 h2 h3 h4 h5 h6 h7 => rw [if_pos h1, h3, other_no h4 h5 h6 h7]; rfl
   | tree h1 h2 h3 h4 h5 h6 h7 h8 =>
     rw [if_neg (by omega), if_pos h1, h2, other_no h5 h6 h7 h8]
     rw [decide_eq_true (items_ok h3 fun x hx => ?_)]
     · rfl
     · rcases (h4 x hx).2 with h | h
       · have := M.le h; exact numB_of (by omega)
       · have := M.le h; exact numB_of (by omega)
   | commit h1 h2 h3 h4 h5 h6 h7 h8 h9 h10 h11 =>
     rw [if_neg (by omega), if_neg (by omega), if_pos h1, h2, h3]
     have hT := M.le h5
     unfold commitB
     rw [decide_eq_true (parents_ok h7 fun x hx => numB_of (by have := M.le (h6 x hx).2; omega)), numB_of (by omega), h9, nm3.2.2.2]
     simp
     omega
theorem MadeO.here {os : List api_Object} (M : MadeO os) {o : api_Object} (ho : o ∈ os) : hereB (objM os) o = true := by
 unfold hereB
 simp only [Bool.and_eq_true, List.all_eq_true, Bool.or_eq_true, beq_iff_eq, bne_iff_ne]
 cases M.obj o ho with
 | blob h1 h2 h3 h4 h5 => rw [h3, h5]; exact ⟨by simp, by simp, .inl (by omega)⟩
 | tree h1 h2 h3 h4 h5 h6 => rw [h6]; exact ⟨fun x hx => (h4 x hx).2.imp M.kind M.kind, by simp, .inl (by omega)⟩
 | commit h1 h2 h3 h4 h5 h6 => rw [h3]; exact ⟨by simp, fun p hp => M.kind (h6 p hp).2, .inr (M.kind h5)⟩
theorem MadeO.down {os : List api_Object} (M : MadeO os) {o : api_Object} (ho : o ∈ os) {j : Int} (hj : j ∈ namesO o) : j < o.ID := by
 unfold namesO at hj
 simp only [List.mem_append, List.mem_map] at hj
 cases M.obj o ho with
 | blob h1 h2 h3 h4 h5 => rw [h3, h5, if_neg (by omega)] at hj; simp at hj
 | tree h1 h2 h3 h4 h5 h6 =>
   rw [h6, if_neg (by omega)] at hj
   rcases hj with (hj | ⟨x, hx, rfl⟩) | hj
   · cases hj
   · exact (h4 x hx).1
   · cases hj
 | commit h1 h2 h3 h4 h5 h6 =>
   rw [h3, if_pos h1] at hj
   rcases hj with (hj | ⟨x, hx, rfl⟩) | hj
   · exact (h6 j hj).1
   · cases hx
   · rw [List.mem_singleton.1 hj]; exact h4
theorem MadeR.ok {r : api_Repository} (M : MadeR r) : OkV r := by
 have hlo := M.lo
 have hle := M.le
 refine ⟨by omega, by omega, fun o ho => M.o.objE (by omega) ho, fun e he => ?_, M.o.nd, fun o ho => M.o.here ho, nlB_iff (fun e he hk => ?_) M.e.dl, cyc_no fun q hq j hj => ?_, fun e he => ?_, M.e.so, many_no (ns := [nMain, nOld, nX, nNew]) (by simp) (fun e he => (M.e.ok e he).n) (by simp) (by simp)⟩
 · have h := M.e.ok e he
   unfold wrongB
   rw [nmz4 _ h.n]
   rcases h.k with ⟨h1, _⟩ | ⟨h1, h2⟩
   · simp [h1]
   · simp [h1, h2]
 · rcases (M.e.ok e he).k with ⟨_, h2⟩ | ⟨h1, _⟩
   · exact M.o.kind h2
   · omega
 · obtain ⟨o, ho, rfl⟩ := List.mem_map.1 hq
   exact M.o.down ho hj
 · have h := (M.e.ok e he).t
   unfold timeB
   simp
   omega
theorem nsz4 : ∀ n ∈ [nMain, nOld, nX, nNew], n.size ≤ 1000 := by
 intro n hn
 simp only [List.mem_cons, List.not_mem_nil, or_false] at hn
 rcases hn with rfl | rfl | rfl | rfl <;> decide
theorem MadeR.fit {r : api_Repository} (M : MadeR r) : FitR r := by
 refine ⟨fun o ho => ?_, fun e he => by have := nsz4 _ (M.e.ok e he).n; omega⟩
 cases M.o.obj o ho with
 | blob h1 h2 h3 h4 h5 h6 h7 => exact ⟨by rw [h3]; simp, by rw [h6]; decide⟩
 | tree h1 h2 h3 h4 h5 h6 h7 h8 =>
   refine ⟨fun x hx => ?_, by rw [h7]; decide⟩
   have := h3.subset (List.mem_map_of_mem (f := (·.Name)) hx)
   simp only [List.mem_cons, List.not_mem_nil, or_false] at this
   rcases this with e | e | e <;> rw [e] <;> decide
 | commit h1 h2 h3 h4 h5 h6 h7 h8 h9 => exact ⟨by rw [h3]; simp, by rw [h9]; decide⟩
end Go.Vl
