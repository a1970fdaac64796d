/- slices.SortFunc at items, by their names. Conditions: none. -/
import Derived.Test.YtjnflahicimmlaaGreatDoorJs
import Derived.Test.YtjnflahicimmlaaGreatDoorTyJ
import Derived.Test.YtjnflahicimmlaaGreatDoorJsg
import Derived.Test.YtjnflahicimmlaaGreatDoorVmZs
import Derived.Test.YtjnflahicimmlaaGreatDoorVmZb
import Derived.Test.YtjnflahicimmlaaGreatDoorPlG
import Derived.Handy
set_option linter.unusedSimpArgs false
set_option linter.unusedVariables false
namespace Go.Vl
open Go Go.Proofs Go.RowKit Go.Sort Go.Shelf
set_option maxHeartbeats 1000000 in
theorem isnan66 (s : ByteArray) (W : World) : Calls Tryz.prog 98 #[.string s] W fun e w' => e = .returned (.bool false) ∧ ∃ q os', w' = grow (W.drewN q) os' := by
 go_enter Tryz.func98, Tryz.ntmps98
 go_wp2
 go_ret
 exact ⟨rfl, 0, #[], by simp [grow, World.drewN]⟩
theorem gq_trans {W w1 w2 : World} (h1 : ∃ q os', w1 = grow (W.drewN q) os') (h2 : ∃ q os', w2 = grow (w1.drewN q) os') : ∃ q os', w2 = grow (W.drewN q) os' := by
 obtain ⟨q, os, rfl⟩ := h1
 obtain ⟨q2, os2, rfl⟩ := h2
 refine ⟨q + q2, os ++ os2, ?_⟩
 simp [grow, World.drewN, Nat.add_assoc]
def cmpS (a b : ByteArray) : Int := if Op.bytesLess a.toList b.toList = true then -1 else if (!(Op.bytesLess a.toList b.toList || a.toList == b.toList)) = true then 1 else 0
set_option maxHeartbeats 1000000 in
theorem cmp46 (a b : ByteArray) (W : World) : Calls Tryz.prog 65 #[.string a, .string b] W fun e w' => e = .returned (.int .i64 (cmpS a b)) ∧ ∃ q os', w' = grow (W.drewN q) os' := by
 go_enter Tryz.func65, Tryz.ntmps65
 go_wp2_with fail
 go_call (isnan66 a W) as e w1 ⟨he, hw1⟩
 subst he
 go_wp2_with fail
 go_call (isnan66 b w1) as e w2 ⟨he, hw2⟩
 subst he
 have hw := gq_trans hw1 hw2
 clear hw1 hw2
 go_wp2
 · rename_i h1
   go_ret
   exact ⟨by simp [cmpS, h1], hw⟩
 · have h1 : Op.bytesLess a.toList b.toList = false := by assumption
   rw [show Sem.run Tryz.prog (binOp BinOp.gtr 9 (Value.string a) (Value.string b)) w2 = .ok (.bool (!(Op.bytesLess a.toList b.toList || a.toList == b.toList))) w2 from rfl]
   go_wp2
   · have h3 : (!a.toList == b.toList) = true := by assumption
     have h2 : (!(Op.bytesLess a.toList b.toList || a.toList == b.toList)) = true := by rw [h1, Bool.false_or]; exact h3
     go_ret
     exact ⟨by unfold cmpS; rw [if_neg (by rw [h1]; decide), if_pos h2]; rfl, hw⟩
   · have h3 : (!a.toList == b.toList) = false := by assumption
     have h2 : (!(Op.bytesLess a.toList b.toList || a.toList == b.toList)) = false := by rw [h1, Bool.false_or]; exact h3
     go_ret
     exact ⟨by unfold cmpS; rw [if_neg (by rw [h1]; decide), if_neg (by rw [h2]; decide)]; rfl, hw⟩
def cfI (x y : api_Item) : Int := cmpS x.Name y.Name
set_option maxHeartbeats 1000000 in
theorem closure45 (x y : api_Item) : CmpAt Tryz.prog 64 api_Item_row cfI x y := by
 intro W _
 show Calls Tryz.prog 64 #[.agg #[.string x.Name, .int .i64 x.ID], .agg #[.string y.Name, .int .i64 y.ID]] W _
 go_enter Tryz.func64, Tryz.ntmps64
 go_wp2_with fail
 go_call (cmp46 x.Name y.Name _) as e w1 ⟨he, hw1⟩
 subst he
 go_wp2
 go_ret
 refine ⟨rfl, gq_trans ?_ hw1⟩
 rw [alloc_eq_grow, alloc_eq_grow, grow_grow]
 exact ⟨0, _, rfl⟩
theorem cmpS_neg {a b : ByteArray} : cmpS a b < 0 ↔ a.toList < b.toList := by
 unfold cmpS
 rw [bytesLess_eq]
 by_cases h : a.toList < b.toList
 · simp [h]
 · simp only [h, decide_false, Bool.false_eq_true, if_false, iff_false]
   split <;> decide
theorem plain_api_Item (x : api_Item) : ∀ d ∈ api_Item_row x, plainD d = true := fun d hd => by
 simp only [api_Item_row, List.mem_cons, List.not_mem_nil, or_false] at hd
 rcases hd with rfl | rfl <;> rfl
theorem swo_cfI {α : Type} (f : α → api_Item) : SWO (ltOf fun x y : α => cfI (f x) (f y)) := by
 constructor
 · intro x
   simp only [ltOf, cfI, cmpS_neg, decide_eq_false_iff_not]
   exact List.lt_irrefl _
 · intro x y z h1 h2
   simp only [ltOf, cfI, cmpS_neg, decide_eq_true_eq] at *
   exact List.lt_trans h1 h2
 · intro x y z h1 h2
   simp only [ltOf, cfI, cmpS_neg, decide_eq_false_iff_not] at *
   exact fun h => by
     rw [List.not_lt] at h1 h2
     exact absurd h (List.not_lt.2 (List.le_trans h2 h1))
open Classical in
noncomputable def slices_SortFunc_api_Item_vec0_at_walk_paths_1 (a0 : List api_Item) : Option (List api_Item) :=
 (ck (a0.length ≤ 268435456 ∧ ∀ x ∈ a0, ∀ y ∈ a0, x.Name = y.Name → x = y)).bind fun _ => some (a0.mergeSort fun x y => !decide (cfI y x < 0))
open Classical in
theorem slices_SortFunc_api_Item_vec0_at_walk_paths_1_ok {a0 r : List api_Item} (h0 : slices_SortFunc_api_Item_vec0_at_walk_paths_1 a0 = some r) : FnOKh Tryz.prog 63 [] [⟨62, 2, rowsF api_Item_row a0⟩] [.vec (InV 0), .fn 64 []] (.tup []) [] [⟨62, 2, rowsF api_Item_row r⟩] := by
 unfold slices_SortFunc_api_Item_vec0_at_walk_paths_1 at h0
 obtain ⟨_, h1, h0⟩ := bnd h0
 cases h0
 obtain ⟨h2, h3⟩ := ck_some h1
 exact sortF_row Tryz.sort63 Tryz.isAgg62 Tryz.sizeOf62 plain_api_Item (fun _ => rfl) cfI a0 (swo_cfI fun x : {x // x ∈ a0} => x.1) (fun x hx y hy g1 g2 => h3 x hx y hy (by
   unfold cfI at g1 g2
   rw [cmpS_neg] at g1 g2
   have := List.le_antisymm (List.not_lt.1 g2) (List.not_lt.1 g1)
   rw [ByteArray.toList_eq, ByteArray.toList_eq] at this
   exact ByteArray.ext (Array.toList_inj.1 this))) (enters_of Tryz.func64 (by kernel_rfl) rfl) (fun x _ y _ => closure45 x y) h2
open Classical in
noncomputable def sortIt (l : List api_Item) : List api_Item := l.mergeSort fun x y => !decide (cfI y x < 0)
end Go.Vl
