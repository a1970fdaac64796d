/- slices.SortFunc at items, by their names. Conditions: none. -/
import Derived.Test.YtjnflahicimmlaaDoorDs
import Derived.Test.YtjnflahicimmlaaDoorTyD
import Derived.Test.YtjnflahicimmlaaDoorDsg
import Derived.Test.YtjnflahicimmlaaDoorVmZs
import Derived.Test.YtjnflahicimmlaaDoorVmZb
import Derived.Test.YtjnflahicimmlaaDoorPlG
import Derived.Handy
set_option linter.unusedSimpArgs false
set_option linter.unusedVariables false
namespace Go.Vl
open Go Go.Proofs Go.RowKit Go.Sort Go.Shelf
set_option maxHeartbeats 1000000 in
theorem isnan66 (s : ByteArray) (W : World) : Calls Tryd.prog 54 #[.string s] W fun e w' => e = .returned (.bool false) ∧ ∃ q os', w' = grow (W.drewN q) os' := by
  go_enter Tryd.func54, Tryd.ntmps54
  go_wp2
  go_ret
  exact ⟨rfl, 0, #[], by simp [grow, World.drewN]⟩
theorem gq_trans {W w1 w2 : World} (h1 : ∃ q os', w1 = grow (W.drewN q) os') (h2 : ∃ q os', w2 = grow (w1.drewN q) os') : ∃ q os', w2 = grow (W.drewN q) os' := by
  obtain ⟨q, os, rfl⟩ := h1
  obtain ⟨q2, os2, rfl⟩ := h2
  refine ⟨q + q2, os ++ os2, ?_⟩
  simp [grow, World.drewN, Nat.add_assoc]
def cmpS (a b : ByteArray) : Int := if Op.bytesLess a.toList b.toList = true then -1 else if (!(Op.bytesLess a.toList b.toList || a.toList == b.toList)) = true then 1 else 0
set_option maxHeartbeats 1000000 in
theorem cmp46 (a b : ByteArray) (W : World) : Calls Tryd.prog 37 #[.string a, .string b] W fun e w' => e = .returned (.int .i64 (cmpS a b)) ∧ ∃ q os', w' = grow (W.drewN q) os' := by
  go_enter Tryd.func37, Tryd.ntmps37
  go_wp2_with fail
  go_call (isnan66 a W) as e w1 ⟨he, hw1⟩
  subst he
  go_wp2_with fail
  go_call (isnan66 b w1) as e w2 ⟨he, hw2⟩
  subst he
  have hw := gq_trans hw1 hw2
  clear hw1 hw2
  go_wp2
  · rename_i h1
    go_ret
    exact ⟨by simp [cmpS, h1], hw⟩
  · have h1 : Op.bytesLess a.toList b.toList = false := by assumption
    rw [show Sem.run Tryd.prog (binOp BinOp.gtr 9 (Value.string a) (Value.string b)) w2 = .ok (.bool (!(Op.bytesLess a.toList b.toList || a.toList == b.toList))) w2 from rfl]
    go_wp2
    · have h3 : (!a.toList == b.toList) = true := by assumption
      have h2 : (!(Op.bytesLess a.toList b.toList || a.toList == b.toList)) = true := by rw [h1, Bool.false_or]; exact h3
      go_ret
      exact ⟨by unfold cmpS; rw [if_neg (by rw [h1]; decide), if_pos h2]; rfl, hw⟩
    · have h3 : (!a.toList == b.toList) = false := by assumption
      have h2 : (!(Op.bytesLess a.toList b.toList || a.toList == b.toList)) = false := by rw [h1, Bool.false_or]; exact h3
      go_ret
      exact ⟨by unfold cmpS; rw [if_neg (by rw [h1]; decide), if_neg (by rw [h2]; decide)]; rfl, hw⟩
def cfI (x y : api_Item) : Int := cmpS x.Name y.Name
set_option maxHeartbeats 1000000 in
theorem closure45 (x y : api_Item) : CmpAt Tryd.prog 36 api_Item_row cfI x y := by
  intro W _
  show Calls Tryd.prog 36 #[.agg #[.string x.Name, .int .i64 x.ID], .agg #[.string y.Name, .int .i64 y.ID]] W _
  go_enter Tryd.func36, Tryd.ntmps36
  go_wp2_with fail
  go_call (cmp46 x.Name y.Name _) as e w1 ⟨he, hw1⟩
  subst he
  go_wp2
  go_ret
  refine ⟨rfl, gq_trans ?_ hw1⟩
  rw [alloc_eq_grow, alloc_eq_grow, grow_grow]
  exact ⟨0, _, rfl⟩
theorem cmpS_neg {a b : ByteArray} : cmpS a b < 0 ↔ a.toList < b.toList := by
  unfold cmpS
  rw [bytesLess_eq]
  by_cases h : a.toList < b.toList
  · simp [h]
  · simp only [h, decide_false, Bool.false_eq_true, if_false, iff_false]
    split <;> decide
theorem cmpS_zero {a b : ByteArray} : cmpS a b = 0 → a = b := by
  unfold cmpS
  rw [bytesLess_eq]
  intro h
  split at h
  · cases h
  split at h
  · cases h
  · rename_i h1 h2
    simp only [Bool.not_eq_true', Bool.not_eq_false, Bool.or_eq_true, beq_iff_eq] at h2
    rcases h2 with h2 | h2
    · exact absurd h2 h1
    · exact ByteArray.ext (Array.toList_inj.1 (by rw [ByteArray.toList_eq, ByteArray.toList_eq] at h2; exact h2))
theorem plain_api_Item (x : api_Item) : ∀ d ∈ api_Item_row x, plainD d = true := fun d hd => by
  simp only [api_Item_row, List.mem_cons, List.not_mem_nil, or_false] at hd
  rcases hd with rfl | rfl <;> rfl
theorem swo_cfI {α : Type} (f : α → api_Item) : SWO (ltOf fun x y : α => cfI (f x) (f y)) := by
  constructor
  · intro x
    simp only [ltOf, cfI, cmpS_neg, decide_eq_false_iff_not]
    exact List.lt_irrefl _
  · intro x y z h1 h2
    simp only [ltOf, cfI, cmpS_neg, decide_eq_true_eq] at *
    exact List.lt_trans h1 h2
  · intro x y z h1 h2
    simp only [ltOf, cfI, cmpS_neg, decide_eq_false_iff_not] at *
    exact fun h => by
      rw [List.not_lt] at h1 h2
      exact absurd h (List.not_lt.2 (List.le_trans h2 h1))
open Classical in
noncomputable def slices_SortFunc_api_Item_vec0_at_walk_paths_1 (a0 : List api_Item) : Option (List api_Item) :=
  (ck (a0.length ≤ 268435456 ∧ ∀ x ∈ a0, ∀ y ∈ a0, x.Name = y.Name → x = y)).bind fun _ => some (a0.mergeSort fun x y => !decide (cfI y x < 0))
open Classical in
theorem slices_SortFunc_api_Item_vec0_at_walk_paths_1_ok {a0 r : List api_Item} (h0 : slices_SortFunc_api_Item_vec0_at_walk_paths_1 a0 = some r) : FnOKh Tryd.prog 35 [] [⟨28, 2, rowsF api_Item_row a0⟩] [.vec (InV 0), .fn 36 []] (.tup []) [] [⟨28, 2, rowsF api_Item_row r⟩] := by
  unfold slices_SortFunc_api_Item_vec0_at_walk_paths_1 at h0
  obtain ⟨_, h1, h0⟩ := bnd h0
  cases h0
  obtain ⟨h2, h3⟩ := ck_some h1
  exact sortF_row Tryd.sort35 Tryd.isAgg28 Tryd.sizeOf28 plain_api_Item (fun _ => rfl) cfI a0 (swo_cfI fun x : {x // x ∈ a0} => x.1) (fun x hx y hy g1 g2 => h3 x hx y hy (by
    unfold cfI at g1 g2
    rw [cmpS_neg] at g1 g2
    have := List.le_antisymm (List.not_lt.1 g2) (List.not_lt.1 g1)
    rw [ByteArray.toList_eq, ByteArray.toList_eq] at this
    exact ByteArray.ext (Array.toList_inj.1 this))) (enters_of Tryd.func36 (by kernel_rfl) rfl) (fun x _ y _ => closure45 x y) h2
open Classical in
noncomputable def sortIt (l : List api_Item) : List api_Item := l.mergeSort fun x y => !decide (cfI y x < 0)
open Classical in
theorem sortIt_perm {a b : List api_Item} (h : a.Perm b) (h1 : ∀ x ∈ b, ∀ y ∈ b, x.Name = y.Name → x = y) : sortIt a = sortIt b := by
  unfold sortIt
  have S := swo_cfI (fun x : api_Item => x)
  have hT : ∀ l : List api_Item, (l.mergeSort fun x y => !decide (cfI y x < 0)).Pairwise fun x y => ¬ cfI y x < 0 := fun l => by
    refine List.Pairwise.imp (fun {a b} h => ?_) (List.pairwise_mergeSort (le := fun x y : api_Item => !decide (cfI y x < 0)) (fun a b c h1 h2 => ?_) (fun a b => ?_) l)
    · simpa using h
    · have := S.ntrans c b a
      simp only [ltOf] at this
      simp only [Bool.not_eq_true'] at h1 h2 ⊢
      exact this h2 h1
    · cases hc : decide (cfI b a < 0) with
      | false => simp
      | true =>
        cases hd : decide (cfI a b < 0) with
        | false => simp
        | true =>
          have := S.trans a b a hd hc
          rw [S.irrefl] at this
          cases this
  refine List.Perm.eq_of_pairwise (le := fun x y : api_Item => ¬ cfI y x < 0) (fun x y hx hy g1 g2 => ?_) (hT a) (hT b) ((List.mergeSort_perm ..).trans (h.trans (List.mergeSort_perm ..).symm))
  have hx' : x ∈ b := h.mem_iff.1 ((List.mergeSort_perm ..).mem_iff.1 hx)
  have hy' : y ∈ b := (List.mergeSort_perm ..).mem_iff.1 hy
  refine h1 x hx' y hy' ?_
  unfold cfI at g1 g2
  rw [cmpS_neg] at g1 g2
  have := List.le_antisymm (List.not_lt.1 g1) (List.not_lt.1 g2)
  rw [ByteArray.toList_eq, ByteArray.toList_eq] at this
  exact ByteArray.ext (Array.toList_inj.1 this)
end Go.Vl
