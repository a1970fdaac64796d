/- Library functions of these laws: notices put in order. Conditions: none. -/
import Derived.Test.YtciimncnodejaaaGreatDoorXc
import Derived.Test.YtciimncnodejaaaGreatDoorVmZs
import Derived.Test.YtciimncnodejaaaGreatDoorXsg
import Derived.Test.YtciimncnodejaaaGreatDoorXg
set_option linter.unusedSimpArgs false
set_option linter.unusedVariables false
namespace Go.Vl
open Go Go.Proofs Go.RowKit Go.Sort Go.Shelf
def cmpI (x y : Int) : Int := if x < y then -1 else if y < x then 1 else 0
def cfN (x y : api_Notice) : Int := if cmpI x.Time y.Time ≠ 0 then cmpI x.Time y.Time else if cmpI x.Case y.Case ≠ 0 then cmpI x.Case y.Case else cmpI x.Step y.Step
theorem cfN_zero {x y : api_Notice} : cfN x y = 0 ↔ x.Time = y.Time ∧ x.Case = y.Case ∧ x.Step = y.Step := by
  unfold cfN cmpI
  grind
theorem cfN_neg {x y : api_Notice} : cfN x y < 0 ↔ x.Time < y.Time ∨ x.Time = y.Time ∧ (x.Case < y.Case ∨ x.Case = y.Case ∧ x.Step < y.Step) := by
  unfold cfN cmpI
  grind
open Classical in
noncomputable def slices_SortFunc_api_Notice_vec0_at_notice_All_1 (a0 : List api_Notice) : Option (List api_Notice) :=
  (ck (a0.length ≤ 268435456 ∧ ∀ x ∈ a0, ∀ y ∈ a0, cfN x y = 0 → x = y)).bind fun _ => some (a0.mergeSort fun x y => !decide (cfN y x < 0))
theorem kCompare_val (a b : Int) : kcmp_Compare_int a b = some (cmpI a b) := by
  unfold kcmp_Compare_int kcmp_isNaN_int cmpI
  simp only [Option.bind_some, bne_self_eq_false, Bool.false_eq_true, if_false, decide_eq_true_eq]
  split
  · rfl
  split <;> rfl
theorem kOr_val (a b c : Int) : kcmp_Or_int [a, b, c] = some (if a ≠ 0 then a else if b ≠ 0 then b else c) := by
  unfold kcmp_Or_int
  have hb : ∀ (i : Nat) (h : i < [a, b, c].length), kcmp_Or_int_l0 [a, b, c] (i : Int) = some (if ([a, b, c][i] != 0) = true then .out (.inr [a, b, c][i]) else .go (((i + 1 : Nat) : Int))) := fun i h => by
    unfold kcmp_Or_int_l0
    rw [if_pos (by simp at h ⊢; omega), idx_nat, List.getElem?_eq_getElem h, wrapI (by simp at h; omega) (by simp at h; omega)]
    simp only [Option.bind_some]
    split <;> rfl
  have h0 := hb 0 (by simp)
  have h1 := hb 1 (by simp)
  have h2 := hb 2 (by simp)
  have h3 : kcmp_Or_int_l0 [a, b, c] ((3 : Nat) : Int) = some (.out (.inl ())) := by
    unfold kcmp_Or_int_l0
    rw [if_neg (by simp)]
  simp only [List.getElem_cons_zero, List.getElem_cons_succ] at h0 h1 h2
  rw [show (0 : Int) = ((0 : Nat) : Int) from rfl]
  by_cases ha : a = 0
  case neg => rw [if_pos (by simpa using ha)] at h0; rw [iter_out h0]; simp [ha]
  rw [if_neg (by simpa using ha)] at h0
  rw [iter_go h0]
  by_cases hb' : b = 0
  case neg => rw [if_pos (by simpa using hb')] at h1; rw [iter_out h1]; simp [ha, hb']
  rw [if_neg (by simpa using hb')] at h1
  rw [iter_go h1]
  by_cases hc : c = 0
  case neg => rw [if_pos (by simpa using hc)] at h2; rw [iter_out h2]; simp [ha, hb']
  rw [if_neg (by simpa using hc)] at h2
  rw [iter_go h2, iter_out h3]; simp [ha, hb', hc]
theorem kAll_val (x y : api_Notice) : knotice_All_1 x y = some (cfN x y) := by
  unfold knotice_All_1 cfN
  simp only [kCompare_val, kOr_val, Option.bind_some]
theorem plain_api_Notice (x : api_Notice) : ∀ d ∈ api_Notice_row x, plainD d = true := fun d hd => by
  simp only [api_Notice_row, List.mem_cons, List.not_mem_nil, or_false] at hd
  rcases hd with rfl | rfl | rfl | rfl <;> rfl
theorem swo_cfN {α : Type} (f : α → api_Notice) : SWO (ltOf fun x y : α => cfN (f x) (f y)) := by
  constructor <;> (intros; simp only [ltOf, cfN_neg, decide_eq_true_eq, decide_eq_false_iff_not] at *; omega)
open Classical in
theorem slices_SortFunc_api_Notice_vec0_at_notice_All_1_ok {a0 r : List api_Notice} (h0 : slices_SortFunc_api_Notice_vec0_at_notice_All_1 a0 = some r) : FnOKh Tryz.prog 35 [] [⟨59, 4, rowsF api_Notice_row a0⟩] [.vec (InV 0), .fn 36 []] (.tup []) [] [⟨59, 4, rowsF api_Notice_row r⟩] := by
  unfold slices_SortFunc_api_Notice_vec0_at_notice_All_1 at h0
  obtain ⟨_, h1, h0⟩ := bnd h0
  cases h0
  obtain ⟨h2, h3⟩ := ck_some h1
  exact sortF_row Tryz.sort35 Tryz.isAgg59 Tryz.sizeOf59 plain_api_Notice (fun _ => rfl) cfN a0 (swo_cfN fun x : {x // x ∈ a0} => x.1) (fun x hx y hy g1 g2 => h3 x hx y hy (by
    have k1 := @cfN_neg x y
    have k2 := @cfN_neg y x
    have k3 := @cfN_zero x y
    rw [k1] at g1; rw [k2] at g2; rw [k3]; omega)) (enters_of Tryz.func36 (by kernel_rfl) rfl) (fun x _ y _ => cmp_of plain_api_Notice (knotice_All_1_ok (kAll_val x y))) h2
end Go.Vl
