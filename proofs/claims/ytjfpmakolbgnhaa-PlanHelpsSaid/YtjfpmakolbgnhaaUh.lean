/- Library functions at owned rows of integers: sorting, and what is equal to its neighbour left out. Conditions: none. -/
import Derived.Test.YtjfpmakolbgnhaaVmZr
import Derived.Test.YtjfpmakolbgnhaaUsh
import Derived.Test.YtjfpmakolbgnhaaUsg
import Derived.Test.YtjfpmakolbgnhaaUs
import Derived.Shelf.SlicesQ.Reverse
set_option linter.unusedSimpArgs false
set_option linter.unusedVariables false
namespace Go.Vl
open Go Go.Proofs
noncomputable def slices_Sort_int_vec0 (a0 : List Int) : Option (List Int) := (ck (a0.length ≤ 268435456)).bind fun _ => some (a0.mergeSort fun x y => decide (x ≤ y))
theorem slices_Sort_int_vec0_ok {a0 r : List Int} (h0 : slices_Sort_int_vec0 a0 = some r) : FnOKh Try.prog 63 [] [⟨3, 1, rowsF (iRow .i64) a0⟩] [.vec (InV 0)] (.tup []) [] [⟨3, 1, rowsF (iRow .i64) r⟩] := by
  unfold slices_Sort_int_vec0 at h0
  obtain ⟨_, h1, h0⟩ := bnd h0
  cases h0
  exact sort_row Try.slices_Sort_int Try.slices_Sort_int_none a0 (ck_some h1)
noncomputable def slices_Compact_int_eat0_own0 (a0 : List Int) : Option (List Int) := (ck (a0.length ≤ 268435456)).bind fun _ => some (Lib.compact a0)
theorem slices_Compact_int_eat0_own0_ok {a0 r : List Int} (h0 : slices_Compact_int_eat0_own0 a0 = some r) : FnOKv Try.prog 64 [] [⟨3, 1, rowsF (iRow .i64) a0⟩] [.vec (InV 0)] (.vec (InV 0)) [] [⟨3, 1, rowsF (iRow .i64) r⟩] := by
  unfold slices_Compact_int_eat0_own0 at h0
  obtain ⟨_, h1, h0⟩ := bnd h0
  cases h0
  exact compact_row Try.slices_Compact_int Try.slices_Compact_int_empty a0 (ck_some h1)
noncomputable def slices_Reverse_api_Step_vec0 (a0 : List api_Step) : Option (List api_Step) := (ck (a0.length ≤ 268435456)).bind fun _ => some a0.reverse
theorem plain_api_Step (x : api_Step) : ∀ d ∈ api_Step_row x, plainD d = true := fun d hd => by
  simp only [api_Step_row, List.mem_cons, List.not_mem_nil, or_false] at hd
  rcases hd with rfl | rfl <;> rfl
theorem slices_Reverse_api_Step_vec0_ok {a0 r : List api_Step} (h0 : slices_Reverse_api_Step_vec0 a0 = some r) : FnOKh Try.prog 38 [] [⟨43, 2, rowsF api_Step_row a0⟩] [.vec (InV 0)] (.tup []) [] [⟨43, 2, rowsF api_Step_row r⟩] := by
  unfold slices_Reverse_api_Step_vec0 at h0
  obtain ⟨_, h1, h0⟩ := bnd h0
  cases h0
  have hl := ck_some h1
  exact turn_row List.reverse (fun l => List.length_reverse) plain_api_Step (fun _ => rfl) [] [] more_nil a0 (fun g cap w hH hb => (AnyQ.slices_Reverse Try.rev38 2 Try.isAgg43 Try.sizeOf43 (encR api_Step_row) (encR_len fun _ => rfl) (encR_one plain_api_Step) g 0 cap a0.toArray w hH (by simp; omega)).mono fun e w' ⟨h1, n, h2⟩ => ⟨h1, n, #[], by rw [h2, Go.Sort.grow_empty, List.reverse_toArray]⟩) (fun p cap w => AnyQ.slices_Reverse_empty Try.rev38 p cap w)
end Go.Vl
