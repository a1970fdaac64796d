/- The value logic: an owned row of integers sorted, or made compact, by the library. Conditions: none. -/
import Derived.Test.YtjnflahicimmlaaGreatDoorVmV
import Derived.Sort.OwnSortedInts
import Derived.Lib.SlicesCompact
set_option linter.unusedSimpArgs false
set_option linter.unusedVariables false
namespace Go.Vl
open Go Go.RowKit Go.Sort
theorem iflat (l : List Int) : (rowsF (iRow .i64) l).flatten = l.map (D.int .i64) := by
 induction l with
 | nil => rfl
 | cons x l ih => simp only [rowsF, List.map_cons, List.flatten_cons, iRow, List.singleton_append] at ih ⊢; rw [ih]
theorem irows {w : World} {ok : Nat → Prop} {l : List Int} : ∀ (j : Nat) (d : D) (u : Value), (rowsF (iRow .i64) l).flatten[j]? = some d → (l.map (Value.int .i64))[j]? = some u → RD w ok d u := fun j d u h1 h2 => by
 rw [iflat, List.getElem?_map] at h1
 rw [List.getElem?_map] at h2
 cases hq : l[j]? with
 | none => rw [hq] at h1; cases h1
 | some x => rw [hq] at h1 h2; cases h1; cases h2; exact .int
section
variable {P : Program} {f : FuncId} {e : TypeId}
end
end Go.Vl
