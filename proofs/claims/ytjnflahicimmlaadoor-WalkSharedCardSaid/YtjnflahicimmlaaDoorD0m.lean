/- Plain functions that mirror functions of the given program. Conditions: none. -/
import Derived.Test.YtjnflahicimmlaaDoorDs
import Derived.Test.YtjnflahicimmlaaDoorDnw
set_option linter.unusedSimpArgs false
set_option linter.unusedVariables false
namespace Go.Vl
open Go
noncomputable def history_cycle_1_1_cro (a0 : Int) (a1 : List (Int × api_Object)) : Option (Bool) :=
  some ((mget inE a1 a0).isSome)
noncomputable def slices_IndexFunc_int_at_history_cycle_1_1_ro_l0 (a0 : List Int) (b10 : List (Int × api_Object)) (s2 : Int) : Option (Lp Int (Unit ⊕ Int)) :=
  if (decide (s2 < ((a0).length : Int))) = true then
    (idx a0 s2).bind fun x3 =>
    (history_cycle_1_1_cro x3 b10).bind fun y4 =>
    if y4 = true then
      some (.out (.inr s2))
    else
      some (.go (IntKind.i64.wrap (s2 + 1)))
  else
    some (.out (.inl ()))
noncomputable def slices_IndexFunc_int_at_history_cycle_1_1_ro (a0 : List Int) (b10 : List (Int × api_Object)) : Option (Int) :=
  (iter (slices_IndexFunc_int_at_history_cycle_1_1_ro_l0 a0 b10) 0).bind fun q6 =>
  match q6 with
  | .inl v1 =>
    some (-1)
  | .inr r5 =>
    some r5
noncomputable def slices_ContainsFunc_int_at_history_cycle_1_1_ro (a0 : List Int) (b10 : List (Int × api_Object)) : Option (Bool) :=
  (slices_IndexFunc_int_at_history_cycle_1_1_ro a0 b10).bind fun y1 =>
  some (decide (0 ≤ y1))
noncomputable def history_cycle_1_cro (a0 : Int) (a1 : api_Object) (a2 : List (Int × api_Object)) : Option (Bool) :=
  (history_named a1).bind fun y1 =>
  (slices_ContainsFunc_int_at_history_cycle_1_1_ro y1 a2).bind fun y2 =>
  some (!y2)
end Go.Vl
