/- The IDs that an object names: history.named. Conditions: none. -/
import Derived.Test.YtjnflahicimmlaaDoorDs
set_option linter.unusedSimpArgs false
set_option linter.unusedVariables false
namespace Go.Vl
open Go
/-- the IDs that an object names -/
def namesO (o : api_Object) : List Int := o.Parents ++ o.Items.map (·.ID) ++ (if o.Kind = 3 then [o.Tree] else [])
/-- small enough to be walked through -/
def fitO (o : api_Object) : Bool := decide (o.Parents.length ≤ 1000000) && decide (o.Items.length ≤ 1000000)
def history_named (o : api_Object) : Option (List Int) := if fitO o = true then some (namesO o) else none
end Go.Vl
