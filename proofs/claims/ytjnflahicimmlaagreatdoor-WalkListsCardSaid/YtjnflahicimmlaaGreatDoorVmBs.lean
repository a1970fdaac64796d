/- The value logic: bytes converted to a string. Conditions: none. -/
import Derived.Test.YtjnflahicimmlaaGreatDoorVmSl
set_option linter.unusedSimpArgs false
set_option linter.unusedVariables false
namespace Go.Vl
open Go Go.RowKit
section
variable {P:Program} {K:Ctx P} {st:St} {a:Act} {w:World} {p:Pl} {ops:Array Oper} {Q:Exit→St→Prop}
end
end Go.Vl
