/- The value logic, a bytes-to-bytes conversion of an owned row: the row is read only from then on. Conditions: none. -/
import Derived.Test.YtbnfogbfphakmaaGreatDoorVmN
set_option linter.unusedSimpArgs false
set_option linter.unusedVariables false
namespace Go.Vl
open Go Go.RowKit
section
variable {P:Program} {K:Ctx P} {st:St} {a:Act} {w:World} {p:Pl} {ops:Array Oper} {Q:Exit→St→Prop}
end
end Go.Vl
