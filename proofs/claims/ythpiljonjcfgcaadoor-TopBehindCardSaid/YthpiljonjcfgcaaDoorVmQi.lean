/- A region that draws its order, where boxes come in that are all held. Conditions: none. -/
import Derived.Test.YthpiljonjcfgcaaDoorVmQq
set_option linter.unusedSimpArgs false
set_option linter.unusedVariables false
namespace Go.Vl
open Go Go.RowKit
section
variable {P:Program} {K:Ctx P} {st:St} {a:Act} {w:World} {p:Pl}
end
end Go.Vl
