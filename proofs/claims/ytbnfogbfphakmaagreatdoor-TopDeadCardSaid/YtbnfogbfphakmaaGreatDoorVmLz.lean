/- The value logic: the steps of a region are evaluated one after the other: what follows is not looked at before its turn. Conditions: none. -/
import Derived.Test.YtbnfogbfphakmaaGreatDoorVmV
set_option linter.unusedSimpArgs false
set_option linter.unusedVariables false
namespace Go.Vl
theorem PZ {α β:Type} {x y:Option α} {f:α→Option β} (h:x=y):x.bind f=y.bind f:=by rw[h]
attribute [congr] PZ
end Go.Vl
