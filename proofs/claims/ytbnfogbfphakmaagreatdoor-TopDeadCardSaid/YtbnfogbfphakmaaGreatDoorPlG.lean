/- Plain laws: small numbers, indices, sorted lists. Conditions: none. -/
import Derived.Test.YtbnfogbfphakmaaGreatDoorVmV
set_option linter.unusedSimpArgs false
set_option linter.unusedVariables false
namespace Go.Vl
open Go
theorem w64 {x:Int} (h1: -9223372036854775808≤x) (h2:x≤9223372036854775807):IntKind.i64.wrap x=x:=QS h1 h2
theorem Cy {α:Type} {l:List α} {i:Nat} (h:i < l.length):idx l (i:Int)=some l[i]:=by rw[TB,List.getElem?_eq_getElem h]
theorem Bo {α:Type} {l:List α} {i:Int} (h0:0≤i) (h:i.toNat < l.length):idx l i=some l[i.toNat]:=by
 unfold idx;rw[if_pos h0,List.getElem?_eq_getElem h]
end Go.Vl
namespace Go.Vl
open Go
end Go.Vl
namespace Go.Vl
open Go
end Go.Vl
namespace Go.Vl
open Go
section
variable {κ ν:Type} {e:κ→κ→Bool}
variable (he:∀a b,e a b=true↔a=b)
include he
end
end Go.Vl
