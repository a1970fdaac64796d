/- The facts on the types of this translation that the walks use. Conditions: none. -/
import Derived.Test.YthpiljonjcfgcaaDoorVmV
import Derived.Test.YthpiljonjcfgcaaDoorProg
import Derived.KernelRfl
set_option linter.unusedSimpArgs false
set_option linter.unusedVariables false
namespace Go.Vl
open Go Go.Proofs
theorem fol:Tryd.prog.follows .mixedOrders=true:=by kernel_rfl
attribute [simp] Tryd.underlying3
@[simp] theorem sz3:szOf Tryd.prog 3=some 1:=by kernel_rfl
@[simp] theorem ag3:isAggB Tryd.prog 3=false:=by kernel_rfl
@[simp] theorem by3:byOk Tryd.prog 3=true:=by kernel_rfl
@[simp] theorem ze3:zerOf Tryd.prog 3=some ([.d (.int .i64 0)]):=by kernel_rfl
attribute [simp] Tryd.underlying4
@[simp] theorem sz4:szOf Tryd.prog 4=some 1:=by kernel_rfl
@[simp] theorem ag4:isAggB Tryd.prog 4=false:=by kernel_rfl
@[simp] theorem by4:byOk Tryd.prog 4=true:=by kernel_rfl
@[simp] theorem ze4:zerOf Tryd.prog 4=some ([.d (.bool false)]):=by kernel_rfl
attribute [simp] Tryd.underlying5
attribute [simp] Tryd.underlying9
attribute [simp] Tryd.underlying22
@[simp] theorem sz22:szOf Tryd.prog 22=some 1:=by kernel_rfl
@[simp] theorem ag22:isAggB Tryd.prog 22=false:=by kernel_rfl
attribute [simp] Tryd.underlying24
attribute [simp] Tryd.underlying26
attribute [simp] Tryd.eqGuardType26
attribute [simp] Tryd.stoodInHeld26
@[simp] theorem ze26:zerOf Tryd.prog 26=some ([.nilS,.d (.int .i64 0)]):=by kernel_rfl
attribute [simp] Tryd.underlying27
@[simp] theorem sz27:szOf Tryd.prog 27=some 1:=by kernel_rfl
@[simp] theorem ag27:isAggB Tryd.prog 27=false:=by kernel_rfl
attribute [simp] Tryd.underlying28
@[simp] theorem sz28:szOf Tryd.prog 28=some 1:=by kernel_rfl
@[simp] theorem ag28:isAggB Tryd.prog 28=false:=by kernel_rfl
attribute [simp] Tryd.underlying29
@[simp] theorem sz29:szOf Tryd.prog 29=some 1:=by kernel_rfl
@[simp] theorem ag29:isAggB Tryd.prog 29=false:=by kernel_rfl
attribute [simp] Tryd.underlying31
@[simp] theorem sz31:szOf Tryd.prog 31=some 5:=by kernel_rfl
@[simp] theorem ag31:isAggB Tryd.prog 31=true:=by kernel_rfl
attribute [simp] Tryd.eqGuardType31
attribute [simp] Tryd.stoodInHeld31
@[simp] theorem ze31:zerOf Tryd.prog 31=some ([.d (.int .i64 0),.d (.int .i64 0),.nilS,.nilS,.nilS]):=by kernel_rfl
attribute [simp] Tryd.underlying36
@[simp] theorem sz36:szOf Tryd.prog 36=some 4:=by kernel_rfl
@[simp] theorem ag36:isAggB Tryd.prog 36=true:=by kernel_rfl
attribute [simp] Tryd.eqGuardType36
attribute [simp] Tryd.stoodInHeld36
@[simp] theorem ze36:zerOf Tryd.prog 36=some ([.d (.int .i64 0),.d (.int .i64 0),.d (.int .i64 0),.d (.int .i64 0)]):=by kernel_rfl
attribute [simp] Tryd.underlying37
attribute [simp] Tryd.underlying41
@[simp] theorem sz41:szOf Tryd.prog 41=some 1:=by kernel_rfl
@[simp] theorem ag41:isAggB Tryd.prog 41=false:=by kernel_rfl
attribute [simp] Tryd.underlying51
@[simp] theorem sz51:szOf Tryd.prog 51=some 4:=by kernel_rfl
@[simp] theorem ag51:isAggB Tryd.prog 51=true:=by kernel_rfl
attribute [simp] Tryd.eqGuardType51
attribute [simp] Tryd.stoodInHeld51
@[simp] theorem ze51:zerOf Tryd.prog 51=some ([.d (.int .i64 0),.d (.int .i64 0),.d (.int .i64 0),.d (.int .i64 0)]):=by kernel_rfl
attribute [simp] Tryd.underlying52
@[simp] theorem sz52:szOf Tryd.prog 52=some 1:=by kernel_rfl
@[simp] theorem ag52:isAggB Tryd.prog 52=false:=by kernel_rfl
attribute [simp] Tryd.underlying54
@[simp] theorem sz54:szOf Tryd.prog 54=some 2:=by kernel_rfl
@[simp] theorem ag54:isAggB Tryd.prog 54=true:=by kernel_rfl
attribute [simp] Tryd.eqGuardType54
attribute [simp] Tryd.stoodInHeld54
@[simp] theorem ze54:zerOf Tryd.prog 54=some ([.nilS,.nilS]):=by kernel_rfl
attribute [simp] Tryd.underlying56
@[simp] theorem sz56:szOf Tryd.prog 56=some 7:=by kernel_rfl
@[simp] theorem ag56:isAggB Tryd.prog 56=true:=by kernel_rfl
attribute [simp] Tryd.eqGuardType56
attribute [simp] Tryd.stoodInHeld56
@[simp] theorem ze56:zerOf Tryd.prog 56=some ([.d (.int .i64 0),.d (.int .i64 0),.d (.int .i64 0),.d (.int .i64 0),.d (.int .i64 0),.d (.int .i64 0),.d (.int .i64 0)]):=by kernel_rfl
attribute [simp] Tryd.underlying57
@[simp] theorem sz57:szOf Tryd.prog 57=some 1:=by kernel_rfl
@[simp] theorem ag57:isAggB Tryd.prog 57=false:=by kernel_rfl
attribute [simp] Tryd.underlying59
@[simp] theorem sz59:szOf Tryd.prog 59=some 2:=by kernel_rfl
@[simp] theorem ag59:isAggB Tryd.prog 59=true:=by kernel_rfl
attribute [simp] Tryd.eqGuardType59
attribute [simp] Tryd.stoodInHeld59
@[simp] theorem ze59:zerOf Tryd.prog 59=some ([.d (.int .i64 0),.nilS]):=by kernel_rfl
attribute [simp] Tryd.underlying60
attribute [simp] Tryd.underlying64
@[simp] theorem sz64:szOf Tryd.prog 64=some 2:=by kernel_rfl
@[simp] theorem ag64:isAggB Tryd.prog 64=true:=by kernel_rfl
@[simp] theorem by64:byOk Tryd.prog 64=true:=by kernel_rfl
attribute [simp] Tryd.eqGuardType64
attribute [simp] Tryd.stoodInHeld64
@[simp] theorem ze64:zerOf Tryd.prog 64=some ([.d (.int .i64 0),.d (.int .i64 0)]):=by kernel_rfl
attribute [simp] Tryd.underlying67
@[simp] theorem sz67:szOf Tryd.prog 67=some 3:=by kernel_rfl
@[simp] theorem ag67:isAggB Tryd.prog 67=true:=by kernel_rfl
@[simp] theorem by67:byOk Tryd.prog 67=true:=by kernel_rfl
attribute [simp] Tryd.eqGuardType67
attribute [simp] Tryd.stoodInHeld67
@[simp] theorem ze67:zerOf Tryd.prog 67=some ([.d (.int .i64 0),.d (.int .i64 0),.d (.int .i64 0)]):=by kernel_rfl
attribute [simp] Tryd.underlying69
@[simp] theorem sz69:szOf Tryd.prog 69=some 2:=by kernel_rfl
@[simp] theorem ag69:isAggB Tryd.prog 69=true:=by kernel_rfl
@[simp] theorem by69:byOk Tryd.prog 69=true:=by kernel_rfl
attribute [simp] Tryd.eqGuardType69
attribute [simp] Tryd.stoodInHeld69
@[simp] theorem ze69:zerOf Tryd.prog 69=some ([.d (.int .i64 0),.d (.int .i64 0)]):=by kernel_rfl
attribute [simp] Tryd.underlying71
@[simp] theorem sz71:szOf Tryd.prog 71=some 2:=by kernel_rfl
@[simp] theorem ag71:isAggB Tryd.prog 71=true:=by kernel_rfl
@[simp] theorem by71:byOk Tryd.prog 71=true:=by kernel_rfl
attribute [simp] Tryd.eqGuardType71
attribute [simp] Tryd.stoodInHeld71
@[simp] theorem ze71:zerOf Tryd.prog 71=some ([.d (.int .i64 0),.d (.int .i64 0)]):=by kernel_rfl
attribute [simp] Tryd.underlying76
attribute [simp] Tryd.underlying79
@[simp] theorem sz79:szOf Tryd.prog 79=some 4:=by kernel_rfl
@[simp] theorem ag79:isAggB Tryd.prog 79=true:=by kernel_rfl
@[simp] theorem by79:byOk Tryd.prog 79=true:=by kernel_rfl
attribute [simp] Tryd.eqGuardType79
attribute [simp] Tryd.stoodInHeld79
@[simp] theorem ze79:zerOf Tryd.prog 79=some ([.d (.int .i64 0),.d (.int .i64 0),.d (.int .i64 0),.d (.int .i64 0)]):=by kernel_rfl
attribute [simp] Tryd.underlying85
attribute [simp] Tryd.underlying89
@[simp] theorem sz89:szOf Tryd.prog 89=some 4:=by kernel_rfl
@[simp] theorem ag89:isAggB Tryd.prog 89=true:=by kernel_rfl
attribute [simp] Tryd.eqGuardType89
attribute [simp] Tryd.underlying92
attribute [simp] Tryd.underlying93
attribute [simp] Tryd.underlying94
attribute [simp] Tryd.underlying105
attribute [simp] Tryd.underlying117
attribute [simp] Tryd.underlying125
attribute [simp] Tryd.underlying127
@[simp] theorem sz127:szOf Tryd.prog 127=some 1:=by kernel_rfl
@[simp] theorem ag127:isAggB Tryd.prog 127=false:=by kernel_rfl
@[simp] theorem by127:byOk Tryd.prog 127=true:=by kernel_rfl
@[simp] theorem ze127:zerOf Tryd.prog 127=some ([.d (.int .u64 0)]):=by kernel_rfl
attribute [simp] Tryd.underlying131
attribute [simp] Tryd.underlying136
attribute [simp] Tryd.underlying139
attribute [simp] Tryd.underlying143
attribute [simp] Tryd.underlying146
attribute [simp] Tryd.underlying148
attribute [simp] Tryd.underlying152
@[simp] theorem sz152:szOf Tryd.prog 152=some 1:=by kernel_rfl
@[simp] theorem ag152:isAggB Tryd.prog 152=false:=by kernel_rfl
@[simp] theorem by152:byOk Tryd.prog 152=true:=by kernel_rfl
@[simp] theorem ze152:zerOf Tryd.prog 152=some ([.nilS]):=by kernel_rfl
attribute [simp] Tryd.underlying154
attribute [simp] Tryd.underlying157
end Go.Vl
