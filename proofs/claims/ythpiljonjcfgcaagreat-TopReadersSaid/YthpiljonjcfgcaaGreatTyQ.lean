/- The facts on the types of this translation that the walks use. Conditions: none. -/
import Derived.Test.YthpiljonjcfgcaaGreatVmV
import Derived.Test.YthpiljonjcfgcaaGreatProg
import Derived.KernelRfl
set_option linter.unusedSimpArgs false
set_option linter.unusedVariables false
namespace Go.Vl
open Go Go.Proofs
theorem fol:Tryz.prog.follows .mixedOrders=true:=by kernel_rfl
attribute [simp] Tryz.underlying3
@[simp] theorem sz3:szOf Tryz.prog 3=some 1:=by kernel_rfl
@[simp] theorem ag3:isAggB Tryz.prog 3=false:=by kernel_rfl
@[simp] theorem by3:byOk Tryz.prog 3=true:=by kernel_rfl
@[simp] theorem ze3:zerOf Tryz.prog 3=some ([.d (.int .i64 0)]):=by kernel_rfl
attribute [simp] Tryz.underlying4
@[simp] theorem sz4:szOf Tryz.prog 4=some 1:=by kernel_rfl
@[simp] theorem ag4:isAggB Tryz.prog 4=false:=by kernel_rfl
@[simp] theorem by4:byOk Tryz.prog 4=true:=by kernel_rfl
@[simp] theorem ze4:zerOf Tryz.prog 4=some ([.d (.bool false)]):=by kernel_rfl
attribute [simp] Tryz.underlying5
attribute [simp] Tryz.underlying9
attribute [simp] Tryz.underlying22
@[simp] theorem sz22:szOf Tryz.prog 22=some 1:=by kernel_rfl
@[simp] theorem ag22:isAggB Tryz.prog 22=false:=by kernel_rfl
@[simp] theorem by22:byOk Tryz.prog 22=true:=by kernel_rfl
@[simp] theorem ze22:zerOf Tryz.prog 22=some ([.nilS]):=by kernel_rfl
attribute [simp] Tryz.underlying24
attribute [simp] Tryz.underlying26
attribute [simp] Tryz.eqGuardType26
attribute [simp] Tryz.stoodInHeld26
@[simp] theorem ze26:zerOf Tryz.prog 26=some ([.nilS,.d (.int .i64 0)]):=by kernel_rfl
attribute [simp] Tryz.underlying27
@[simp] theorem sz27:szOf Tryz.prog 27=some 1:=by kernel_rfl
@[simp] theorem ag27:isAggB Tryz.prog 27=false:=by kernel_rfl
attribute [simp] Tryz.underlying29
@[simp] theorem sz29:szOf Tryz.prog 29=some 2:=by kernel_rfl
@[simp] theorem ag29:isAggB Tryz.prog 29=true:=by kernel_rfl
attribute [simp] Tryz.eqGuardType29
attribute [simp] Tryz.stoodInHeld29
@[simp] theorem ze29:zerOf Tryz.prog 29=some ([.nilS,.nilS]):=by kernel_rfl
attribute [simp] Tryz.underlying31
@[simp] theorem sz31:szOf Tryz.prog 31=some 1:=by kernel_rfl
@[simp] theorem ag31:isAggB Tryz.prog 31=false:=by kernel_rfl
attribute [simp] Tryz.underlying33
@[simp] theorem sz33:szOf Tryz.prog 33=some 2:=by kernel_rfl
@[simp] theorem ag33:isAggB Tryz.prog 33=true:=by kernel_rfl
attribute [simp] Tryz.eqGuardType33
attribute [simp] Tryz.stoodInHeld33
@[simp] theorem ze33:zerOf Tryz.prog 33=some ([.d (.int .i64 0),.nilS]):=by kernel_rfl
attribute [simp] Tryz.underlying42
@[simp] theorem sz42:szOf Tryz.prog 42=some 5:=by kernel_rfl
@[simp] theorem ag42:isAggB Tryz.prog 42=true:=by kernel_rfl
attribute [simp] Tryz.eqGuardType42
attribute [simp] Tryz.stoodInHeld42
@[simp] theorem ze42:zerOf Tryz.prog 42=some ([.d (.int .i64 0),.d (.int .i64 0),.d (.int .i64 0),.d (.int .i64 0),.nilS]):=by kernel_rfl
attribute [simp] Tryz.underlying50
@[simp] theorem sz50:szOf Tryz.prog 50=some 2:=by kernel_rfl
@[simp] theorem ag50:isAggB Tryz.prog 50=true:=by kernel_rfl
@[simp] theorem by50:byOk Tryz.prog 50=true:=by kernel_rfl
attribute [simp] Tryz.eqGuardType50
attribute [simp] Tryz.stoodInHeld50
@[simp] theorem ze50:zerOf Tryz.prog 50=some ([.d (.int .i64 0),.d (.int .i64 0)]):=by kernel_rfl
attribute [simp] Tryz.underlying52
attribute [simp] Tryz.eqGuardType52
attribute [simp] Tryz.stoodInHeld52
@[simp] theorem ze52:zerOf Tryz.prog 52=some ([.nilS,.d (.int .i64 0),.d (.int .i64 0),.d (.int .i64 0),.d (.int .i64 0),.nilS]):=by kernel_rfl
attribute [simp] Tryz.underlying57
@[simp] theorem sz57:szOf Tryz.prog 57=some 4:=by kernel_rfl
@[simp] theorem ag57:isAggB Tryz.prog 57=true:=by kernel_rfl
@[simp] theorem by57:byOk Tryz.prog 57=true:=by kernel_rfl
attribute [simp] Tryz.eqGuardType57
attribute [simp] Tryz.stoodInHeld57
@[simp] theorem ze57:zerOf Tryz.prog 57=some ([.d (.int .i64 0),.d (.int .i64 0),.d (.int .i64 0),.d (.int .i64 0)]):=by kernel_rfl
attribute [simp] Tryz.underlying59
@[simp] theorem sz59:szOf Tryz.prog 59=some 7:=by kernel_rfl
@[simp] theorem ag59:isAggB Tryz.prog 59=true:=by kernel_rfl
@[simp] theorem by59:byOk Tryz.prog 59=true:=by kernel_rfl
attribute [simp] Tryz.eqGuardType59
attribute [simp] Tryz.stoodInHeld59
@[simp] theorem ze59:zerOf Tryz.prog 59=some ([.d (.int .i64 0),.d (.int .i64 0),.d (.int .i64 0),.d (.int .i64 0),.d (.int .i64 0),.d (.int .i64 0),.d (.int .i64 0)]):=by kernel_rfl
attribute [simp] Tryz.underlying60
attribute [simp] Tryz.underlying61
attribute [simp] Tryz.underlying68
attribute [simp] Tryz.underlying70
attribute [simp] Tryz.underlying72
@[simp] theorem sz72:szOf Tryz.prog 72=some 1:=by kernel_rfl
@[simp] theorem ag72:isAggB Tryz.prog 72=false:=by kernel_rfl
@[simp] theorem by72:byOk Tryz.prog 72=true:=by kernel_rfl
@[simp] theorem ze72:zerOf Tryz.prog 72=some ([.d (.int .u64 0)]):=by kernel_rfl
attribute [simp] Tryz.underlying75
attribute [simp] Tryz.underlying88
@[simp] theorem sz88:szOf Tryz.prog 88=some 1:=by kernel_rfl
@[simp] theorem ag88:isAggB Tryz.prog 88=false:=by kernel_rfl
@[simp] theorem by88:byOk Tryz.prog 88=true:=by kernel_rfl
@[simp] theorem ze88:zerOf Tryz.prog 88=some ([.nilS]):=by kernel_rfl
attribute [simp] Tryz.underlying90
attribute [simp] Tryz.underlying99
attribute [simp] Tryz.underlying101
attribute [simp] Tryz.underlying103
attribute [simp] Tryz.underlying115
attribute [simp] Tryz.underlying116
attribute [simp] Tryz.underlying125
attribute [simp] Tryz.underlying131
attribute [simp] Tryz.underlying140
attribute [simp] Tryz.underlying144
attribute [simp] Tryz.underlying146
end Go.Vl
