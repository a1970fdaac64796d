/- The facts on the types of this translation that the walks use. Conditions: none. -/
import Derived.Test.YtjnflahicimmlaaGreatVmV
import Derived.Test.YtjnflahicimmlaaGreatProg
import Derived.KernelRfl
set_option linter.unusedSimpArgs false
set_option linter.unusedVariables false
namespace Go.Vl
open Go Go.Proofs
theorem fol:Tryz.prog.follows .mixedOrders=true:=by kernel_rfl
attribute [simp] Tryz.underlying3
@[simp] theorem sz3:szOf Tryz.prog 3=some 1:=by kernel_rfl
@[simp] theorem ag3:isAggB Tryz.prog 3=false:=by kernel_rfl
@[simp] theorem by3:byOk Tryz.prog 3=true:=by kernel_rfl
@[simp] theorem ze3:zerOf Tryz.prog 3=some ([.d (.int .i64 0)]):=by kernel_rfl
attribute [simp] Tryz.underlying4
@[simp] theorem sz4:szOf Tryz.prog 4=some 1:=by kernel_rfl
@[simp] theorem ag4:isAggB Tryz.prog 4=false:=by kernel_rfl
attribute [simp] Tryz.underlying5
@[simp] theorem sz5:szOf Tryz.prog 5=some 1:=by kernel_rfl
@[simp] theorem ag5:isAggB Tryz.prog 5=false:=by kernel_rfl
@[simp] theorem by5:byOk Tryz.prog 5=true:=by kernel_rfl
@[simp] theorem ze5:zerOf Tryz.prog 5=some ([.d (.int .u8 0)]):=by kernel_rfl
attribute [simp] Tryz.underlying9
@[simp] theorem sz9:szOf Tryz.prog 9=some 1:=by kernel_rfl
@[simp] theorem ag9:isAggB Tryz.prog 9=false:=by kernel_rfl
@[simp] theorem ze9:zerOf Tryz.prog 9=some ([.d (.str .empty)]):=by kernel_rfl
attribute [simp] Tryz.underlying20
attribute [simp] Tryz.underlying22
@[simp] theorem sz22:szOf Tryz.prog 22=some 1:=by kernel_rfl
@[simp] theorem ag22:isAggB Tryz.prog 22=false:=by kernel_rfl
attribute [simp] Tryz.underlying23
@[simp] theorem sz23:szOf Tryz.prog 23=some 1:=by kernel_rfl
@[simp] theorem ag23:isAggB Tryz.prog 23=false:=by kernel_rfl
attribute [simp] Tryz.underlying24
@[simp] theorem sz24:szOf Tryz.prog 24=some 1:=by kernel_rfl
@[simp] theorem ag24:isAggB Tryz.prog 24=false:=by kernel_rfl
attribute [simp] Tryz.underlying26
@[simp] theorem sz26:szOf Tryz.prog 26=some 2:=by kernel_rfl
@[simp] theorem ag26:isAggB Tryz.prog 26=true:=by kernel_rfl
attribute [simp] Tryz.eqGuardType26
attribute [simp] Tryz.stoodInHeld26
@[simp] theorem ze26:zerOf Tryz.prog 26=some ([.nilS,.nilS]):=by kernel_rfl
attribute [simp] Tryz.underlying27
attribute [simp] Tryz.underlying29
attribute [simp] Tryz.eqGuardType29
attribute [simp] Tryz.stoodInHeld29
@[simp] theorem ze29:zerOf Tryz.prog 29=some ([.nilS,.d (.int .i64 0)]):=by kernel_rfl
attribute [simp] Tryz.underlying32
attribute [simp] Tryz.underlying34
attribute [simp] Tryz.underlying40
@[simp] theorem sz40:szOf Tryz.prog 40=some 1:=by kernel_rfl
@[simp] theorem ag40:isAggB Tryz.prog 40=false:=by kernel_rfl
attribute [simp] Tryz.underlying45
@[simp] theorem sz45:szOf Tryz.prog 45=some 1:=by kernel_rfl
@[simp] theorem ag45:isAggB Tryz.prog 45=false:=by kernel_rfl
attribute [simp] Tryz.underlying47
@[simp] theorem sz47:szOf Tryz.prog 47=some 8:=by kernel_rfl
@[simp] theorem ag47:isAggB Tryz.prog 47=true:=by kernel_rfl
@[simp] theorem by47:byOk Tryz.prog 47=true:=by kernel_rfl
attribute [simp] Tryz.eqGuardType47
attribute [simp] Tryz.stoodInHeld47
@[simp] theorem ze47:zerOf Tryz.prog 47=some ([.d (.int .i64 0),.d (.int .i64 0),.nilS,.nilS,.d (.int .i64 0),.nilS,.d (.str .empty),.d (.int .i64 0)]):=by kernel_rfl
attribute [simp] Tryz.underlying55
attribute [simp] Tryz.underlying57
@[simp] theorem sz57:szOf Tryz.prog 57=some 2:=by kernel_rfl
@[simp] theorem ag57:isAggB Tryz.prog 57=true:=by kernel_rfl
@[simp] theorem by57:byOk Tryz.prog 57=true:=by kernel_rfl
attribute [simp] Tryz.eqGuardType57
attribute [simp] Tryz.stoodInHeld57
@[simp] theorem ze57:zerOf Tryz.prog 57=some ([.d (.str .empty),.d (.int .i64 0)]):=by kernel_rfl
attribute [simp] Tryz.underlying60
@[simp] theorem sz60:szOf Tryz.prog 60=some 4:=by kernel_rfl
@[simp] theorem ag60:isAggB Tryz.prog 60=true:=by kernel_rfl
@[simp] theorem by60:byOk Tryz.prog 60=true:=by kernel_rfl
attribute [simp] Tryz.eqGuardType60
attribute [simp] Tryz.stoodInHeld60
@[simp] theorem ze60:zerOf Tryz.prog 60=some ([.d (.int .i64 0),.d (.str .empty),.d (.int .i64 0),.d (.int .i64 0)]):=by kernel_rfl
attribute [simp] Tryz.underlying63
attribute [simp] Tryz.underlying65
attribute [simp] Tryz.underlying66
@[simp] theorem sz66:szOf Tryz.prog 66=some 1:=by kernel_rfl
@[simp] theorem ag66:isAggB Tryz.prog 66=false:=by kernel_rfl
@[simp] theorem ze66:zerOf Tryz.prog 66=some ([.undef]):=by kernel_rfl
attribute [simp] Tryz.underlying73
attribute [simp] Tryz.underlying74
attribute [simp] Tryz.underlying75
attribute [simp] Tryz.underlying78
attribute [simp] Tryz.underlying80
attribute [simp] Tryz.underlying82
attribute [simp] Tryz.underlying86
attribute [simp] Tryz.underlying97
attribute [simp] Tryz.underlying104
attribute [simp] Tryz.underlying110
attribute [simp] Tryz.underlying121
attribute [simp] Tryz.underlying128
attribute [simp] Tryz.underlying130
attribute [simp] Tryz.underlying138
attribute [simp] Tryz.underlying142
attribute [simp] Tryz.underlying147
end Go.Vl
