/- The facts on the types of this translation that the walks use. Conditions: none. -/
import Derived.Test.YtbnfogbfphakmaaGreatDoorVmV
import Derived.Test.YtbnfogbfphakmaaGreatDoorProg
import Derived.KernelRfl
set_option linter.unusedSimpArgs false
set_option linter.unusedVariables false
namespace Go.Vl
open Go Go.Proofs
theorem fol:Tryz.prog.follows .mixedOrders=true:=by kernel_rfl
attribute [simp] Tryz.underlying2
attribute [simp] Tryz.underlying3
@[simp] theorem sz3:szOf Tryz.prog 3=some 1:=by kernel_rfl
@[simp] theorem ag3:isAggB Tryz.prog 3=false:=by kernel_rfl
@[simp] theorem by3:byOk Tryz.prog 3=true:=by kernel_rfl
@[simp] theorem ze3:zerOf Tryz.prog 3=some ([.d (.int .i64 0)]):=by kernel_rfl
attribute [simp] Tryz.underlying4
@[simp] theorem sz4:szOf Tryz.prog 4=some 1:=by kernel_rfl
@[simp] theorem ag4:isAggB Tryz.prog 4=false:=by kernel_rfl
@[simp] theorem by4:byOk Tryz.prog 4=true:=by kernel_rfl
@[simp] theorem ze4:zerOf Tryz.prog 4=some ([.d (.bool false)]):=by kernel_rfl
attribute [simp] Tryz.underlying5
attribute [simp] Tryz.underlying9
attribute [simp] Tryz.underlying21
attribute [simp] Tryz.underlying22
@[simp] theorem sz22:szOf Tryz.prog 22=some 1:=by kernel_rfl
@[simp] theorem ag22:isAggB Tryz.prog 22=false:=by kernel_rfl
attribute [simp] Tryz.underlying24
attribute [simp] Tryz.underlying26
attribute [simp] Tryz.eqGuardType26
attribute [simp] Tryz.stoodInHeld26
@[simp] theorem ze26:zerOf Tryz.prog 26=some ([.nilS,.d (.int .i64 0)]):=by kernel_rfl
attribute [simp] Tryz.underlying27
@[simp] theorem sz27:szOf Tryz.prog 27=some 1:=by kernel_rfl
@[simp] theorem ag27:isAggB Tryz.prog 27=false:=by kernel_rfl
attribute [simp] Tryz.underlying29
@[simp] theorem sz29:szOf Tryz.prog 29=some 2:=by kernel_rfl
@[simp] theorem ag29:isAggB Tryz.prog 29=true:=by kernel_rfl
attribute [simp] Tryz.eqGuardType29
attribute [simp] Tryz.stoodInHeld29
@[simp] theorem ze29:zerOf Tryz.prog 29=some ([.nilS,.nilS]):=by kernel_rfl
attribute [simp] Tryz.underlying31
@[simp] theorem sz31:szOf Tryz.prog 31=some 1:=by kernel_rfl
@[simp] theorem ag31:isAggB Tryz.prog 31=false:=by kernel_rfl
attribute [simp] Tryz.underlying33
@[simp] theorem sz33:szOf Tryz.prog 33=some 2:=by kernel_rfl
@[simp] theorem ag33:isAggB Tryz.prog 33=true:=by kernel_rfl
attribute [simp] Tryz.eqGuardType33
attribute [simp] Tryz.stoodInHeld33
@[simp] theorem ze33:zerOf Tryz.prog 33=some ([.d (.int .i64 0),.nilS]):=by kernel_rfl
attribute [simp] Tryz.underlying36
attribute [simp] Tryz.underlying37
attribute [simp] Tryz.underlying40
attribute [simp] Tryz.underlying42
@[simp] theorem sz42:szOf Tryz.prog 42=some 2:=by kernel_rfl
@[simp] theorem ag42:isAggB Tryz.prog 42=true:=by kernel_rfl
@[simp] theorem by42:byOk Tryz.prog 42=true:=by kernel_rfl
attribute [simp] Tryz.eqGuardType42
attribute [simp] Tryz.stoodInHeld42
@[simp] theorem ze42:zerOf Tryz.prog 42=some ([.d (.int .i64 0),.d (.int .i64 0)]):=by kernel_rfl
attribute [simp] Tryz.underlying46
@[simp] theorem sz46:szOf Tryz.prog 46=some 4:=by kernel_rfl
@[simp] theorem ag46:isAggB Tryz.prog 46=true:=by kernel_rfl
@[simp] theorem by46:byOk Tryz.prog 46=true:=by kernel_rfl
attribute [simp] Tryz.eqGuardType46
attribute [simp] Tryz.stoodInHeld46
@[simp] theorem ze46:zerOf Tryz.prog 46=some ([.d (.int .i64 0),.d (.int .i64 0),.d (.int .i64 0),.d (.int .i64 0)]):=by kernel_rfl
attribute [simp] Tryz.underlying48
@[simp] theorem sz48:szOf Tryz.prog 48=some 2:=by kernel_rfl
@[simp] theorem ag48:isAggB Tryz.prog 48=true:=by kernel_rfl
@[simp] theorem by48:byOk Tryz.prog 48=true:=by kernel_rfl
attribute [simp] Tryz.eqGuardType48
attribute [simp] Tryz.stoodInHeld48
@[simp] theorem ze48:zerOf Tryz.prog 48=some ([.d (.int .i64 0),.d (.int .i64 0)]):=by kernel_rfl
attribute [simp] Tryz.underlying55
attribute [simp] Tryz.underlying57
attribute [simp] Tryz.eqGuardType57
attribute [simp] Tryz.stoodInHeld57
attribute [simp] Tryz.underlying62
attribute [simp] Tryz.eqGuardType62
attribute [simp] Tryz.stoodInHeld62
attribute [simp] Tryz.underlying63
attribute [simp] Tryz.underlying69
attribute [simp] Tryz.underlying72
attribute [simp] Tryz.underlying81
@[simp] theorem sz81:szOf Tryz.prog 81=some 4:=by kernel_rfl
@[simp] theorem ag81:isAggB Tryz.prog 81=true:=by kernel_rfl
@[simp] theorem by81:byOk Tryz.prog 81=true:=by kernel_rfl
attribute [simp] Tryz.eqGuardType81
attribute [simp] Tryz.stoodInHeld81
@[simp] theorem ze81:zerOf Tryz.prog 81=some ([.d (.int .i64 0),.d (.int .i64 0),.d (.int .i64 0),.d (.int .i64 0)]):=by kernel_rfl
attribute [simp] Tryz.underlying83
@[simp] theorem sz83:szOf Tryz.prog 83=some 7:=by kernel_rfl
@[simp] theorem ag83:isAggB Tryz.prog 83=true:=by kernel_rfl
@[simp] theorem by83:byOk Tryz.prog 83=true:=by kernel_rfl
attribute [simp] Tryz.eqGuardType83
attribute [simp] Tryz.stoodInHeld83
@[simp] theorem ze83:zerOf Tryz.prog 83=some ([.d (.int .i64 0),.d (.int .i64 0),.d (.int .i64 0),.d (.int .i64 0),.d (.int .i64 0),.d (.int .i64 0),.d (.int .i64 0)]):=by kernel_rfl
attribute [simp] Tryz.underlying88
attribute [simp] Tryz.underlying99
attribute [simp] Tryz.eqGuardType99
attribute [simp] Tryz.stoodInHeld99
attribute [simp] Tryz.underlying101
attribute [simp] Tryz.eqGuardType101
attribute [simp] Tryz.stoodInHeld101
attribute [simp] Tryz.underlying103
attribute [simp] Tryz.underlying106
attribute [simp] Tryz.underlying110
attribute [simp] Tryz.underlying111
attribute [simp] Tryz.underlying114
attribute [simp] Tryz.underlying117
attribute [simp] Tryz.eqGuardType117
attribute [simp] Tryz.stoodInHeld117
attribute [simp] Tryz.underlying122
attribute [simp] Tryz.underlying123
attribute [simp] Tryz.underlying125
attribute [simp] Tryz.eqGuardType125
attribute [simp] Tryz.stoodInHeld125
attribute [simp] Tryz.underlying127
attribute [simp] Tryz.underlying147
attribute [simp] Tryz.underlying152
attribute [simp] Tryz.underlying153
attribute [simp] Tryz.underlying155
attribute [simp] Tryz.eqGuardType155
attribute [simp] Tryz.stoodInHeld155
attribute [simp] Tryz.underlying157
attribute [simp] Tryz.underlying158
attribute [simp] Tryz.underlying159
attribute [simp] Tryz.underlying161
attribute [simp] Tryz.eqGuardType161
attribute [simp] Tryz.stoodInHeld161
attribute [simp] Tryz.underlying162
attribute [simp] Tryz.underlying163
attribute [simp] Tryz.underlying164
attribute [simp] Tryz.underlying165
attribute [simp] Tryz.underlying177
attribute [simp] Tryz.underlying179
attribute [simp] Tryz.underlying180
attribute [simp] Tryz.underlying184
attribute [simp] Tryz.eqGuardType184
attribute [simp] Tryz.stoodInHeld184
attribute [simp] Tryz.underlying187
attribute [simp] Tryz.underlying191
attribute [simp] Tryz.underlying193
@[simp] theorem sz193:szOf Tryz.prog 193=some 1:=by kernel_rfl
@[simp] theorem ag193:isAggB Tryz.prog 193=false:=by kernel_rfl
@[simp] theorem by193:byOk Tryz.prog 193=true:=by kernel_rfl
@[simp] theorem ze193:zerOf Tryz.prog 193=some ([.d (.int .u64 0)]):=by kernel_rfl
attribute [simp] Tryz.underlying197
attribute [simp] Tryz.underlying211
attribute [simp] Tryz.underlying216
attribute [simp] Tryz.underlying218
attribute [simp] Tryz.underlying224
attribute [simp] Tryz.underlying227
attribute [simp] Tryz.underlying235
attribute [simp] Tryz.eqGuardType235
attribute [simp] Tryz.underlying241
attribute [simp] Tryz.underlying249
attribute [simp] Tryz.underlying251
@[simp] theorem sz251:szOf Tryz.prog 251=some 1:=by kernel_rfl
@[simp] theorem ag251:isAggB Tryz.prog 251=false:=by kernel_rfl
@[simp] theorem by251:byOk Tryz.prog 251=true:=by kernel_rfl
@[simp] theorem ze251:zerOf Tryz.prog 251=some ([.nilS]):=by kernel_rfl
attribute [simp] Tryz.underlying253
attribute [simp] Tryz.underlying256
attribute [simp] Tryz.underlying266
attribute [simp] Tryz.eqGuardType266
attribute [simp] Tryz.stoodInHeld266
attribute [simp] Tryz.underlying274
attribute [simp] Tryz.eqGuardType274
attribute [simp] Tryz.underlying275
attribute [simp] Tryz.eqGuardType275
attribute [simp] Tryz.underlying276
attribute [simp] Tryz.underlying282
attribute [simp] Tryz.underlying284
attribute [simp] Tryz.eqGuardType284
attribute [simp] Tryz.stoodInHeld284
attribute [simp] Tryz.underlying288
attribute [simp] Tryz.underlying291
attribute [simp] Tryz.eqGuardType291
attribute [simp] Tryz.underlying293
attribute [simp] Tryz.eqGuardType293
attribute [simp] Tryz.stoodInHeld293
attribute [simp] Tryz.underlying294
attribute [simp] Tryz.eqGuardType294
attribute [simp] Tryz.underlying298
attribute [simp] Tryz.eqGuardType298
attribute [simp] Tryz.underlying299
attribute [simp] Tryz.eqGuardType299
end Go.Vl
