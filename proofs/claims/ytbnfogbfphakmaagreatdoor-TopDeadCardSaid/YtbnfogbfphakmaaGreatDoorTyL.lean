/- The facts on the types of this translation that the walks use. Conditions: none. -/
import Derived.Test.YtbnfogbfphakmaaGreatDoorVmV
import Derived.Test.YtbnfogbfphakmaaGreatDoorProg
import Derived.KernelRfl
set_option linter.unusedSimpArgs false
set_option linter.unusedVariables false
namespace Go.Vl
open Go Go.Proofs
theorem fol:Tryz.prog.follows .mixedOrders=true:=by kernel_rfl
attribute [simp] Tryz.underlying2
attribute [simp] Tryz.underlying3
@[simp] theorem sz3:Ad Tryz.prog 3=some 1:=by kernel_rfl
@[simp] theorem ag3:Ao Tryz.prog 3=false:=by kernel_rfl
@[simp] theorem by3:EX Tryz.prog 3=true:=by kernel_rfl
@[simp] theorem ze3:Aw Tryz.prog 3=some ([.d (.int .i64 0)]):=by kernel_rfl
attribute [simp] Tryz.underlying4
@[simp] theorem sz4:Ad Tryz.prog 4=some 1:=by kernel_rfl
@[simp] theorem ag4:Ao Tryz.prog 4=false:=by kernel_rfl
@[simp] theorem by4:EX Tryz.prog 4=true:=by kernel_rfl
@[simp] theorem ze4:Aw Tryz.prog 4=some ([.d (.bool false)]):=by kernel_rfl
attribute [simp] Tryz.underlying5
attribute [simp] Tryz.underlying9
attribute [simp] Tryz.underlying21
attribute [simp] Tryz.underlying22
@[simp] theorem Zr:Ad Tryz.prog 22=some 1:=by kernel_rfl
@[simp] theorem Zs:Ao Tryz.prog 22=false:=by kernel_rfl
attribute [simp] Tryz.underlying24
attribute [simp] Tryz.underlying26
attribute [simp] Tryz.eqGuardType26
attribute [simp] Tryz.stoodInHeld26
@[simp] theorem Zt:Aw Tryz.prog 26=some ([.nilS,.d (.int .i64 0)]):=by kernel_rfl
attribute [simp] Tryz.underlying27
@[simp] theorem Zu:Ad Tryz.prog 27=some 1:=by kernel_rfl
@[simp] theorem Zv:Ao Tryz.prog 27=false:=by kernel_rfl
attribute [simp] Tryz.underlying29
@[simp] theorem Zw:Ad Tryz.prog 29=some 2:=by kernel_rfl
@[simp] theorem Zx:Ao Tryz.prog 29=true:=by kernel_rfl
attribute [simp] Tryz.eqGuardType29
attribute [simp] Tryz.stoodInHeld29
attribute [simp] Tryz.underlying31
@[simp] theorem Zy:Ad Tryz.prog 31=some 1:=by kernel_rfl
@[simp] theorem Zz:Ao Tryz.prog 31=false:=by kernel_rfl
attribute [simp] Tryz.underlying33
@[simp] theorem Z0:Ad Tryz.prog 33=some 2:=by kernel_rfl
@[simp] theorem Z1:Ao Tryz.prog 33=true:=by kernel_rfl
attribute [simp] Tryz.eqGuardType33
attribute [simp] Tryz.stoodInHeld33
attribute [simp] Tryz.underlying36
attribute [simp] Tryz.underlying37
attribute [simp] Tryz.underlying40
attribute [simp] Tryz.underlying42
attribute [simp] Tryz.eqGuardType42
attribute [simp] Tryz.stoodInHeld42
attribute [simp] Tryz.underlying46
attribute [simp] Tryz.eqGuardType46
attribute [simp] Tryz.stoodInHeld46
attribute [simp] Tryz.underlying48
attribute [simp] Tryz.eqGuardType48
attribute [simp] Tryz.stoodInHeld48
attribute [simp] Tryz.underlying55
@[simp] theorem Z2:Ad Tryz.prog 55=some 1:=by kernel_rfl
@[simp] theorem Z3:Ao Tryz.prog 55=false:=by kernel_rfl
attribute [simp] Tryz.underlying57
@[simp] theorem Z4:Ad Tryz.prog 57=some 4:=by kernel_rfl
@[simp] theorem Z5:Ao Tryz.prog 57=true:=by kernel_rfl
attribute [simp] Tryz.eqGuardType57
attribute [simp] Tryz.stoodInHeld57
@[simp] theorem Z6:Aw Tryz.prog 57=some ([.d (.bool false),.nilS,.nilS,.nilS]):=by kernel_rfl
attribute [simp] Tryz.underlying62
@[simp] theorem Z7:Ad Tryz.prog 62=some 4:=by kernel_rfl
@[simp] theorem Z8:Ao Tryz.prog 62=true:=by kernel_rfl
attribute [simp] Tryz.eqGuardType62
attribute [simp] Tryz.stoodInHeld62
@[simp] theorem Z9:Aw Tryz.prog 62=some ([.d (.int .i64 0),.d (.int .i64 0),.d (.int .i64 0),.d (.int .i64 0)]):=by kernel_rfl
attribute [simp] Tryz.underlying63
attribute [simp] Tryz.underlying69
attribute [simp] Tryz.underlying72
attribute [simp] Tryz.underlying81
@[simp] theorem aA:Ad Tryz.prog 81=some 4:=by kernel_rfl
@[simp] theorem aB:Ao Tryz.prog 81=true:=by kernel_rfl
attribute [simp] Tryz.eqGuardType81
attribute [simp] Tryz.stoodInHeld81
@[simp] theorem aC:Aw Tryz.prog 81=some ([.d (.int .i64 0),.d (.int .i64 0),.d (.int .i64 0),.d (.int .i64 0)]):=by kernel_rfl
attribute [simp] Tryz.underlying83
@[simp] theorem aD:Ad Tryz.prog 83=some 7:=by kernel_rfl
@[simp] theorem aE:Ao Tryz.prog 83=true:=by kernel_rfl
attribute [simp] Tryz.eqGuardType83
attribute [simp] Tryz.stoodInHeld83
@[simp] theorem aF:Aw Tryz.prog 83=some ([.d (.int .i64 0),.d (.int .i64 0),.d (.int .i64 0),.d (.int .i64 0),.d (.int .i64 0),.d (.int .i64 0),.d (.int .i64 0)]):=by kernel_rfl
attribute [simp] Tryz.underlying88
attribute [simp] Tryz.underlying99
@[simp] theorem aG:Ad Tryz.prog 99=some 2:=by kernel_rfl
@[simp] theorem aH:Ao Tryz.prog 99=true:=by kernel_rfl
@[simp] theorem aI:EX Tryz.prog 99=true:=by kernel_rfl
attribute [simp] Tryz.eqGuardType99
attribute [simp] Tryz.stoodInHeld99
@[simp] theorem aJ:Aw Tryz.prog 99=some ([.d (.int .i64 0),.d (.bool false)]):=by kernel_rfl
attribute [simp] Tryz.underlying101
@[simp] theorem Ze:Ad Tryz.prog 101=some 3:=by kernel_rfl
@[simp] theorem Zf:Ao Tryz.prog 101=true:=by kernel_rfl
@[simp] theorem Zg:EX Tryz.prog 101=true:=by kernel_rfl
attribute [simp] Tryz.eqGuardType101
attribute [simp] Tryz.stoodInHeld101
@[simp] theorem Zh:Aw Tryz.prog 101=some ([.d (.int .i64 0),.d (.int .i64 0),.d (.bool false)]):=by kernel_rfl
attribute [simp] Tryz.underlying103
attribute [simp] Tryz.underlying106
@[simp] theorem Zi:Ad Tryz.prog 106=some 1:=by kernel_rfl
@[simp] theorem Zj:Ao Tryz.prog 106=false:=by kernel_rfl
@[simp] theorem Zk:Aw Tryz.prog 106=some ([.undef]):=by kernel_rfl
attribute [simp] Tryz.underlying110
attribute [simp] Tryz.underlying111
attribute [simp] Tryz.underlying114
attribute [simp] Tryz.underlying117
attribute [simp] Tryz.eqGuardType117
attribute [simp] Tryz.stoodInHeld117
attribute [simp] Tryz.underlying122
attribute [simp] Tryz.underlying123
attribute [simp] Tryz.underlying125
attribute [simp] Tryz.eqGuardType125
attribute [simp] Tryz.stoodInHeld125
attribute [simp] Tryz.underlying127
attribute [simp] Tryz.underlying147
attribute [simp] Tryz.underlying152
attribute [simp] Tryz.underlying153
attribute [simp] Tryz.underlying155
attribute [simp] Tryz.eqGuardType155
attribute [simp] Tryz.stoodInHeld155
attribute [simp] Tryz.underlying157
attribute [simp] Tryz.underlying158
attribute [simp] Tryz.underlying159
attribute [simp] Tryz.underlying161
attribute [simp] Tryz.eqGuardType161
attribute [simp] Tryz.stoodInHeld161
attribute [simp] Tryz.underlying162
attribute [simp] Tryz.underlying163
attribute [simp] Tryz.underlying164
attribute [simp] Tryz.underlying165
attribute [simp] Tryz.underlying177
attribute [simp] Tryz.underlying179
attribute [simp] Tryz.underlying180
attribute [simp] Tryz.underlying184
attribute [simp] Tryz.eqGuardType184
attribute [simp] Tryz.stoodInHeld184
attribute [simp] Tryz.underlying187
attribute [simp] Tryz.underlying191
attribute [simp] Tryz.underlying193
@[simp] theorem Zl:Ad Tryz.prog 193=some 1:=by kernel_rfl
@[simp] theorem Zm:Ao Tryz.prog 193=false:=by kernel_rfl
@[simp] theorem Zn:EX Tryz.prog 193=true:=by kernel_rfl
@[simp] theorem Zo:Aw Tryz.prog 193=some ([.d (.int .u64 0)]):=by kernel_rfl
attribute [simp] Tryz.underlying197
attribute [simp] Tryz.underlying211
attribute [simp] Tryz.underlying216
attribute [simp] Tryz.underlying218
attribute [simp] Tryz.underlying224
attribute [simp] Tryz.underlying227
attribute [simp] Tryz.underlying235
attribute [simp] Tryz.eqGuardType235
attribute [simp] Tryz.underlying241
attribute [simp] Tryz.underlying249
attribute [simp] Tryz.underlying251
@[simp] theorem Q1:Ad Tryz.prog 251=some 1:=by kernel_rfl
@[simp] theorem Y7:Ao Tryz.prog 251=false:=by kernel_rfl
@[simp] theorem Zp:EX Tryz.prog 251=true:=by kernel_rfl
@[simp] theorem Zq:Aw Tryz.prog 251=some ([.nilS]):=by kernel_rfl
attribute [simp] Tryz.underlying253
attribute [simp] Tryz.underlying256
attribute [simp] Tryz.underlying266
attribute [simp] Tryz.eqGuardType266
attribute [simp] Tryz.stoodInHeld266
attribute [simp] Tryz.underlying274
attribute [simp] Tryz.eqGuardType274
attribute [simp] Tryz.underlying275
attribute [simp] Tryz.eqGuardType275
attribute [simp] Tryz.underlying276
attribute [simp] Tryz.underlying282
attribute [simp] Tryz.underlying284
attribute [simp] Tryz.eqGuardType284
attribute [simp] Tryz.stoodInHeld284
attribute [simp] Tryz.underlying288
attribute [simp] Tryz.underlying291
attribute [simp] Tryz.eqGuardType291
attribute [simp] Tryz.underlying293
attribute [simp] Tryz.eqGuardType293
attribute [simp] Tryz.stoodInHeld293
attribute [simp] Tryz.underlying294
attribute [simp] Tryz.eqGuardType294
attribute [simp] Tryz.underlying298
attribute [simp] Tryz.eqGuardType298
attribute [simp] Tryz.underlying299
attribute [simp] Tryz.eqGuardType299
end Go.Vl
