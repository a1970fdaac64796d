/- The facts on the types of this translation that the walks use. Conditions: none. -/
import Derived.Test.YtjnflahicimmlaaGreatDoorVmZv
import Derived.Test.YtjnflahicimmlaaGreatDoorProg
import Derived.KernelRfl
set_option linter.unusedSimpArgs false
set_option linter.unusedVariables false
namespace Go.Vl
open Go Go.Proofs
theorem sZ:Tryz.prog.follows .mixedOrders=true:=by kernel_rfl
attribute [simp] Tryz.underlying2
attribute [simp] Tryz.underlying3
@[simp] theorem sz3:fh Tryz.prog 3=some 1:=by kernel_rfl
@[simp] theorem ag3:gO Tryz.prog 3=false:=by kernel_rfl
@[simp] theorem by3:wV Tryz.prog 3=true:=by kernel_rfl
@[simp] theorem ze3:fZ Tryz.prog 3=some ([.d (.int .i64 0)]):=by kernel_rfl
attribute [simp] Tryz.underlying4
@[simp] theorem sz4:fh Tryz.prog 4=some 1:=by kernel_rfl
@[simp] theorem ag4:gO Tryz.prog 4=false:=by kernel_rfl
attribute [simp] Tryz.underlying5
@[simp] theorem sz5:fh Tryz.prog 5=some 1:=by kernel_rfl
@[simp] theorem ag5:gO Tryz.prog 5=false:=by kernel_rfl
@[simp] theorem by5:wV Tryz.prog 5=true:=by kernel_rfl
@[simp] theorem ze5:fZ Tryz.prog 5=some ([.d (.int .u8 0)]):=by kernel_rfl
attribute [simp] Tryz.underlying9
@[simp] theorem sz9:fh Tryz.prog 9=some 1:=by kernel_rfl
@[simp] theorem ag9:gO Tryz.prog 9=false:=by kernel_rfl
@[simp] theorem ze9:fZ Tryz.prog 9=some ([.d (.str .empty)]):=by kernel_rfl
attribute [simp] Tryz.underlying20
attribute [simp] Tryz.underlying22
@[simp] theorem ajm:fh Tryz.prog 22=some 1:=by kernel_rfl
@[simp] theorem amf:gO Tryz.prog 22=false:=by kernel_rfl
attribute [simp] Tryz.underlying23
@[simp] theorem ajl:fh Tryz.prog 23=some 1:=by kernel_rfl
@[simp] theorem ame:gO Tryz.prog 23=false:=by kernel_rfl
attribute [simp] Tryz.underlying24
@[simp] theorem ajk:fh Tryz.prog 24=some 1:=by kernel_rfl
@[simp] theorem amd:gO Tryz.prog 24=false:=by kernel_rfl
attribute [simp] Tryz.underlying26
@[simp] theorem ajj:fh Tryz.prog 26=some 2:=by kernel_rfl
@[simp] theorem amc:gO Tryz.prog 26=true:=by kernel_rfl
attribute [simp] Tryz.eqGuardType26
attribute [simp] Tryz.stoodInHeld26
@[simp] theorem ai2:fZ Tryz.prog 26=some ([.dK,.dK]):=by kernel_rfl
attribute [simp] Tryz.underlying27
attribute [simp] Tryz.underlying29
attribute [simp] Tryz.eqGuardType29
attribute [simp] Tryz.stoodInHeld29
@[simp] theorem ai1:fZ Tryz.prog 29=some ([.dK,.d (.int .i64 0)]):=by kernel_rfl
attribute [simp] Tryz.underlying31
attribute [simp] Tryz.underlying34
attribute [simp] Tryz.underlying35
attribute [simp] Tryz.underlying41
@[simp] theorem aji:fh Tryz.prog 41=some 1:=by kernel_rfl
@[simp] theorem amb:gO Tryz.prog 41=false:=by kernel_rfl
attribute [simp] Tryz.underlying47
@[simp] theorem ajh:fh Tryz.prog 47=some 1:=by kernel_rfl
@[simp] theorem ama:gO Tryz.prog 47=false:=by kernel_rfl
attribute [simp] Tryz.underlying49
@[simp] theorem ajg:fh Tryz.prog 49=some 8:=by kernel_rfl
@[simp] theorem al9:gO Tryz.prog 49=true:=by kernel_rfl
@[simp] theorem alW:wV Tryz.prog 49=true:=by kernel_rfl
attribute [simp] Tryz.eqGuardType49
attribute [simp] Tryz.stoodInHeld49
@[simp] theorem ai0:fZ Tryz.prog 49=some ([.d (.int .i64 0),.d (.int .i64 0),.dK,.dK,.d (.int .i64 0),.dK,.d (.str .empty),.d (.int .i64 0)]):=by kernel_rfl
attribute [simp] Tryz.underlying52
@[simp] theorem ajf:fh Tryz.prog 52=some 1:=by kernel_rfl
@[simp] theorem al8:gO Tryz.prog 52=false:=by kernel_rfl
attribute [simp] Tryz.underlying54
@[simp] theorem aje:fh Tryz.prog 54=some 2:=by kernel_rfl
@[simp] theorem alV:wV Tryz.prog 54=true:=by kernel_rfl
attribute [simp] Tryz.eqGuardType54
attribute [simp] Tryz.stoodInHeld54
@[simp] theorem aiZ:fZ Tryz.prog 54=some ([.dK,.dK]):=by kernel_rfl
attribute [simp] Tryz.underlying56
@[simp] theorem ajd:fh Tryz.prog 56=some 3:=by kernel_rfl
@[simp] theorem al7:gO Tryz.prog 56=true:=by kernel_rfl
attribute [simp] Tryz.eqGuardType56
attribute [simp] Tryz.stoodInHeld56
@[simp] theorem aiY:fZ Tryz.prog 56=some ([.d (.int .i64 0),.d (.str .empty),.d (.int .i64 0)]):=by kernel_rfl
attribute [simp] Tryz.underlying58
attribute [simp] Tryz.underlying62
@[simp] theorem ajc:fh Tryz.prog 62=some 2:=by kernel_rfl
@[simp] theorem al6:gO Tryz.prog 62=true:=by kernel_rfl
@[simp] theorem alU:wV Tryz.prog 62=true:=by kernel_rfl
attribute [simp] Tryz.eqGuardType62
attribute [simp] Tryz.stoodInHeld62
@[simp] theorem aiX:fZ Tryz.prog 62=some ([.d (.str .empty),.d (.int .i64 0)]):=by kernel_rfl
attribute [simp] Tryz.underlying68
attribute [simp] Tryz.underlying71
@[simp] theorem ajb:fh Tryz.prog 71=some 1:=by kernel_rfl
@[simp] theorem al5:gO Tryz.prog 71=false:=by kernel_rfl
@[simp] theorem aiW:fZ Tryz.prog 71=some ([.undef]):=by kernel_rfl
attribute [simp] Tryz.underlying73
@[simp] theorem al4:gO Tryz.prog 73=false:=by kernel_rfl
attribute [simp] Tryz.underlying75
attribute [simp] Tryz.underlying87
attribute [simp] Tryz.underlying89
@[simp] theorem aja:fh Tryz.prog 89=some 4:=by kernel_rfl
@[simp] theorem al3:gO Tryz.prog 89=true:=by kernel_rfl
@[simp] theorem alT:wV Tryz.prog 89=true:=by kernel_rfl
attribute [simp] Tryz.eqGuardType89
attribute [simp] Tryz.stoodInHeld89
@[simp] theorem aiV:fZ Tryz.prog 89=some ([.d (.int .i64 0),.d (.str .empty),.d (.int .i64 0),.d (.int .i64 0)]):=by kernel_rfl
attribute [simp] Tryz.underlying92
attribute [simp] Tryz.underlying94
attribute [simp] Tryz.underlying99
attribute [simp] Tryz.underlying102
attribute [simp] Tryz.underlying103
attribute [simp] Tryz.underlying107
attribute [simp] Tryz.underlying110
attribute [simp] Tryz.underlying111
attribute [simp] Tryz.underlying113
attribute [simp] Tryz.eqGuardType113
attribute [simp] Tryz.stoodInHeld113
@[simp] theorem ahz:fZ Tryz.prog 113=some ([.undef,.d (.int .i64 0),.dK]):=by kernel_rfl
attribute [simp] Tryz.underlying118
attribute [simp] Tryz.underlying131
attribute [simp] Tryz.underlying134
attribute [simp] Tryz.underlying140
attribute [simp] Tryz.underlying152
attribute [simp] Tryz.underlying159
attribute [simp] Tryz.underlying161
attribute [simp] Tryz.underlying168
attribute [simp] Tryz.eqGuardType168
attribute [simp] Tryz.underlying172
attribute [simp] Tryz.underlying176
attribute [simp] Tryz.underlying182
attribute [simp] Tryz.eqGuardType182
attribute [simp] Tryz.underlying183
attribute [simp] Tryz.eqGuardType183
attribute [simp] Tryz.underlying184
attribute [simp] Tryz.underlying188
attribute [simp] Tryz.eqGuardType188
attribute [simp] Tryz.underlying189
attribute [simp] Tryz.eqGuardType189
end Go.Vl
