/- The facts on the types of this translation that the walks use. Conditions: none. -/
import Derived.Test.YtjnflahicimmlaaGreatDoorVmV
import Derived.Test.YtjnflahicimmlaaGreatDoorProg
import Derived.KernelRfl
set_option linter.unusedSimpArgs false
set_option linter.unusedVariables false
namespace Go.Vl
open Go Go.Proofs
theorem fol : Tryz.prog.follows .mixedOrders = true := by kernel_rfl
attribute [simp] Tryz.underlying2
attribute [simp] Tryz.underlying3
@[simp] theorem sz3 : szOf Tryz.prog 3 = some 1 := by kernel_rfl
@[simp] theorem ag3 : isAggB Tryz.prog 3 = false := by kernel_rfl
@[simp] theorem by3 : byOk Tryz.prog 3 = true := by kernel_rfl
@[simp] theorem ze3 : zerOf Tryz.prog 3 = some ([.d (.int .i64 0)]) := by kernel_rfl
attribute [simp] Tryz.underlying4
@[simp] theorem sz4 : szOf Tryz.prog 4 = some 1 := by kernel_rfl
@[simp] theorem ag4 : isAggB Tryz.prog 4 = false := by kernel_rfl
attribute [simp] Tryz.underlying5
@[simp] theorem sz5 : szOf Tryz.prog 5 = some 1 := by kernel_rfl
@[simp] theorem ag5 : isAggB Tryz.prog 5 = false := by kernel_rfl
@[simp] theorem by5 : byOk Tryz.prog 5 = true := by kernel_rfl
@[simp] theorem ze5 : zerOf Tryz.prog 5 = some ([.d (.int .u8 0)]) := by kernel_rfl
attribute [simp] Tryz.underlying9
@[simp] theorem sz9 : szOf Tryz.prog 9 = some 1 := by kernel_rfl
@[simp] theorem ag9 : isAggB Tryz.prog 9 = false := by kernel_rfl
@[simp] theorem ze9 : zerOf Tryz.prog 9 = some ([.d (.str .empty)]) := by kernel_rfl
attribute [simp] Tryz.underlying20
attribute [simp] Tryz.underlying22
@[simp] theorem sz22 : szOf Tryz.prog 22 = some 1 := by kernel_rfl
@[simp] theorem ag22 : isAggB Tryz.prog 22 = false := by kernel_rfl
attribute [simp] Tryz.underlying23
@[simp] theorem sz23 : szOf Tryz.prog 23 = some 1 := by kernel_rfl
@[simp] theorem ag23 : isAggB Tryz.prog 23 = false := by kernel_rfl
attribute [simp] Tryz.underlying24
@[simp] theorem sz24 : szOf Tryz.prog 24 = some 1 := by kernel_rfl
@[simp] theorem ag24 : isAggB Tryz.prog 24 = false := by kernel_rfl
attribute [simp] Tryz.underlying26
@[simp] theorem sz26 : szOf Tryz.prog 26 = some 2 := by kernel_rfl
@[simp] theorem ag26 : isAggB Tryz.prog 26 = true := by kernel_rfl
attribute [simp] Tryz.eqGuardType26
attribute [simp] Tryz.stoodInHeld26
@[simp] theorem ze26 : zerOf Tryz.prog 26 = some ([.nilS, .nilS]) := by kernel_rfl
attribute [simp] Tryz.underlying27
attribute [simp] Tryz.underlying29
attribute [simp] Tryz.eqGuardType29
attribute [simp] Tryz.stoodInHeld29
@[simp] theorem ze29 : zerOf Tryz.prog 29 = some ([.nilS, .d (.int .i64 0)]) := by kernel_rfl
attribute [simp] Tryz.underlying31
attribute [simp] Tryz.underlying34
attribute [simp] Tryz.underlying35
attribute [simp] Tryz.underlying41
@[simp] theorem sz41 : szOf Tryz.prog 41 = some 1 := by kernel_rfl
@[simp] theorem ag41 : isAggB Tryz.prog 41 = false := by kernel_rfl
attribute [simp] Tryz.underlying47
@[simp] theorem sz47 : szOf Tryz.prog 47 = some 1 := by kernel_rfl
@[simp] theorem ag47 : isAggB Tryz.prog 47 = false := by kernel_rfl
attribute [simp] Tryz.underlying49
@[simp] theorem sz49 : szOf Tryz.prog 49 = some 8 := by kernel_rfl
@[simp] theorem ag49 : isAggB Tryz.prog 49 = true := by kernel_rfl
@[simp] theorem by49 : byOk Tryz.prog 49 = true := by kernel_rfl
attribute [simp] Tryz.eqGuardType49
attribute [simp] Tryz.stoodInHeld49
@[simp] theorem ze49 : zerOf Tryz.prog 49 = some ([.d (.int .i64 0), .d (.int .i64 0), .nilS, .nilS, .d (.int .i64 0), .nilS, .d (.str .empty), .d (.int .i64 0)]) := by kernel_rfl
attribute [simp] Tryz.underlying52
@[simp] theorem sz52 : szOf Tryz.prog 52 = some 1 := by kernel_rfl
@[simp] theorem ag52 : isAggB Tryz.prog 52 = false := by kernel_rfl
attribute [simp] Tryz.underlying54
@[simp] theorem sz54 : szOf Tryz.prog 54 = some 2 := by kernel_rfl
@[simp] theorem by54 : byOk Tryz.prog 54 = true := by kernel_rfl
attribute [simp] Tryz.eqGuardType54
attribute [simp] Tryz.stoodInHeld54
@[simp] theorem ze54 : zerOf Tryz.prog 54 = some ([.nilS, .nilS]) := by kernel_rfl
attribute [simp] Tryz.underlying56
@[simp] theorem sz56 : szOf Tryz.prog 56 = some 3 := by kernel_rfl
attribute [simp] Tryz.eqGuardType56
attribute [simp] Tryz.stoodInHeld56
@[simp] theorem ze56 : zerOf Tryz.prog 56 = some ([.d (.int .i64 0), .d (.str .empty), .d (.int .i64 0)]) := by kernel_rfl
attribute [simp] Tryz.underlying58
attribute [simp] Tryz.underlying62
@[simp] theorem sz62 : szOf Tryz.prog 62 = some 2 := by kernel_rfl
@[simp] theorem ag62 : isAggB Tryz.prog 62 = true := by kernel_rfl
@[simp] theorem by62 : byOk Tryz.prog 62 = true := by kernel_rfl
attribute [simp] Tryz.eqGuardType62
attribute [simp] Tryz.stoodInHeld62
@[simp] theorem ze62 : zerOf Tryz.prog 62 = some ([.d (.str .empty), .d (.int .i64 0)]) := by kernel_rfl
attribute [simp] Tryz.underlying68
attribute [simp] Tryz.underlying71
@[simp] theorem sz71 : szOf Tryz.prog 71 = some 1 := by kernel_rfl
@[simp] theorem ag71 : isAggB Tryz.prog 71 = false := by kernel_rfl
@[simp] theorem ze71 : zerOf Tryz.prog 71 = some ([.undef]) := by kernel_rfl
attribute [simp] Tryz.underlying73
@[simp] theorem ag73 : isAggB Tryz.prog 73 = false := by kernel_rfl
attribute [simp] Tryz.underlying75
attribute [simp] Tryz.underlying87
attribute [simp] Tryz.underlying89
@[simp] theorem sz89 : szOf Tryz.prog 89 = some 4 := by kernel_rfl
@[simp] theorem ag89 : isAggB Tryz.prog 89 = true := by kernel_rfl
@[simp] theorem by89 : byOk Tryz.prog 89 = true := by kernel_rfl
attribute [simp] Tryz.eqGuardType89
attribute [simp] Tryz.stoodInHeld89
@[simp] theorem ze89 : zerOf Tryz.prog 89 = some ([.d (.int .i64 0), .d (.str .empty), .d (.int .i64 0), .d (.int .i64 0)]) := by kernel_rfl
attribute [simp] Tryz.underlying92
attribute [simp] Tryz.underlying94
attribute [simp] Tryz.underlying99
attribute [simp] Tryz.underlying102
attribute [simp] Tryz.underlying103
attribute [simp] Tryz.underlying107
attribute [simp] Tryz.underlying110
attribute [simp] Tryz.underlying111
attribute [simp] Tryz.underlying113
attribute [simp] Tryz.eqGuardType113
attribute [simp] Tryz.stoodInHeld113
@[simp] theorem ze113 : zerOf Tryz.prog 113 = some ([.undef, .d (.int .i64 0), .nilS]) := by kernel_rfl
attribute [simp] Tryz.underlying118
attribute [simp] Tryz.underlying131
attribute [simp] Tryz.underlying134
attribute [simp] Tryz.underlying140
attribute [simp] Tryz.underlying152
attribute [simp] Tryz.underlying159
attribute [simp] Tryz.underlying161
attribute [simp] Tryz.underlying168
attribute [simp] Tryz.eqGuardType168
attribute [simp] Tryz.underlying172
attribute [simp] Tryz.underlying176
attribute [simp] Tryz.underlying182
attribute [simp] Tryz.eqGuardType182
attribute [simp] Tryz.underlying183
attribute [simp] Tryz.eqGuardType183
attribute [simp] Tryz.underlying184
attribute [simp] Tryz.underlying188
attribute [simp] Tryz.eqGuardType188
attribute [simp] Tryz.underlying189
attribute [simp] Tryz.eqGuardType189
end Go.Vl
