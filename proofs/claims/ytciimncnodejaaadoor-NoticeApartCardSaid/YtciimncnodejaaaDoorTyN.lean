/- The facts on the types of this translation that the walks use. Conditions: none. -/
import Derived.Test.YtciimncnodejaaaDoorVmV
import Derived.Test.YtciimncnodejaaaDoorProg
import Derived.KernelRfl
set_option linter.unusedSimpArgs false
set_option linter.unusedVariables false
namespace Go.Vl
open Go Go.Proofs
theorem fol : Tryd.prog.follows .mixedOrders = true := by kernel_rfl
attribute [simp] Tryd.underlying3
@[simp] theorem sz3 : szOf Tryd.prog 3 = some 1 := by kernel_rfl
@[simp] theorem ag3 : isAggB Tryd.prog 3 = false := by kernel_rfl
@[simp] theorem by3 : byOk Tryd.prog 3 = true := by kernel_rfl
@[simp] theorem ze3 : zerOf Tryd.prog 3 = some ([.d (.int .i64 0)]) := by kernel_rfl
attribute [simp] Tryd.underlying4
@[simp] theorem sz4 : szOf Tryd.prog 4 = some 1 := by kernel_rfl
@[simp] theorem ag4 : isAggB Tryd.prog 4 = false := by kernel_rfl
@[simp] theorem by4 : byOk Tryd.prog 4 = true := by kernel_rfl
@[simp] theorem ze4 : zerOf Tryd.prog 4 = some ([.d (.bool false)]) := by kernel_rfl
attribute [simp] Tryd.underlying5
@[simp] theorem sz5 : szOf Tryd.prog 5 = some 1 := by kernel_rfl
@[simp] theorem ag5 : isAggB Tryd.prog 5 = false := by kernel_rfl
@[simp] theorem by5 : byOk Tryd.prog 5 = true := by kernel_rfl
@[simp] theorem ze5 : zerOf Tryd.prog 5 = some ([.d (.int .u8 0)]) := by kernel_rfl
attribute [simp] Tryd.underlying9
@[simp] theorem sz9 : szOf Tryd.prog 9 = some 1 := by kernel_rfl
@[simp] theorem ag9 : isAggB Tryd.prog 9 = false := by kernel_rfl
@[simp] theorem by9 : byOk Tryd.prog 9 = true := by kernel_rfl
@[simp] theorem ze9 : zerOf Tryd.prog 9 = some ([.d (.str .empty)]) := by kernel_rfl
attribute [simp] Tryd.underlying22
@[simp] theorem sz22 : szOf Tryd.prog 22 = some 1 := by kernel_rfl
@[simp] theorem ag22 : isAggB Tryd.prog 22 = false := by kernel_rfl
@[simp] theorem by22 : byOk Tryd.prog 22 = true := by kernel_rfl
@[simp] theorem ze22 : zerOf Tryd.prog 22 = some ([.nilS]) := by kernel_rfl
attribute [simp] Tryd.underlying24
@[simp] theorem sz24 : szOf Tryd.prog 24 = some 1 := by kernel_rfl
@[simp] theorem ag24 : isAggB Tryd.prog 24 = false := by kernel_rfl
@[simp] theorem by24 : byOk Tryd.prog 24 = true := by kernel_rfl
@[simp] theorem ze24 : zerOf Tryd.prog 24 = some ([.d .nilp]) := by kernel_rfl
attribute [simp] Tryd.underlying26
@[simp] theorem sz26 : szOf Tryd.prog 26 = some 2 := by kernel_rfl
@[simp] theorem ag26 : isAggB Tryd.prog 26 = true := by kernel_rfl
@[simp] theorem by26 : byOk Tryd.prog 26 = true := by kernel_rfl
attribute [simp] Tryd.eqGuardType26
attribute [simp] Tryd.stoodInHeld26
@[simp] theorem ze26 : zerOf Tryd.prog 26 = some ([.nilS, .d (.int .i64 0)]) := by kernel_rfl
attribute [simp] Tryd.underlying28
@[simp] theorem sz28 : szOf Tryd.prog 28 = some 5 := by kernel_rfl
@[simp] theorem ag28 : isAggB Tryd.prog 28 = true := by kernel_rfl
@[simp] theorem by28 : byOk Tryd.prog 28 = true := by kernel_rfl
attribute [simp] Tryd.eqGuardType28
attribute [simp] Tryd.stoodInHeld28
@[simp] theorem ze28 : zerOf Tryd.prog 28 = some ([.d (.int .i64 0), .d (.int .i64 0), .d (.int .i64 0), .d (.int .i64 0), .nilS]) := by kernel_rfl
attribute [simp] Tryd.underlying30
@[simp] theorem sz30 : szOf Tryd.prog 30 = some 1 := by kernel_rfl
@[simp] theorem ag30 : isAggB Tryd.prog 30 = false := by kernel_rfl
@[simp] theorem by30 : byOk Tryd.prog 30 = true := by kernel_rfl
@[simp] theorem ze30 : zerOf Tryd.prog 30 = some ([.nilS]) := by kernel_rfl
attribute [simp] Tryd.underlying32
@[simp] theorem sz32 : szOf Tryd.prog 32 = some 2 := by kernel_rfl
@[simp] theorem ag32 : isAggB Tryd.prog 32 = true := by kernel_rfl
@[simp] theorem by32 : byOk Tryd.prog 32 = true := by kernel_rfl
attribute [simp] Tryd.eqGuardType32
attribute [simp] Tryd.stoodInHeld32
@[simp] theorem ze32 : zerOf Tryd.prog 32 = some ([.nilS, .nilS]) := by kernel_rfl
attribute [simp] Tryd.underlying34
@[simp] theorem sz34 : szOf Tryd.prog 34 = some 1 := by kernel_rfl
@[simp] theorem ag34 : isAggB Tryd.prog 34 = false := by kernel_rfl
@[simp] theorem by34 : byOk Tryd.prog 34 = true := by kernel_rfl
@[simp] theorem ze34 : zerOf Tryd.prog 34 = some ([.nilS]) := by kernel_rfl
attribute [simp] Tryd.underlying36
@[simp] theorem sz36 : szOf Tryd.prog 36 = some 1 := by kernel_rfl
@[simp] theorem ag36 : isAggB Tryd.prog 36 = false := by kernel_rfl
@[simp] theorem by36 : byOk Tryd.prog 36 = true := by kernel_rfl
@[simp] theorem ze36 : zerOf Tryd.prog 36 = some ([.nilS]) := by kernel_rfl
attribute [simp] Tryd.underlying38
@[simp] theorem sz38 : szOf Tryd.prog 38 = some 1 := by kernel_rfl
@[simp] theorem ag38 : isAggB Tryd.prog 38 = false := by kernel_rfl
@[simp] theorem by38 : byOk Tryd.prog 38 = true := by kernel_rfl
@[simp] theorem ze38 : zerOf Tryd.prog 38 = some ([.nilS]) := by kernel_rfl
attribute [simp] Tryd.underlying39
@[simp] theorem sz39 : szOf Tryd.prog 39 = some 1 := by kernel_rfl
@[simp] theorem ag39 : isAggB Tryd.prog 39 = false := by kernel_rfl
@[simp] theorem by39 : byOk Tryd.prog 39 = true := by kernel_rfl
@[simp] theorem ze39 : zerOf Tryd.prog 39 = some ([.d (.int .i64 0)]) := by kernel_rfl
attribute [simp] Tryd.underlying43
@[simp] theorem sz43 : szOf Tryd.prog 43 = some 5 := by kernel_rfl
@[simp] theorem ag43 : isAggB Tryd.prog 43 = true := by kernel_rfl
@[simp] theorem by43 : byOk Tryd.prog 43 = true := by kernel_rfl
attribute [simp] Tryd.eqGuardType43
attribute [simp] Tryd.stoodInHeld43
@[simp] theorem ze43 : zerOf Tryd.prog 43 = some ([.d (.int .i64 0), .d (.int .i64 0), .d (.int .i64 0), .d (.int .i64 0), .d (.int .i64 0)]) := by kernel_rfl
attribute [simp] Tryd.underlying45
@[simp] theorem sz45 : szOf Tryd.prog 45 = some 4 := by kernel_rfl
@[simp] theorem ag45 : isAggB Tryd.prog 45 = true := by kernel_rfl
@[simp] theorem by45 : byOk Tryd.prog 45 = true := by kernel_rfl
attribute [simp] Tryd.eqGuardType45
attribute [simp] Tryd.stoodInHeld45
@[simp] theorem ze45 : zerOf Tryd.prog 45 = some ([.d (.int .i64 0), .d (.int .i64 0), .d (.int .i64 0), .d (.int .i64 0)]) := by kernel_rfl
attribute [simp] Tryd.underlying61
@[simp] theorem sz61 : szOf Tryd.prog 61 = some 4 := by kernel_rfl
@[simp] theorem ag61 : isAggB Tryd.prog 61 = true := by kernel_rfl
@[simp] theorem by61 : byOk Tryd.prog 61 = true := by kernel_rfl
attribute [simp] Tryd.eqGuardType61
attribute [simp] Tryd.stoodInHeld61
@[simp] theorem ze61 : zerOf Tryd.prog 61 = some ([.d (.int .i64 0), .d (.int .i64 0), .d (.int .i64 0), .d (.int .i64 0)]) := by kernel_rfl
attribute [simp] Tryd.underlying63
@[simp] theorem sz63 : szOf Tryd.prog 63 = some 3 := by kernel_rfl
@[simp] theorem ag63 : isAggB Tryd.prog 63 = true := by kernel_rfl
@[simp] theorem by63 : byOk Tryd.prog 63 = true := by kernel_rfl
attribute [simp] Tryd.eqGuardType63
attribute [simp] Tryd.stoodInHeld63
@[simp] theorem ze63 : zerOf Tryd.prog 63 = some ([.d (.int .i64 0), .d (.int .i64 0), .d (.int .i64 0)]) := by kernel_rfl
attribute [simp] Tryd.underlying71
@[simp] theorem sz71 : szOf Tryd.prog 71 = some 1 := by kernel_rfl
@[simp] theorem ag71 : isAggB Tryd.prog 71 = false := by kernel_rfl
@[simp] theorem by71 : byOk Tryd.prog 71 = true := by kernel_rfl
@[simp] theorem ze71 : zerOf Tryd.prog 71 = some ([.undef]) := by kernel_rfl
attribute [simp] Tryd.underlying77
@[simp] theorem sz77 : szOf Tryd.prog 77 = some 4 := by kernel_rfl
@[simp] theorem ag77 : isAggB Tryd.prog 77 = true := by kernel_rfl
@[simp] theorem by77 : byOk Tryd.prog 77 = true := by kernel_rfl
attribute [simp] Tryd.eqGuardType77
@[simp] theorem ze77 : zerOf Tryd.prog 77 = some (arC (iRow .i64) (zerosI 4)) := by kernel_rfl
attribute [simp] Tryd.underlying78
@[simp] theorem sz78 : szOf Tryd.prog 78 = some 1 := by kernel_rfl
@[simp] theorem ag78 : isAggB Tryd.prog 78 = false := by kernel_rfl
@[simp] theorem by78 : byOk Tryd.prog 78 = true := by kernel_rfl
@[simp] theorem ze78 : zerOf Tryd.prog 78 = some ([.undef]) := by kernel_rfl
attribute [simp] Tryd.underlying80
@[simp] theorem sz80 : szOf Tryd.prog 80 = some 1 := by kernel_rfl
@[simp] theorem ag80 : isAggB Tryd.prog 80 = false := by kernel_rfl
@[simp] theorem by80 : byOk Tryd.prog 80 = true := by kernel_rfl
@[simp] theorem ze80 : zerOf Tryd.prog 80 = some ([.nilS]) := by kernel_rfl
attribute [simp] Tryd.underlying86
@[simp] theorem sz86 : szOf Tryd.prog 86 = some 1 := by kernel_rfl
@[simp] theorem ag86 : isAggB Tryd.prog 86 = false := by kernel_rfl
@[simp] theorem by86 : byOk Tryd.prog 86 = true := by kernel_rfl
@[simp] theorem ze86 : zerOf Tryd.prog 86 = some ([.d (.int .u64 0)]) := by kernel_rfl
attribute [simp] Tryd.underlying87
@[simp] theorem sz87 : szOf Tryd.prog 87 = some 1 := by kernel_rfl
@[simp] theorem ag87 : isAggB Tryd.prog 87 = false := by kernel_rfl
@[simp] theorem by87 : byOk Tryd.prog 87 = true := by kernel_rfl
@[simp] theorem ze87 : zerOf Tryd.prog 87 = some ([.undef]) := by kernel_rfl
attribute [simp] Tryd.underlying93
@[simp] theorem sz93 : szOf Tryd.prog 93 = some 1 := by kernel_rfl
@[simp] theorem ag93 : isAggB Tryd.prog 93 = false := by kernel_rfl
@[simp] theorem by93 : byOk Tryd.prog 93 = true := by kernel_rfl
@[simp] theorem ze93 : zerOf Tryd.prog 93 = some ([.undef]) := by kernel_rfl
attribute [simp] Tryd.underlying96
@[simp] theorem sz96 : szOf Tryd.prog 96 = some 1 := by kernel_rfl
@[simp] theorem ag96 : isAggB Tryd.prog 96 = false := by kernel_rfl
@[simp] theorem by96 : byOk Tryd.prog 96 = true := by kernel_rfl
@[simp] theorem ze96 : zerOf Tryd.prog 96 = some ([.d (.int .i64 0)]) := by kernel_rfl
attribute [simp] Tryd.underlying104
@[simp] theorem sz104 : szOf Tryd.prog 104 = some 1 := by kernel_rfl
@[simp] theorem ag104 : isAggB Tryd.prog 104 = false := by kernel_rfl
@[simp] theorem by104 : byOk Tryd.prog 104 = true := by kernel_rfl
@[simp] theorem ze104 : zerOf Tryd.prog 104 = some ([.d (.int .u32 0)]) := by kernel_rfl
attribute [simp] Tryd.underlying106
@[simp] theorem sz106 : szOf Tryd.prog 106 = some 1 := by kernel_rfl
@[simp] theorem ag106 : isAggB Tryd.prog 106 = false := by kernel_rfl
@[simp] theorem by106 : byOk Tryd.prog 106 = true := by kernel_rfl
@[simp] theorem ze106 : zerOf Tryd.prog 106 = some ([.d (.int .u64 0)]) := by kernel_rfl
attribute [simp] Tryd.underlying111
@[simp] theorem sz111 : szOf Tryd.prog 111 = some 1 := by kernel_rfl
@[simp] theorem ag111 : isAggB Tryd.prog 111 = false := by kernel_rfl
@[simp] theorem by111 : byOk Tryd.prog 111 = true := by kernel_rfl
@[simp] theorem ze111 : zerOf Tryd.prog 111 = some ([.d (.int .u64 0)]) := by kernel_rfl
attribute [simp] Tryd.underlying115
@[simp] theorem sz115 : szOf Tryd.prog 115 = some 1 := by kernel_rfl
@[simp] theorem ag115 : isAggB Tryd.prog 115 = false := by kernel_rfl
@[simp] theorem by115 : byOk Tryd.prog 115 = true := by kernel_rfl
@[simp] theorem ze115 : zerOf Tryd.prog 115 = some ([.d .nilp]) := by kernel_rfl
attribute [simp] Tryd.underlying123
@[simp] theorem sz123 : szOf Tryd.prog 123 = some 1 := by kernel_rfl
@[simp] theorem ag123 : isAggB Tryd.prog 123 = false := by kernel_rfl
@[simp] theorem by123 : byOk Tryd.prog 123 = true := by kernel_rfl
@[simp] theorem ze123 : zerOf Tryd.prog 123 = some ([.d .nilp]) := by kernel_rfl
end Go.Vl
