/- The facts on the types of this translation that the walks use. Conditions: none. -/
import Derived.Test.YtjnflahicimmlaaDoorVmV
import Derived.Test.YtjnflahicimmlaaDoorProg
import Derived.KernelRfl
set_option linter.unusedSimpArgs false
set_option linter.unusedVariables false
namespace Go.Vl
open Go Go.Proofs
theorem fol : Tryd.prog.follows .mixedOrders = true := by kernel_rfl
attribute [simp] Tryd.underlying2
@[simp] theorem sz2 : szOf Tryd.prog 2 = some 1 := by kernel_rfl
@[simp] theorem ag2 : isAggB Tryd.prog 2 = false := by kernel_rfl
@[simp] theorem by2 : byOk Tryd.prog 2 = true := by kernel_rfl
@[simp] theorem ze2 : zerOf Tryd.prog 2 = some ([.d (.int .i64 0)]) := by kernel_rfl
attribute [simp] Tryd.underlying3
@[simp] theorem sz3 : szOf Tryd.prog 3 = some 1 := by kernel_rfl
@[simp] theorem ag3 : isAggB Tryd.prog 3 = false := by kernel_rfl
@[simp] theorem by3 : byOk Tryd.prog 3 = true := by kernel_rfl
@[simp] theorem ze3 : zerOf Tryd.prog 3 = some ([.d (.int .i64 0)]) := by kernel_rfl
attribute [simp] Tryd.underlying4
@[simp] theorem sz4 : szOf Tryd.prog 4 = some 1 := by kernel_rfl
@[simp] theorem ag4 : isAggB Tryd.prog 4 = false := by kernel_rfl
@[simp] theorem by4 : byOk Tryd.prog 4 = true := by kernel_rfl
@[simp] theorem ze4 : zerOf Tryd.prog 4 = some ([.d (.bool false)]) := by kernel_rfl
attribute [simp] Tryd.underlying5
@[simp] theorem sz5 : szOf Tryd.prog 5 = some 1 := by kernel_rfl
@[simp] theorem ag5 : isAggB Tryd.prog 5 = false := by kernel_rfl
@[simp] theorem by5 : byOk Tryd.prog 5 = true := by kernel_rfl
@[simp] theorem ze5 : zerOf Tryd.prog 5 = some ([.d (.int .u8 0)]) := by kernel_rfl
attribute [simp] Tryd.underlying9
@[simp] theorem sz9 : szOf Tryd.prog 9 = some 1 := by kernel_rfl
@[simp] theorem ag9 : isAggB Tryd.prog 9 = false := by kernel_rfl
@[simp] theorem by9 : byOk Tryd.prog 9 = true := by kernel_rfl
@[simp] theorem ze9 : zerOf Tryd.prog 9 = some ([.d (.str .empty)]) := by kernel_rfl
attribute [simp] Tryd.underlying20
@[simp] theorem sz20 : szOf Tryd.prog 20 = some 1 := by kernel_rfl
@[simp] theorem ag20 : isAggB Tryd.prog 20 = false := by kernel_rfl
@[simp] theorem by20 : byOk Tryd.prog 20 = true := by kernel_rfl
@[simp] theorem ze20 : zerOf Tryd.prog 20 = some ([.undef]) := by kernel_rfl
attribute [simp] Tryd.underlying22
@[simp] theorem sz22 : szOf Tryd.prog 22 = some 1 := by kernel_rfl
@[simp] theorem ag22 : isAggB Tryd.prog 22 = false := by kernel_rfl
@[simp] theorem by22 : byOk Tryd.prog 22 = true := by kernel_rfl
@[simp] theorem ze22 : zerOf Tryd.prog 22 = some ([.nilS]) := by kernel_rfl
attribute [simp] Tryd.underlying23
@[simp] theorem sz23 : szOf Tryd.prog 23 = some 1 := by kernel_rfl
@[simp] theorem ag23 : isAggB Tryd.prog 23 = false := by kernel_rfl
@[simp] theorem by23 : byOk Tryd.prog 23 = true := by kernel_rfl
@[simp] theorem ze23 : zerOf Tryd.prog 23 = some ([.nilS]) := by kernel_rfl
attribute [simp] Tryd.underlying24
@[simp] theorem sz24 : szOf Tryd.prog 24 = some 1 := by kernel_rfl
@[simp] theorem ag24 : isAggB Tryd.prog 24 = false := by kernel_rfl
@[simp] theorem by24 : byOk Tryd.prog 24 = true := by kernel_rfl
@[simp] theorem ze24 : zerOf Tryd.prog 24 = some ([.nilS]) := by kernel_rfl
attribute [simp] Tryd.underlying26
@[simp] theorem sz26 : szOf Tryd.prog 26 = some 8 := by kernel_rfl
@[simp] theorem ag26 : isAggB Tryd.prog 26 = true := by kernel_rfl
@[simp] theorem by26 : byOk Tryd.prog 26 = true := by kernel_rfl
attribute [simp] Tryd.eqGuardType26
attribute [simp] Tryd.stoodInHeld26
@[simp] theorem ze26 : zerOf Tryd.prog 26 = some ([.d (.int .i64 0), .d (.int .i64 0), .nilS, .nilS, .d (.int .i64 0), .nilS, .d (.str .empty), .d (.int .i64 0)]) := by kernel_rfl
attribute [simp] Tryd.underlying28
@[simp] theorem sz28 : szOf Tryd.prog 28 = some 2 := by kernel_rfl
@[simp] theorem ag28 : isAggB Tryd.prog 28 = true := by kernel_rfl
@[simp] theorem by28 : byOk Tryd.prog 28 = true := by kernel_rfl
attribute [simp] Tryd.eqGuardType28
attribute [simp] Tryd.stoodInHeld28
@[simp] theorem ze28 : zerOf Tryd.prog 28 = some ([.d (.str .empty), .d (.int .i64 0)]) := by kernel_rfl
attribute [simp] Tryd.underlying29
@[simp] theorem sz29 : szOf Tryd.prog 29 = some 1 := by kernel_rfl
@[simp] theorem ag29 : isAggB Tryd.prog 29 = false := by kernel_rfl
@[simp] theorem by29 : byOk Tryd.prog 29 = true := by kernel_rfl
@[simp] theorem ze29 : zerOf Tryd.prog 29 = some ([.nilS]) := by kernel_rfl
attribute [simp] Tryd.underlying30
@[simp] theorem sz30 : szOf Tryd.prog 30 = some 1 := by kernel_rfl
@[simp] theorem ag30 : isAggB Tryd.prog 30 = false := by kernel_rfl
@[simp] theorem by30 : byOk Tryd.prog 30 = true := by kernel_rfl
@[simp] theorem ze30 : zerOf Tryd.prog 30 = some ([.nilS]) := by kernel_rfl
attribute [simp] Tryd.underlying32
@[simp] theorem sz32 : szOf Tryd.prog 32 = some 2 := by kernel_rfl
@[simp] theorem ag32 : isAggB Tryd.prog 32 = true := by kernel_rfl
@[simp] theorem by32 : byOk Tryd.prog 32 = true := by kernel_rfl
attribute [simp] Tryd.eqGuardType32
attribute [simp] Tryd.stoodInHeld32
@[simp] theorem ze32 : zerOf Tryd.prog 32 = some ([.nilS, .nilS]) := by kernel_rfl
attribute [simp] Tryd.underlying33
@[simp] theorem sz33 : szOf Tryd.prog 33 = some 1 := by kernel_rfl
@[simp] theorem ag33 : isAggB Tryd.prog 33 = false := by kernel_rfl
@[simp] theorem by33 : byOk Tryd.prog 33 = true := by kernel_rfl
@[simp] theorem ze33 : zerOf Tryd.prog 33 = some ([.d (.int .i64 0)]) := by kernel_rfl
attribute [simp] Tryd.underlying36
@[simp] theorem sz36 : szOf Tryd.prog 36 = some 1 := by kernel_rfl
@[simp] theorem ag36 : isAggB Tryd.prog 36 = false := by kernel_rfl
@[simp] theorem by36 : byOk Tryd.prog 36 = true := by kernel_rfl
@[simp] theorem ze36 : zerOf Tryd.prog 36 = some ([.d (.int .u64 0)]) := by kernel_rfl
attribute [simp] Tryd.underlying38
@[simp] theorem sz38 : szOf Tryd.prog 38 = some 1 := by kernel_rfl
@[simp] theorem ag38 : isAggB Tryd.prog 38 = false := by kernel_rfl
@[simp] theorem by38 : byOk Tryd.prog 38 = true := by kernel_rfl
@[simp] theorem ze38 : zerOf Tryd.prog 38 = some ([.undef]) := by kernel_rfl
attribute [simp] Tryd.underlying39
@[simp] theorem sz39 : szOf Tryd.prog 39 = some 1 := by kernel_rfl
@[simp] theorem ag39 : isAggB Tryd.prog 39 = false := by kernel_rfl
@[simp] theorem by39 : byOk Tryd.prog 39 = true := by kernel_rfl
@[simp] theorem ze39 : zerOf Tryd.prog 39 = some ([.d .nilp]) := by kernel_rfl
attribute [simp] Tryd.underlying41
@[simp] theorem sz41 : szOf Tryd.prog 41 = some 2 := by kernel_rfl
@[simp] theorem ag41 : isAggB Tryd.prog 41 = true := by kernel_rfl
@[simp] theorem by41 : byOk Tryd.prog 41 = true := by kernel_rfl
attribute [simp] Tryd.eqGuardType41
attribute [simp] Tryd.stoodInHeld41
@[simp] theorem ze41 : zerOf Tryd.prog 41 = some ([.nilS, .d (.int .i64 0)]) := by kernel_rfl
attribute [simp] Tryd.underlying45
@[simp] theorem sz45 : szOf Tryd.prog 45 = some 1 := by kernel_rfl
@[simp] theorem ag45 : isAggB Tryd.prog 45 = false := by kernel_rfl
@[simp] theorem by45 : byOk Tryd.prog 45 = true := by kernel_rfl
@[simp] theorem ze45 : zerOf Tryd.prog 45 = some ([.undef]) := by kernel_rfl
attribute [simp] Tryd.underlying53
@[simp] theorem sz53 : szOf Tryd.prog 53 = some 1 := by kernel_rfl
@[simp] theorem ag53 : isAggB Tryd.prog 53 = false := by kernel_rfl
@[simp] theorem by53 : byOk Tryd.prog 53 = true := by kernel_rfl
@[simp] theorem ze53 : zerOf Tryd.prog 53 = some ([.nilS]) := by kernel_rfl
attribute [simp] Tryd.underlying57
@[simp] theorem sz57 : szOf Tryd.prog 57 = some 1 := by kernel_rfl
@[simp] theorem ag57 : isAggB Tryd.prog 57 = false := by kernel_rfl
@[simp] theorem by57 : byOk Tryd.prog 57 = true := by kernel_rfl
@[simp] theorem ze57 : zerOf Tryd.prog 57 = some ([.undef]) := by kernel_rfl
attribute [simp] Tryd.underlying60
@[simp] theorem sz60 : szOf Tryd.prog 60 = some 4 := by kernel_rfl
@[simp] theorem ag60 : isAggB Tryd.prog 60 = true := by kernel_rfl
@[simp] theorem by60 : byOk Tryd.prog 60 = true := by kernel_rfl
attribute [simp] Tryd.eqGuardType60
attribute [simp] Tryd.stoodInHeld60
@[simp] theorem ze60 : zerOf Tryd.prog 60 = some ([.d (.int .i64 0), .d (.str .empty), .d (.int .i64 0), .d (.int .i64 0)]) := by kernel_rfl
attribute [simp] Tryd.underlying61
@[simp] theorem sz61 : szOf Tryd.prog 61 = some 1 := by kernel_rfl
@[simp] theorem ag61 : isAggB Tryd.prog 61 = false := by kernel_rfl
@[simp] theorem by61 : byOk Tryd.prog 61 = true := by kernel_rfl
@[simp] theorem ze61 : zerOf Tryd.prog 61 = some ([.undef]) := by kernel_rfl
attribute [simp] Tryd.underlying68
@[simp] theorem sz68 : szOf Tryd.prog 68 = some 1 := by kernel_rfl
@[simp] theorem ag68 : isAggB Tryd.prog 68 = false := by kernel_rfl
@[simp] theorem by68 : byOk Tryd.prog 68 = true := by kernel_rfl
@[simp] theorem ze68 : zerOf Tryd.prog 68 = some ([.undef]) := by kernel_rfl
attribute [simp] Tryd.underlying69
@[simp] theorem sz69 : szOf Tryd.prog 69 = some 1 := by kernel_rfl
@[simp] theorem ag69 : isAggB Tryd.prog 69 = false := by kernel_rfl
@[simp] theorem by69 : byOk Tryd.prog 69 = true := by kernel_rfl
@[simp] theorem ze69 : zerOf Tryd.prog 69 = some ([.undef]) := by kernel_rfl
attribute [simp] Tryd.underlying72
@[simp] theorem sz72 : szOf Tryd.prog 72 = some 1 := by kernel_rfl
@[simp] theorem ag72 : isAggB Tryd.prog 72 = false := by kernel_rfl
@[simp] theorem by72 : byOk Tryd.prog 72 = true := by kernel_rfl
@[simp] theorem ze72 : zerOf Tryd.prog 72 = some ([.undef]) := by kernel_rfl
attribute [simp] Tryd.underlying73
@[simp] theorem sz73 : szOf Tryd.prog 73 = some 1 := by kernel_rfl
@[simp] theorem ag73 : isAggB Tryd.prog 73 = false := by kernel_rfl
@[simp] theorem by73 : byOk Tryd.prog 73 = true := by kernel_rfl
@[simp] theorem ze73 : zerOf Tryd.prog 73 = some ([.d .nilp]) := by kernel_rfl
attribute [simp] Tryd.underlying75
@[simp] theorem sz75 : szOf Tryd.prog 75 = some 3 := by kernel_rfl
@[simp] theorem ag75 : isAggB Tryd.prog 75 = true := by kernel_rfl
@[simp] theorem by75 : byOk Tryd.prog 75 = true := by kernel_rfl
attribute [simp] Tryd.eqGuardType75
attribute [simp] Tryd.stoodInHeld75
@[simp] theorem ze75 : zerOf Tryd.prog 75 = some ([.undef, .d (.int .i64 0), .nilS]) := by kernel_rfl
attribute [simp] Tryd.underlying80
@[simp] theorem sz80 : szOf Tryd.prog 80 = some 1 := by kernel_rfl
@[simp] theorem ag80 : isAggB Tryd.prog 80 = false := by kernel_rfl
@[simp] theorem by80 : byOk Tryd.prog 80 = true := by kernel_rfl
@[simp] theorem ze80 : zerOf Tryd.prog 80 = some ([.undef]) := by kernel_rfl
attribute [simp] Tryd.underlying89
@[simp] theorem sz89 : szOf Tryd.prog 89 = some 1 := by kernel_rfl
@[simp] theorem ag89 : isAggB Tryd.prog 89 = false := by kernel_rfl
@[simp] theorem by89 : byOk Tryd.prog 89 = true := by kernel_rfl
@[simp] theorem ze89 : zerOf Tryd.prog 89 = some ([.undef]) := by kernel_rfl
attribute [simp] Tryd.underlying98
@[simp] theorem sz98 : szOf Tryd.prog 98 = some 1 := by kernel_rfl
@[simp] theorem ag98 : isAggB Tryd.prog 98 = false := by kernel_rfl
@[simp] theorem by98 : byOk Tryd.prog 98 = true := by kernel_rfl
@[simp] theorem ze98 : zerOf Tryd.prog 98 = some ([.d (.int .i64 0)]) := by kernel_rfl
attribute [simp] Tryd.underlying106
@[simp] theorem sz106 : szOf Tryd.prog 106 = some 1 := by kernel_rfl
@[simp] theorem ag106 : isAggB Tryd.prog 106 = false := by kernel_rfl
@[simp] theorem by106 : byOk Tryd.prog 106 = true := by kernel_rfl
@[simp] theorem ze106 : zerOf Tryd.prog 106 = some ([.d (.int .u32 0)]) := by kernel_rfl
attribute [simp] Tryd.underlying108
@[simp] theorem sz108 : szOf Tryd.prog 108 = some 1 := by kernel_rfl
@[simp] theorem ag108 : isAggB Tryd.prog 108 = false := by kernel_rfl
@[simp] theorem by108 : byOk Tryd.prog 108 = true := by kernel_rfl
@[simp] theorem ze108 : zerOf Tryd.prog 108 = some ([.d (.int .u64 0)]) := by kernel_rfl
attribute [simp] Tryd.underlying110
@[simp] theorem sz110 : szOf Tryd.prog 110 = some 24 := by kernel_rfl
@[simp] theorem ag110 : isAggB Tryd.prog 110 = true := by kernel_rfl
@[simp] theorem by110 : byOk Tryd.prog 110 = true := by kernel_rfl
attribute [simp] Tryd.eqGuardType110
@[simp] theorem ze110 : zerOf Tryd.prog 110 = some (arC (iRow .u8) (zerosI 24)) := by kernel_rfl
attribute [simp] Tryd.underlying114
@[simp] theorem sz114 : szOf Tryd.prog 114 = some 1 := by kernel_rfl
@[simp] theorem ag114 : isAggB Tryd.prog 114 = false := by kernel_rfl
@[simp] theorem by114 : byOk Tryd.prog 114 = true := by kernel_rfl
@[simp] theorem ze114 : zerOf Tryd.prog 114 = some ([.d (.int .u64 0)]) := by kernel_rfl
attribute [simp] Tryd.underlying118
@[simp] theorem sz118 : szOf Tryd.prog 118 = some 1 := by kernel_rfl
@[simp] theorem ag118 : isAggB Tryd.prog 118 = false := by kernel_rfl
@[simp] theorem by118 : byOk Tryd.prog 118 = true := by kernel_rfl
@[simp] theorem ze118 : zerOf Tryd.prog 118 = some ([.d .nilp]) := by kernel_rfl
attribute [simp] Tryd.underlying122
@[simp] theorem sz122 : szOf Tryd.prog 122 = some 20 := by kernel_rfl
@[simp] theorem ag122 : isAggB Tryd.prog 122 = true := by kernel_rfl
@[simp] theorem by122 : byOk Tryd.prog 122 = true := by kernel_rfl
attribute [simp] Tryd.eqGuardType122
@[simp] theorem ze122 : zerOf Tryd.prog 122 = some (arC (iRow .u64) (zerosI 20)) := by kernel_rfl
attribute [simp] Tryd.underlying123
@[simp] theorem sz123 : szOf Tryd.prog 123 = some 65 := by kernel_rfl
@[simp] theorem ag123 : isAggB Tryd.prog 123 = true := by kernel_rfl
@[simp] theorem by123 : byOk Tryd.prog 123 = true := by kernel_rfl
attribute [simp] Tryd.eqGuardType123
@[simp] theorem ze123 : zerOf Tryd.prog 123 = some (arC (iRow .u8) (zerosI 65)) := by kernel_rfl
attribute [simp] Tryd.underlying124
@[simp] theorem sz124 : szOf Tryd.prog 124 = some 1 := by kernel_rfl
@[simp] theorem ag124 : isAggB Tryd.prog 124 = false := by kernel_rfl
@[simp] theorem by124 : byOk Tryd.prog 124 = true := by kernel_rfl
@[simp] theorem ze124 : zerOf Tryd.prog 124 = some ([.d .nilp]) := by kernel_rfl
attribute [simp] Tryd.underlying127
@[simp] theorem sz127 : szOf Tryd.prog 127 = some 32 := by kernel_rfl
@[simp] theorem ag127 : isAggB Tryd.prog 127 = true := by kernel_rfl
@[simp] theorem by127 : byOk Tryd.prog 127 = true := by kernel_rfl
attribute [simp] Tryd.eqGuardType127
@[simp] theorem ze127 : zerOf Tryd.prog 127 = some (arC (iRow .u8) (zerosI 32)) := by kernel_rfl
attribute [simp] Tryd.underlying128
@[simp] theorem sz128 : szOf Tryd.prog 128 = some 64 := by kernel_rfl
@[simp] theorem ag128 : isAggB Tryd.prog 128 = true := by kernel_rfl
@[simp] theorem by128 : byOk Tryd.prog 128 = true := by kernel_rfl
attribute [simp] Tryd.eqGuardType128
@[simp] theorem ze128 : zerOf Tryd.prog 128 = some (arC (iRow .u8) (zerosI 64)) := by kernel_rfl
end Go.Vl
