/- The facts on the types of this translation that the walks use. Conditions: none. -/
import Derived.Test.YtciimncnodejaaaGreatDoorVmV
import Derived.Test.YtciimncnodejaaaGreatDoorProg
import Derived.KernelRfl
set_option linter.unusedSimpArgs false
set_option linter.unusedVariables false
namespace Go.Vl
open Go Go.Proofs
theorem fol : Tryz.prog.follows .mixedOrders = true := by kernel_rfl
attribute [simp] Tryz.underlying3
@[simp] theorem sz3 : szOf Tryz.prog 3 = some 1 := by kernel_rfl
@[simp] theorem ag3 : isAggB Tryz.prog 3 = false := by kernel_rfl
@[simp] theorem by3 : byOk Tryz.prog 3 = true := by kernel_rfl
@[simp] theorem ze3 : zerOf Tryz.prog 3 = some ([.d (.int .i64 0)]) := by kernel_rfl
attribute [simp] Tryz.underlying4
@[simp] theorem sz4 : szOf Tryz.prog 4 = some 1 := by kernel_rfl
@[simp] theorem ag4 : isAggB Tryz.prog 4 = false := by kernel_rfl
@[simp] theorem by4 : byOk Tryz.prog 4 = true := by kernel_rfl
@[simp] theorem ze4 : zerOf Tryz.prog 4 = some ([.d (.bool false)]) := by kernel_rfl
attribute [simp] Tryz.underlying5
@[simp] theorem sz5 : szOf Tryz.prog 5 = some 1 := by kernel_rfl
@[simp] theorem ag5 : isAggB Tryz.prog 5 = false := by kernel_rfl
@[simp] theorem by5 : byOk Tryz.prog 5 = true := by kernel_rfl
@[simp] theorem ze5 : zerOf Tryz.prog 5 = some ([.d (.int .u8 0)]) := by kernel_rfl
attribute [simp] Tryz.underlying9
@[simp] theorem sz9 : szOf Tryz.prog 9 = some 1 := by kernel_rfl
@[simp] theorem ag9 : isAggB Tryz.prog 9 = false := by kernel_rfl
@[simp] theorem by9 : byOk Tryz.prog 9 = true := by kernel_rfl
@[simp] theorem ze9 : zerOf Tryz.prog 9 = some ([.d (.str .empty)]) := by kernel_rfl
attribute [simp] Tryz.underlying22
@[simp] theorem sz22 : szOf Tryz.prog 22 = some 1 := by kernel_rfl
@[simp] theorem ag22 : isAggB Tryz.prog 22 = false := by kernel_rfl
@[simp] theorem by22 : byOk Tryz.prog 22 = true := by kernel_rfl
@[simp] theorem ze22 : zerOf Tryz.prog 22 = some ([.nilS]) := by kernel_rfl
attribute [simp] Tryz.underlying23
@[simp] theorem sz23 : szOf Tryz.prog 23 = some 1 := by kernel_rfl
@[simp] theorem ag23 : isAggB Tryz.prog 23 = false := by kernel_rfl
@[simp] theorem by23 : byOk Tryz.prog 23 = true := by kernel_rfl
@[simp] theorem ze23 : zerOf Tryz.prog 23 = some ([.nilS]) := by kernel_rfl
attribute [simp] Tryz.underlying25
@[simp] theorem sz25 : szOf Tryz.prog 25 = some 2 := by kernel_rfl
@[simp] theorem ag25 : isAggB Tryz.prog 25 = true := by kernel_rfl
@[simp] theorem by25 : byOk Tryz.prog 25 = true := by kernel_rfl
attribute [simp] Tryz.eqGuardType25
attribute [simp] Tryz.stoodInHeld25
@[simp] theorem ze25 : zerOf Tryz.prog 25 = some ([.nilS, .nilS]) := by kernel_rfl
attribute [simp] Tryz.underlying26
@[simp] theorem sz26 : szOf Tryz.prog 26 = some 1 := by kernel_rfl
@[simp] theorem ag26 : isAggB Tryz.prog 26 = false := by kernel_rfl
@[simp] theorem by26 : byOk Tryz.prog 26 = true := by kernel_rfl
@[simp] theorem ze26 : zerOf Tryz.prog 26 = some ([.nilS]) := by kernel_rfl
attribute [simp] Tryz.underlying27
@[simp] theorem sz27 : szOf Tryz.prog 27 = some 1 := by kernel_rfl
@[simp] theorem ag27 : isAggB Tryz.prog 27 = false := by kernel_rfl
@[simp] theorem by27 : byOk Tryz.prog 27 = true := by kernel_rfl
@[simp] theorem ze27 : zerOf Tryz.prog 27 = some ([.nilS]) := by kernel_rfl
attribute [simp] Tryz.underlying29
@[simp] theorem sz29 : szOf Tryz.prog 29 = some 1 := by kernel_rfl
@[simp] theorem ag29 : isAggB Tryz.prog 29 = false := by kernel_rfl
@[simp] theorem by29 : byOk Tryz.prog 29 = true := by kernel_rfl
@[simp] theorem ze29 : zerOf Tryz.prog 29 = some ([.d .nilp]) := by kernel_rfl
attribute [simp] Tryz.underlying31
@[simp] theorem sz31 : szOf Tryz.prog 31 = some 2 := by kernel_rfl
@[simp] theorem ag31 : isAggB Tryz.prog 31 = true := by kernel_rfl
@[simp] theorem by31 : byOk Tryz.prog 31 = true := by kernel_rfl
attribute [simp] Tryz.eqGuardType31
attribute [simp] Tryz.stoodInHeld31
@[simp] theorem ze31 : zerOf Tryz.prog 31 = some ([.nilS, .d (.int .i64 0)]) := by kernel_rfl
attribute [simp] Tryz.underlying33
@[simp] theorem sz33 : szOf Tryz.prog 33 = some 5 := by kernel_rfl
@[simp] theorem ag33 : isAggB Tryz.prog 33 = true := by kernel_rfl
@[simp] theorem by33 : byOk Tryz.prog 33 = true := by kernel_rfl
attribute [simp] Tryz.eqGuardType33
attribute [simp] Tryz.stoodInHeld33
@[simp] theorem ze33 : zerOf Tryz.prog 33 = some ([.d (.int .i64 0), .d (.int .i64 0), .d (.int .i64 0), .d (.int .i64 0), .nilS]) := by kernel_rfl
attribute [simp] Tryz.underlying40
@[simp] theorem sz40 : szOf Tryz.prog 40 = some 5 := by kernel_rfl
@[simp] theorem ag40 : isAggB Tryz.prog 40 = true := by kernel_rfl
@[simp] theorem by40 : byOk Tryz.prog 40 = true := by kernel_rfl
attribute [simp] Tryz.eqGuardType40
attribute [simp] Tryz.stoodInHeld40
@[simp] theorem ze40 : zerOf Tryz.prog 40 = some ([.d (.int .i64 0), .d (.int .i64 0), .d (.int .i64 0), .d (.int .i64 0), .d (.int .i64 0)]) := by kernel_rfl
attribute [simp] Tryz.underlying43
@[simp] theorem sz43 : szOf Tryz.prog 43 = some 3 := by kernel_rfl
@[simp] theorem ag43 : isAggB Tryz.prog 43 = true := by kernel_rfl
@[simp] theorem by43 : byOk Tryz.prog 43 = true := by kernel_rfl
attribute [simp] Tryz.eqGuardType43
@[simp] theorem ze43 : zerOf Tryz.prog 43 = some ([.d (.int .i64 0), .d (.int .i64 0), .d (.int .i64 0)]) := by kernel_rfl
attribute [simp] Tryz.underlying44
@[simp] theorem sz44 : szOf Tryz.prog 44 = some 3 := by kernel_rfl
@[simp] theorem ag44 : isAggB Tryz.prog 44 = true := by kernel_rfl
@[simp] theorem by44 : byOk Tryz.prog 44 = true := by kernel_rfl
attribute [simp] Tryz.eqGuardType44
@[simp] theorem ze44 : zerOf Tryz.prog 44 = some ([.nilS, .nilS, .nilS]) := by kernel_rfl
attribute [simp] Tryz.underlying45
@[simp] theorem sz45 : szOf Tryz.prog 45 = some 6 := by kernel_rfl
@[simp] theorem ag45 : isAggB Tryz.prog 45 = true := by kernel_rfl
@[simp] theorem by45 : byOk Tryz.prog 45 = true := by kernel_rfl
attribute [simp] Tryz.eqGuardType45
@[simp] theorem ze45 : zerOf Tryz.prog 45 = some ([.nilS, .nilS, .nilS, .nilS, .nilS, .nilS]) := by kernel_rfl
attribute [simp] Tryz.underlying46
@[simp] theorem sz46 : szOf Tryz.prog 46 = some 3 := by kernel_rfl
@[simp] theorem ag46 : isAggB Tryz.prog 46 = true := by kernel_rfl
@[simp] theorem by46 : byOk Tryz.prog 46 = true := by kernel_rfl
attribute [simp] Tryz.eqGuardType46
@[simp] theorem ze46 : zerOf Tryz.prog 46 = some ([.nilS, .nilS, .nilS]) := by kernel_rfl
attribute [simp] Tryz.underlying47
@[simp] theorem sz47 : szOf Tryz.prog 47 = some 1 := by kernel_rfl
@[simp] theorem ag47 : isAggB Tryz.prog 47 = false := by kernel_rfl
@[simp] theorem by47 : byOk Tryz.prog 47 = true := by kernel_rfl
@[simp] theorem ze47 : zerOf Tryz.prog 47 = some ([.d (.int .i64 0)]) := by kernel_rfl
attribute [simp] Tryz.underlying49
@[simp] theorem sz49 : szOf Tryz.prog 49 = some 1 := by kernel_rfl
@[simp] theorem ag49 : isAggB Tryz.prog 49 = false := by kernel_rfl
@[simp] theorem by49 : byOk Tryz.prog 49 = true := by kernel_rfl
@[simp] theorem ze49 : zerOf Tryz.prog 49 = some ([.nilS]) := by kernel_rfl
attribute [simp] Tryz.underlying59
@[simp] theorem sz59 : szOf Tryz.prog 59 = some 4 := by kernel_rfl
@[simp] theorem ag59 : isAggB Tryz.prog 59 = true := by kernel_rfl
@[simp] theorem by59 : byOk Tryz.prog 59 = true := by kernel_rfl
attribute [simp] Tryz.eqGuardType59
attribute [simp] Tryz.stoodInHeld59
@[simp] theorem ze59 : zerOf Tryz.prog 59 = some ([.d (.int .i64 0), .d (.int .i64 0), .d (.int .i64 0), .d (.int .i64 0)]) := by kernel_rfl
attribute [simp] Tryz.underlying64
@[simp] theorem sz64 : szOf Tryz.prog 64 = some 4 := by kernel_rfl
@[simp] theorem ag64 : isAggB Tryz.prog 64 = true := by kernel_rfl
@[simp] theorem by64 : byOk Tryz.prog 64 = true := by kernel_rfl
attribute [simp] Tryz.eqGuardType64
attribute [simp] Tryz.stoodInHeld64
@[simp] theorem ze64 : zerOf Tryz.prog 64 = some ([.d (.int .i64 0), .d (.int .i64 0), .d (.int .i64 0), .d (.int .i64 0)]) := by kernel_rfl
attribute [simp] Tryz.underlying66
@[simp] theorem sz66 : szOf Tryz.prog 66 = some 3 := by kernel_rfl
@[simp] theorem ag66 : isAggB Tryz.prog 66 = true := by kernel_rfl
@[simp] theorem by66 : byOk Tryz.prog 66 = true := by kernel_rfl
attribute [simp] Tryz.eqGuardType66
attribute [simp] Tryz.stoodInHeld66
@[simp] theorem ze66 : zerOf Tryz.prog 66 = some ([.d (.int .i64 0), .d (.int .i64 0), .d (.int .i64 0)]) := by kernel_rfl
attribute [simp] Tryz.underlying67
@[simp] theorem sz67 : szOf Tryz.prog 67 = some 4 := by kernel_rfl
@[simp] theorem ag67 : isAggB Tryz.prog 67 = true := by kernel_rfl
@[simp] theorem by67 : byOk Tryz.prog 67 = true := by kernel_rfl
attribute [simp] Tryz.eqGuardType67
@[simp] theorem ze67 : zerOf Tryz.prog 67 = some (arC (iRow .i64) (zerosI 4)) := by kernel_rfl
attribute [simp] Tryz.underlying69
@[simp] theorem sz69 : szOf Tryz.prog 69 = some 1 := by kernel_rfl
@[simp] theorem ag69 : isAggB Tryz.prog 69 = false := by kernel_rfl
@[simp] theorem by69 : byOk Tryz.prog 69 = true := by kernel_rfl
@[simp] theorem ze69 : zerOf Tryz.prog 69 = some ([.undef]) := by kernel_rfl
attribute [simp] Tryz.underlying72
@[simp] theorem sz72 : szOf Tryz.prog 72 = some 16 := by kernel_rfl
@[simp] theorem ag72 : isAggB Tryz.prog 72 = true := by kernel_rfl
@[simp] theorem by72 : byOk Tryz.prog 72 = true := by kernel_rfl
attribute [simp] Tryz.eqGuardType72
@[simp] theorem ze72 : zerOf Tryz.prog 72 = some (arC bRow (zerosB 16)) := by kernel_rfl
attribute [simp] Tryz.underlying81
@[simp] theorem sz81 : szOf Tryz.prog 81 = some 1 := by kernel_rfl
@[simp] theorem ag81 : isAggB Tryz.prog 81 = false := by kernel_rfl
@[simp] theorem by81 : byOk Tryz.prog 81 = true := by kernel_rfl
@[simp] theorem ze81 : zerOf Tryz.prog 81 = some ([.undef]) := by kernel_rfl
attribute [simp] Tryz.underlying90
@[simp] theorem sz90 : szOf Tryz.prog 90 = some 16 := by kernel_rfl
@[simp] theorem ag90 : isAggB Tryz.prog 90 = true := by kernel_rfl
@[simp] theorem by90 : byOk Tryz.prog 90 = true := by kernel_rfl
attribute [simp] Tryz.eqGuardType90
@[simp] theorem ze90 : zerOf Tryz.prog 90 = some (arC (iRow .i64) (zerosI 16)) := by kernel_rfl
attribute [simp] Tryz.underlying91
@[simp] theorem sz91 : szOf Tryz.prog 91 = some 1 := by kernel_rfl
@[simp] theorem ag91 : isAggB Tryz.prog 91 = false := by kernel_rfl
@[simp] theorem by91 : byOk Tryz.prog 91 = true := by kernel_rfl
@[simp] theorem ze91 : zerOf Tryz.prog 91 = some ([.undef]) := by kernel_rfl
attribute [simp] Tryz.underlying93
@[simp] theorem sz93 : szOf Tryz.prog 93 = some 1 := by kernel_rfl
@[simp] theorem ag93 : isAggB Tryz.prog 93 = false := by kernel_rfl
@[simp] theorem by93 : byOk Tryz.prog 93 = true := by kernel_rfl
@[simp] theorem ze93 : zerOf Tryz.prog 93 = some ([.nilS]) := by kernel_rfl
attribute [simp] Tryz.underlying97
@[simp] theorem sz97 : szOf Tryz.prog 97 = some 1 := by kernel_rfl
@[simp] theorem ag97 : isAggB Tryz.prog 97 = false := by kernel_rfl
@[simp] theorem by97 : byOk Tryz.prog 97 = true := by kernel_rfl
@[simp] theorem ze97 : zerOf Tryz.prog 97 = some ([.d (.int .u64 0)]) := by kernel_rfl
attribute [simp] Tryz.underlying105
@[simp] theorem sz105 : szOf Tryz.prog 105 = some 1 := by kernel_rfl
@[simp] theorem ag105 : isAggB Tryz.prog 105 = false := by kernel_rfl
@[simp] theorem by105 : byOk Tryz.prog 105 = true := by kernel_rfl
@[simp] theorem ze105 : zerOf Tryz.prog 105 = some ([.undef]) := by kernel_rfl
attribute [simp] Tryz.underlying108
@[simp] theorem sz108 : szOf Tryz.prog 108 = some 1 := by kernel_rfl
@[simp] theorem ag108 : isAggB Tryz.prog 108 = false := by kernel_rfl
@[simp] theorem by108 : byOk Tryz.prog 108 = true := by kernel_rfl
@[simp] theorem ze108 : zerOf Tryz.prog 108 = some ([.d (.int .i64 0)]) := by kernel_rfl
attribute [simp] Tryz.underlying116
@[simp] theorem sz116 : szOf Tryz.prog 116 = some 1 := by kernel_rfl
@[simp] theorem ag116 : isAggB Tryz.prog 116 = false := by kernel_rfl
@[simp] theorem by116 : byOk Tryz.prog 116 = true := by kernel_rfl
@[simp] theorem ze116 : zerOf Tryz.prog 116 = some ([.d (.int .u32 0)]) := by kernel_rfl
attribute [simp] Tryz.underlying118
@[simp] theorem sz118 : szOf Tryz.prog 118 = some 1 := by kernel_rfl
@[simp] theorem ag118 : isAggB Tryz.prog 118 = false := by kernel_rfl
@[simp] theorem by118 : byOk Tryz.prog 118 = true := by kernel_rfl
@[simp] theorem ze118 : zerOf Tryz.prog 118 = some ([.d (.int .u64 0)]) := by kernel_rfl
attribute [simp] Tryz.underlying122
@[simp] theorem sz122 : szOf Tryz.prog 122 = some 1 := by kernel_rfl
@[simp] theorem ag122 : isAggB Tryz.prog 122 = false := by kernel_rfl
@[simp] theorem by122 : byOk Tryz.prog 122 = true := by kernel_rfl
@[simp] theorem ze122 : zerOf Tryz.prog 122 = some ([.d (.int .u64 0)]) := by kernel_rfl
attribute [simp] Tryz.underlying126
@[simp] theorem sz126 : szOf Tryz.prog 126 = some 1 := by kernel_rfl
@[simp] theorem ag126 : isAggB Tryz.prog 126 = false := by kernel_rfl
@[simp] theorem by126 : byOk Tryz.prog 126 = true := by kernel_rfl
@[simp] theorem ze126 : zerOf Tryz.prog 126 = some ([.d .nilp]) := by kernel_rfl
attribute [simp] Tryz.underlying134
@[simp] theorem sz134 : szOf Tryz.prog 134 = some 1 := by kernel_rfl
@[simp] theorem ag134 : isAggB Tryz.prog 134 = false := by kernel_rfl
@[simp] theorem by134 : byOk Tryz.prog 134 = true := by kernel_rfl
@[simp] theorem ze134 : zerOf Tryz.prog 134 = some ([.d .nilp]) := by kernel_rfl
end Go.Vl
