/- The facts on the types of this translation that the walks use. Conditions: none. -/
import Derived.Test.YtclmnpkhopioiabVmV
import Derived.Test.YtclmnpkhopioiabProg
import Derived.KernelRfl
set_option linter.unusedSimpArgs false
set_option linter.unusedVariables false
namespace Go.Vl
open Go Go.Proofs
theorem fol : Try.prog.follows .mixedOrders = true := by kernel_rfl
attribute [simp] Try.underlying3
@[simp] theorem sz3 : szOf Try.prog 3 = some 1 := by kernel_rfl
@[simp] theorem ag3 : isAggB Try.prog 3 = false := by kernel_rfl
@[simp] theorem by3 : byOk Try.prog 3 = true := by kernel_rfl
@[simp] theorem ze3 : zerOf Try.prog 3 = some ([.d (.int .i64 0)]) := by kernel_rfl
attribute [simp] Try.underlying4
@[simp] theorem sz4 : szOf Try.prog 4 = some 1 := by kernel_rfl
@[simp] theorem ag4 : isAggB Try.prog 4 = false := by kernel_rfl
@[simp] theorem by4 : byOk Try.prog 4 = true := by kernel_rfl
@[simp] theorem ze4 : zerOf Try.prog 4 = some ([.d (.bool false)]) := by kernel_rfl
attribute [simp] Try.underlying5
@[simp] theorem sz5 : szOf Try.prog 5 = some 1 := by kernel_rfl
@[simp] theorem ag5 : isAggB Try.prog 5 = false := by kernel_rfl
@[simp] theorem by5 : byOk Try.prog 5 = true := by kernel_rfl
@[simp] theorem ze5 : zerOf Try.prog 5 = some ([.d (.int .u8 0)]) := by kernel_rfl
attribute [simp] Try.underlying9
@[simp] theorem sz9 : szOf Try.prog 9 = some 1 := by kernel_rfl
@[simp] theorem ag9 : isAggB Try.prog 9 = false := by kernel_rfl
@[simp] theorem by9 : byOk Try.prog 9 = true := by kernel_rfl
@[simp] theorem ze9 : zerOf Try.prog 9 = some ([.d (.str .empty)]) := by kernel_rfl
attribute [simp] Try.underlying22
@[simp] theorem sz22 : szOf Try.prog 22 = some 1 := by kernel_rfl
@[simp] theorem ag22 : isAggB Try.prog 22 = false := by kernel_rfl
@[simp] theorem by22 : byOk Try.prog 22 = true := by kernel_rfl
@[simp] theorem ze22 : zerOf Try.prog 22 = some ([.nilS]) := by kernel_rfl
attribute [simp] Try.underlying24
@[simp] theorem sz24 : szOf Try.prog 24 = some 1 := by kernel_rfl
@[simp] theorem ag24 : isAggB Try.prog 24 = false := by kernel_rfl
@[simp] theorem by24 : byOk Try.prog 24 = true := by kernel_rfl
@[simp] theorem ze24 : zerOf Try.prog 24 = some ([.d .nilp]) := by kernel_rfl
attribute [simp] Try.underlying26
@[simp] theorem sz26 : szOf Try.prog 26 = some 2 := by kernel_rfl
@[simp] theorem ag26 : isAggB Try.prog 26 = true := by kernel_rfl
@[simp] theorem by26 : byOk Try.prog 26 = true := by kernel_rfl
attribute [simp] Try.eqGuardType26
attribute [simp] Try.stoodInHeld26
@[simp] theorem ze26 : zerOf Try.prog 26 = some ([.nilS, .d (.int .i64 0)]) := by kernel_rfl
attribute [simp] Try.underlying27
@[simp] theorem sz27 : szOf Try.prog 27 = some 1 := by kernel_rfl
@[simp] theorem ag27 : isAggB Try.prog 27 = false := by kernel_rfl
@[simp] theorem by27 : byOk Try.prog 27 = true := by kernel_rfl
@[simp] theorem ze27 : zerOf Try.prog 27 = some ([.nilS]) := by kernel_rfl
attribute [simp] Try.underlying29
@[simp] theorem sz29 : szOf Try.prog 29 = some 2 := by kernel_rfl
@[simp] theorem ag29 : isAggB Try.prog 29 = true := by kernel_rfl
@[simp] theorem by29 : byOk Try.prog 29 = true := by kernel_rfl
attribute [simp] Try.eqGuardType29
attribute [simp] Try.stoodInHeld29
@[simp] theorem ze29 : zerOf Try.prog 29 = some ([.d (.int .i64 0), .nilS]) := by kernel_rfl
attribute [simp] Try.underlying31
@[simp] theorem sz31 : szOf Try.prog 31 = some 1 := by kernel_rfl
@[simp] theorem ag31 : isAggB Try.prog 31 = false := by kernel_rfl
@[simp] theorem by31 : byOk Try.prog 31 = true := by kernel_rfl
@[simp] theorem ze31 : zerOf Try.prog 31 = some ([.nilS]) := by kernel_rfl
attribute [simp] Try.underlying33
@[simp] theorem sz33 : szOf Try.prog 33 = some 3 := by kernel_rfl
@[simp] theorem ag33 : isAggB Try.prog 33 = true := by kernel_rfl
@[simp] theorem by33 : byOk Try.prog 33 = true := by kernel_rfl
attribute [simp] Try.eqGuardType33
attribute [simp] Try.stoodInHeld33
@[simp] theorem ze33 : zerOf Try.prog 33 = some ([.d (.int .i64 0), .d (.int .i64 0), .nilS]) := by kernel_rfl
attribute [simp] Try.underlying35
@[simp] theorem sz35 : szOf Try.prog 35 = some 1 := by kernel_rfl
@[simp] theorem ag35 : isAggB Try.prog 35 = false := by kernel_rfl
@[simp] theorem by35 : byOk Try.prog 35 = true := by kernel_rfl
@[simp] theorem ze35 : zerOf Try.prog 35 = some ([.d (.int .i64 0)]) := by kernel_rfl
attribute [simp] Try.underlying38
@[simp] theorem sz38 : szOf Try.prog 38 = some 1 := by kernel_rfl
@[simp] theorem ag38 : isAggB Try.prog 38 = false := by kernel_rfl
@[simp] theorem by38 : byOk Try.prog 38 = true := by kernel_rfl
@[simp] theorem ze38 : zerOf Try.prog 38 = some ([.nilS]) := by kernel_rfl
attribute [simp] Try.underlying43
@[simp] theorem sz43 : szOf Try.prog 43 = some 2 := by kernel_rfl
@[simp] theorem ag43 : isAggB Try.prog 43 = true := by kernel_rfl
@[simp] theorem by43 : byOk Try.prog 43 = true := by kernel_rfl
attribute [simp] Try.eqGuardType43
attribute [simp] Try.stoodInHeld43
@[simp] theorem ze43 : zerOf Try.prog 43 = some ([.d (.int .i64 0), .d (.int .i64 0)]) := by kernel_rfl
attribute [simp] Try.underlying53
@[simp] theorem sz53 : szOf Try.prog 53 = some 3 := by kernel_rfl
@[simp] theorem ag53 : isAggB Try.prog 53 = true := by kernel_rfl
@[simp] theorem by53 : byOk Try.prog 53 = true := by kernel_rfl
attribute [simp] Try.eqGuardType53
attribute [simp] Try.stoodInHeld53
@[simp] theorem ze53 : zerOf Try.prog 53 = some ([.d (.bool false), .d (.int .i64 0), .d (.int .i64 0)]) := by kernel_rfl
attribute [simp] Try.underlying56
@[simp] theorem sz56 : szOf Try.prog 56 = some 6 := by kernel_rfl
@[simp] theorem ag56 : isAggB Try.prog 56 = true := by kernel_rfl
@[simp] theorem by56 : byOk Try.prog 56 = true := by kernel_rfl
attribute [simp] Try.eqGuardType56
@[simp] theorem ze56 : zerOf Try.prog 56 = some ([.d (.int .i64 0), .nilS, .d (.int .i64 0), .nilS, .d (.int .i64 0), .nilS]) := by kernel_rfl
attribute [simp] Try.underlying57
@[simp] theorem sz57 : szOf Try.prog 57 = some 9 := by kernel_rfl
@[simp] theorem ag57 : isAggB Try.prog 57 = true := by kernel_rfl
@[simp] theorem by57 : byOk Try.prog 57 = true := by kernel_rfl
attribute [simp] Try.eqGuardType57
@[simp] theorem ze57 : zerOf Try.prog 57 = some ([.d (.int .i64 0), .d (.int .i64 0), .nilS, .d (.int .i64 0), .d (.int .i64 0), .nilS, .d (.int .i64 0), .d (.int .i64 0), .nilS]) := by kernel_rfl
attribute [simp] Try.underlying60
@[simp] theorem sz60 : szOf Try.prog 60 = some 8 := by kernel_rfl
@[simp] theorem ag60 : isAggB Try.prog 60 = true := by kernel_rfl
@[simp] theorem by60 : byOk Try.prog 60 = true := by kernel_rfl
attribute [simp] Try.eqGuardType60
@[simp] theorem ze60 : zerOf Try.prog 60 = some ([.d (.int .i64 0), .nilS, .d (.int .i64 0), .nilS, .d (.int .i64 0), .nilS, .d (.int .i64 0), .nilS]) := by kernel_rfl
attribute [simp] Try.underlying61
@[simp] theorem sz61 : szOf Try.prog 61 = some 12 := by kernel_rfl
@[simp] theorem ag61 : isAggB Try.prog 61 = true := by kernel_rfl
@[simp] theorem by61 : byOk Try.prog 61 = true := by kernel_rfl
attribute [simp] Try.eqGuardType61
@[simp] theorem ze61 : zerOf Try.prog 61 = some ([.d (.int .i64 0), .d (.int .i64 0), .nilS, .d (.int .i64 0), .d (.int .i64 0), .nilS, .d (.int .i64 0), .d (.int .i64 0), .nilS, .d (.int .i64 0), .d (.int .i64 0), .nilS]) := by kernel_rfl
attribute [simp] Try.underlying68
@[simp] theorem sz68 : szOf Try.prog 68 = some 1 := by kernel_rfl
@[simp] theorem ag68 : isAggB Try.prog 68 = false := by kernel_rfl
@[simp] theorem by68 : byOk Try.prog 68 = true := by kernel_rfl
@[simp] theorem ze68 : zerOf Try.prog 68 = some ([.nilS]) := by kernel_rfl
attribute [simp] Try.underlying74
@[simp] theorem sz74 : szOf Try.prog 74 = some 1 := by kernel_rfl
@[simp] theorem ag74 : isAggB Try.prog 74 = true := by kernel_rfl
@[simp] theorem by74 : byOk Try.prog 74 = true := by kernel_rfl
attribute [simp] Try.eqGuardType74
attribute [simp] Try.stoodInHeld74
@[simp] theorem ze74 : zerOf Try.prog 74 = some ([.d (.int .i64 0)]) := by kernel_rfl
attribute [simp] Try.underlying78
@[simp] theorem sz78 : szOf Try.prog 78 = some 3 := by kernel_rfl
@[simp] theorem ag78 : isAggB Try.prog 78 = true := by kernel_rfl
@[simp] theorem by78 : byOk Try.prog 78 = true := by kernel_rfl
attribute [simp] Try.eqGuardType78
attribute [simp] Try.stoodInHeld78
@[simp] theorem ze78 : zerOf Try.prog 78 = some ([.d (.int .i64 0), .d (.bool false), .d (.bool false)]) := by kernel_rfl
attribute [simp] Try.underlying80
@[simp] theorem sz80 : szOf Try.prog 80 = some 3 := by kernel_rfl
@[simp] theorem ag80 : isAggB Try.prog 80 = true := by kernel_rfl
@[simp] theorem by80 : byOk Try.prog 80 = true := by kernel_rfl
attribute [simp] Try.eqGuardType80
@[simp] theorem ze80 : zerOf Try.prog 80 = some ([.d (.int .i64 0), .d (.int .i64 0), .d (.int .i64 0)]) := by kernel_rfl
attribute [simp] Try.underlying83
@[simp] theorem sz83 : szOf Try.prog 83 = some 6 := by kernel_rfl
@[simp] theorem ag83 : isAggB Try.prog 83 = true := by kernel_rfl
@[simp] theorem by83 : byOk Try.prog 83 = true := by kernel_rfl
attribute [simp] Try.eqGuardType83
@[simp] theorem ze83 : zerOf Try.prog 83 = some ([.d (.int .i64 0), .d (.int .i64 0), .nilS, .d (.int .i64 0), .d (.int .i64 0), .nilS]) := by kernel_rfl
attribute [simp] Try.underlying84
@[simp] theorem sz84 : szOf Try.prog 84 = some 3 := by kernel_rfl
@[simp] theorem ag84 : isAggB Try.prog 84 = true := by kernel_rfl
@[simp] theorem by84 : byOk Try.prog 84 = true := by kernel_rfl
attribute [simp] Try.eqGuardType84
@[simp] theorem ze84 : zerOf Try.prog 84 = some ([.nilS, .nilS, .nilS]) := by kernel_rfl
attribute [simp] Try.underlying90
@[simp] theorem sz90 : szOf Try.prog 90 = some 1 := by kernel_rfl
@[simp] theorem ag90 : isAggB Try.prog 90 = false := by kernel_rfl
@[simp] theorem by90 : byOk Try.prog 90 = true := by kernel_rfl
@[simp] theorem ze90 : zerOf Try.prog 90 = some ([.nilS]) := by kernel_rfl
attribute [simp] Try.underlying99
@[simp] theorem sz99 : szOf Try.prog 99 = some 7 := by kernel_rfl
@[simp] theorem ag99 : isAggB Try.prog 99 = true := by kernel_rfl
@[simp] theorem by99 : byOk Try.prog 99 = true := by kernel_rfl
attribute [simp] Try.eqGuardType99
attribute [simp] Try.stoodInHeld99
@[simp] theorem ze99 : zerOf Try.prog 99 = some ([.d (.int .i64 0), .d (.int .i64 0), .nilS, .d (.int .i64 0), .d (.int .i64 0), .d (.int .i64 0), .d (.int .i64 0)]) := by kernel_rfl
attribute [simp] Try.underlying107
@[simp] theorem sz107 : szOf Try.prog 107 = some 11 := by kernel_rfl
@[simp] theorem ag107 : isAggB Try.prog 107 = true := by kernel_rfl
@[simp] theorem by107 : byOk Try.prog 107 = true := by kernel_rfl
attribute [simp] Try.eqGuardType107
@[simp] theorem ze107 : zerOf Try.prog 107 = some (arC (iRow .i64) (zerosI 11)) := by kernel_rfl
attribute [simp] Try.underlying109
@[simp] theorem sz109 : szOf Try.prog 109 = some 1 := by kernel_rfl
@[simp] theorem ag109 : isAggB Try.prog 109 = false := by kernel_rfl
@[simp] theorem by109 : byOk Try.prog 109 = true := by kernel_rfl
@[simp] theorem ze109 : zerOf Try.prog 109 = some ([.undef]) := by kernel_rfl
attribute [simp] Try.underlying112
@[simp] theorem sz112 : szOf Try.prog 112 = some 1 := by kernel_rfl
@[simp] theorem ag112 : isAggB Try.prog 112 = false := by kernel_rfl
@[simp] theorem by112 : byOk Try.prog 112 = true := by kernel_rfl
@[simp] theorem ze112 : zerOf Try.prog 112 = some ([.undef]) := by kernel_rfl
attribute [simp] Try.underlying114
@[simp] theorem sz114 : szOf Try.prog 114 = some 1 := by kernel_rfl
@[simp] theorem ag114 : isAggB Try.prog 114 = false := by kernel_rfl
@[simp] theorem by114 : byOk Try.prog 114 = true := by kernel_rfl
@[simp] theorem ze114 : zerOf Try.prog 114 = some ([.undef]) := by kernel_rfl
attribute [simp] Try.underlying117
@[simp] theorem sz117 : szOf Try.prog 117 = some 1 := by kernel_rfl
@[simp] theorem ag117 : isAggB Try.prog 117 = false := by kernel_rfl
@[simp] theorem by117 : byOk Try.prog 117 = true := by kernel_rfl
@[simp] theorem ze117 : zerOf Try.prog 117 = some ([.d .nilp]) := by kernel_rfl
attribute [simp] Try.underlying119
@[simp] theorem sz119 : szOf Try.prog 119 = some 6 := by kernel_rfl
@[simp] theorem ag119 : isAggB Try.prog 119 = true := by kernel_rfl
@[simp] theorem by119 : byOk Try.prog 119 = true := by kernel_rfl
attribute [simp] Try.eqGuardType119
attribute [simp] Try.stoodInHeld119
@[simp] theorem ze119 : zerOf Try.prog 119 = some ([.d (.int .i64 0), .nilS, .d (.int .i64 0), .d (.int .i64 0), .nilS, .nilS]) := by kernel_rfl
attribute [simp] Try.underlying125
@[simp] theorem sz125 : szOf Try.prog 125 = some 1 := by kernel_rfl
@[simp] theorem ag125 : isAggB Try.prog 125 = false := by kernel_rfl
@[simp] theorem by125 : byOk Try.prog 125 = true := by kernel_rfl
@[simp] theorem ze125 : zerOf Try.prog 125 = some ([.undef]) := by kernel_rfl
attribute [simp] Try.underlying129
@[simp] theorem sz129 : szOf Try.prog 129 = some 1 := by kernel_rfl
@[simp] theorem ag129 : isAggB Try.prog 129 = false := by kernel_rfl
@[simp] theorem by129 : byOk Try.prog 129 = true := by kernel_rfl
@[simp] theorem ze129 : zerOf Try.prog 129 = some ([.undef]) := by kernel_rfl
attribute [simp] Try.underlying131
@[simp] theorem sz131 : szOf Try.prog 131 = some 1 := by kernel_rfl
@[simp] theorem ag131 : isAggB Try.prog 131 = false := by kernel_rfl
@[simp] theorem by131 : byOk Try.prog 131 = true := by kernel_rfl
@[simp] theorem ze131 : zerOf Try.prog 131 = some ([.d .nilp]) := by kernel_rfl
attribute [simp] Try.underlying135
@[simp] theorem sz135 : szOf Try.prog 135 = some 1 := by kernel_rfl
@[simp] theorem ag135 : isAggB Try.prog 135 = false := by kernel_rfl
@[simp] theorem by135 : byOk Try.prog 135 = true := by kernel_rfl
@[simp] theorem ze135 : zerOf Try.prog 135 = some ([.undef]) := by kernel_rfl
attribute [simp] Try.underlying138
@[simp] theorem sz138 : szOf Try.prog 138 = some 1 := by kernel_rfl
@[simp] theorem ag138 : isAggB Try.prog 138 = false := by kernel_rfl
@[simp] theorem by138 : byOk Try.prog 138 = true := by kernel_rfl
@[simp] theorem ze138 : zerOf Try.prog 138 = some ([.d (.int .u64 0)]) := by kernel_rfl
attribute [simp] Try.underlying147
@[simp] theorem sz147 : szOf Try.prog 147 = some 1 := by kernel_rfl
@[simp] theorem ag147 : isAggB Try.prog 147 = false := by kernel_rfl
@[simp] theorem by147 : byOk Try.prog 147 = true := by kernel_rfl
@[simp] theorem ze147 : zerOf Try.prog 147 = some ([.d .nilp]) := by kernel_rfl
attribute [simp] Try.underlying149
@[simp] theorem sz149 : szOf Try.prog 149 = some 1 := by kernel_rfl
@[simp] theorem ag149 : isAggB Try.prog 149 = false := by kernel_rfl
@[simp] theorem by149 : byOk Try.prog 149 = true := by kernel_rfl
@[simp] theorem ze149 : zerOf Try.prog 149 = some ([.d (.int .i64 0)]) := by kernel_rfl
attribute [simp] Try.underlying157
@[simp] theorem sz157 : szOf Try.prog 157 = some 1 := by kernel_rfl
@[simp] theorem ag157 : isAggB Try.prog 157 = false := by kernel_rfl
@[simp] theorem by157 : byOk Try.prog 157 = true := by kernel_rfl
@[simp] theorem ze157 : zerOf Try.prog 157 = some ([.d (.int .u32 0)]) := by kernel_rfl
attribute [simp] Try.underlying159
@[simp] theorem sz159 : szOf Try.prog 159 = some 1 := by kernel_rfl
@[simp] theorem ag159 : isAggB Try.prog 159 = false := by kernel_rfl
@[simp] theorem by159 : byOk Try.prog 159 = true := by kernel_rfl
@[simp] theorem ze159 : zerOf Try.prog 159 = some ([.d (.int .u64 0)]) := by kernel_rfl
attribute [simp] Try.underlying165
@[simp] theorem sz165 : szOf Try.prog 165 = some 1 := by kernel_rfl
@[simp] theorem ag165 : isAggB Try.prog 165 = false := by kernel_rfl
@[simp] theorem by165 : byOk Try.prog 165 = true := by kernel_rfl
@[simp] theorem ze165 : zerOf Try.prog 165 = some ([.d (.int .u64 0)]) := by kernel_rfl
attribute [simp] Try.underlying169
@[simp] theorem sz169 : szOf Try.prog 169 = some 1 := by kernel_rfl
@[simp] theorem ag169 : isAggB Try.prog 169 = false := by kernel_rfl
@[simp] theorem by169 : byOk Try.prog 169 = true := by kernel_rfl
@[simp] theorem ze169 : zerOf Try.prog 169 = some ([.d .nilp]) := by kernel_rfl
attribute [simp] Try.underlying171
@[simp] theorem sz171 : szOf Try.prog 171 = some 1 := by kernel_rfl
@[simp] theorem ag171 : isAggB Try.prog 171 = false := by kernel_rfl
@[simp] theorem by171 : byOk Try.prog 171 = true := by kernel_rfl
@[simp] theorem ze171 : zerOf Try.prog 171 = some ([.d .nilp]) := by kernel_rfl
end Go.Vl
