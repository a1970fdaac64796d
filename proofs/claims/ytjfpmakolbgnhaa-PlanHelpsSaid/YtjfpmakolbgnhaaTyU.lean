/- The facts on the types of this translation that the walks use. Conditions: none. -/
import Derived.Test.YtjfpmakolbgnhaaVmV
import Derived.Test.YtjfpmakolbgnhaaProg
import Derived.KernelRfl
set_option linter.unusedSimpArgs false
set_option linter.unusedVariables false
namespace Go.Vl
open Go Go.Proofs
theorem fol : Try.prog.follows .mixedOrders = true := by kernel_rfl
attribute [simp] Try.underlying3
@[simp] theorem sz3 : szOf Try.prog 3 = some 1 := by kernel_rfl
@[simp] theorem ag3 : isAggB Try.prog 3 = false := by kernel_rfl
@[simp] theorem by3 : byOk Try.prog 3 = true := by kernel_rfl
@[simp] theorem ze3 : zerOf Try.prog 3 = some ([.d (.int .i64 0)]) := by kernel_rfl
attribute [simp] Try.underlying4
@[simp] theorem sz4 : szOf Try.prog 4 = some 1 := by kernel_rfl
@[simp] theorem ag4 : isAggB Try.prog 4 = false := by kernel_rfl
@[simp] theorem by4 : byOk Try.prog 4 = true := by kernel_rfl
@[simp] theorem ze4 : zerOf Try.prog 4 = some ([.d (.bool false)]) := by kernel_rfl
attribute [simp] Try.underlying5
@[simp] theorem sz5 : szOf Try.prog 5 = some 1 := by kernel_rfl
@[simp] theorem ag5 : isAggB Try.prog 5 = false := by kernel_rfl
@[simp] theorem by5 : byOk Try.prog 5 = true := by kernel_rfl
@[simp] theorem ze5 : zerOf Try.prog 5 = some ([.d (.int .u8 0)]) := by kernel_rfl
attribute [simp] Try.underlying9
@[simp] theorem sz9 : szOf Try.prog 9 = some 1 := by kernel_rfl
@[simp] theorem ag9 : isAggB Try.prog 9 = false := by kernel_rfl
@[simp] theorem by9 : byOk Try.prog 9 = true := by kernel_rfl
@[simp] theorem ze9 : zerOf Try.prog 9 = some ([.d (.str .empty)]) := by kernel_rfl
attribute [simp] Try.underlying22
@[simp] theorem sz22 : szOf Try.prog 22 = some 1 := by kernel_rfl
@[simp] theorem ag22 : isAggB Try.prog 22 = false := by kernel_rfl
@[simp] theorem by22 : byOk Try.prog 22 = true := by kernel_rfl
@[simp] theorem ze22 : zerOf Try.prog 22 = some ([.nilS]) := by kernel_rfl
attribute [simp] Try.underlying24
@[simp] theorem sz24 : szOf Try.prog 24 = some 1 := by kernel_rfl
@[simp] theorem ag24 : isAggB Try.prog 24 = false := by kernel_rfl
@[simp] theorem by24 : byOk Try.prog 24 = true := by kernel_rfl
@[simp] theorem ze24 : zerOf Try.prog 24 = some ([.d .nilp]) := by kernel_rfl
attribute [simp] Try.underlying26
@[simp] theorem sz26 : szOf Try.prog 26 = some 2 := by kernel_rfl
@[simp] theorem ag26 : isAggB Try.prog 26 = true := by kernel_rfl
@[simp] theorem by26 : byOk Try.prog 26 = true := by kernel_rfl
attribute [simp] Try.eqGuardType26
attribute [simp] Try.stoodInHeld26
@[simp] theorem ze26 : zerOf Try.prog 26 = some ([.nilS, .d (.int .i64 0)]) := by kernel_rfl
attribute [simp] Try.underlying27
@[simp] theorem sz27 : szOf Try.prog 27 = some 1 := by kernel_rfl
@[simp] theorem ag27 : isAggB Try.prog 27 = false := by kernel_rfl
@[simp] theorem by27 : byOk Try.prog 27 = true := by kernel_rfl
@[simp] theorem ze27 : zerOf Try.prog 27 = some ([.nilS]) := by kernel_rfl
attribute [simp] Try.underlying29
@[simp] theorem sz29 : szOf Try.prog 29 = some 2 := by kernel_rfl
@[simp] theorem ag29 : isAggB Try.prog 29 = true := by kernel_rfl
@[simp] theorem by29 : byOk Try.prog 29 = true := by kernel_rfl
attribute [simp] Try.eqGuardType29
attribute [simp] Try.stoodInHeld29
@[simp] theorem ze29 : zerOf Try.prog 29 = some ([.d (.int .i64 0), .nilS]) := by kernel_rfl
attribute [simp] Try.underlying31
@[simp] theorem sz31 : szOf Try.prog 31 = some 1 := by kernel_rfl
@[simp] theorem ag31 : isAggB Try.prog 31 = false := by kernel_rfl
@[simp] theorem by31 : byOk Try.prog 31 = true := by kernel_rfl
@[simp] theorem ze31 : zerOf Try.prog 31 = some ([.nilS]) := by kernel_rfl
attribute [simp] Try.underlying33
@[simp] theorem sz33 : szOf Try.prog 33 = some 3 := by kernel_rfl
@[simp] theorem ag33 : isAggB Try.prog 33 = true := by kernel_rfl
@[simp] theorem by33 : byOk Try.prog 33 = true := by kernel_rfl
attribute [simp] Try.eqGuardType33
attribute [simp] Try.stoodInHeld33
@[simp] theorem ze33 : zerOf Try.prog 33 = some ([.d (.int .i64 0), .d (.int .i64 0), .nilS]) := by kernel_rfl
attribute [simp] Try.underlying35
@[simp] theorem sz35 : szOf Try.prog 35 = some 1 := by kernel_rfl
@[simp] theorem ag35 : isAggB Try.prog 35 = false := by kernel_rfl
@[simp] theorem by35 : byOk Try.prog 35 = true := by kernel_rfl
@[simp] theorem ze35 : zerOf Try.prog 35 = some ([.d (.int .i64 0)]) := by kernel_rfl
attribute [simp] Try.underlying38
@[simp] theorem sz38 : szOf Try.prog 38 = some 1 := by kernel_rfl
@[simp] theorem ag38 : isAggB Try.prog 38 = false := by kernel_rfl
@[simp] theorem by38 : byOk Try.prog 38 = true := by kernel_rfl
@[simp] theorem ze38 : zerOf Try.prog 38 = some ([.nilS]) := by kernel_rfl
attribute [simp] Try.underlying43
@[simp] theorem sz43 : szOf Try.prog 43 = some 2 := by kernel_rfl
@[simp] theorem ag43 : isAggB Try.prog 43 = true := by kernel_rfl
@[simp] theorem by43 : byOk Try.prog 43 = true := by kernel_rfl
attribute [simp] Try.eqGuardType43
attribute [simp] Try.stoodInHeld43
@[simp] theorem ze43 : zerOf Try.prog 43 = some ([.d (.int .i64 0), .d (.int .i64 0)]) := by kernel_rfl
attribute [simp] Try.underlying53
@[simp] theorem sz53 : szOf Try.prog 53 = some 3 := by kernel_rfl
@[simp] theorem ag53 : isAggB Try.prog 53 = true := by kernel_rfl
@[simp] theorem by53 : byOk Try.prog 53 = true := by kernel_rfl
attribute [simp] Try.eqGuardType53
attribute [simp] Try.stoodInHeld53
@[simp] theorem ze53 : zerOf Try.prog 53 = some ([.d (.bool false), .d (.int .i64 0), .d (.int .i64 0)]) := by kernel_rfl
attribute [simp] Try.underlying56
@[simp] theorem sz56 : szOf Try.prog 56 = some 6 := by kernel_rfl
@[simp] theorem ag56 : isAggB Try.prog 56 = true := by kernel_rfl
@[simp] theorem by56 : byOk Try.prog 56 = true := by kernel_rfl
attribute [simp] Try.eqGuardType56
@[simp] theorem ze56 : zerOf Try.prog 56 = some ([.d (.int .i64 0), .nilS, .d (.int .i64 0), .nilS, .d (.int .i64 0), .nilS]) := by kernel_rfl
attribute [simp] Try.underlying57
@[simp] theorem sz57 : szOf Try.prog 57 = some 9 := by kernel_rfl
@[simp] theorem ag57 : isAggB Try.prog 57 = true := by kernel_rfl
@[simp] theorem by57 : byOk Try.prog 57 = true := by kernel_rfl
attribute [simp] Try.eqGuardType57
@[simp] theorem ze57 : zerOf Try.prog 57 = some ([.d (.int .i64 0), .d (.int .i64 0), .nilS, .d (.int .i64 0), .d (.int .i64 0), .nilS, .d (.int .i64 0), .d (.int .i64 0), .nilS]) := by kernel_rfl
attribute [simp] Try.underlying61
@[simp] theorem sz61 : szOf Try.prog 61 = some 1 := by kernel_rfl
@[simp] theorem ag61 : isAggB Try.prog 61 = true := by kernel_rfl
@[simp] theorem by61 : byOk Try.prog 61 = true := by kernel_rfl
attribute [simp] Try.eqGuardType61
attribute [simp] Try.stoodInHeld61
@[simp] theorem ze61 : zerOf Try.prog 61 = some ([.d (.int .i64 0)]) := by kernel_rfl
attribute [simp] Try.underlying65
@[simp] theorem sz65 : szOf Try.prog 65 = some 3 := by kernel_rfl
@[simp] theorem ag65 : isAggB Try.prog 65 = true := by kernel_rfl
@[simp] theorem by65 : byOk Try.prog 65 = true := by kernel_rfl
attribute [simp] Try.eqGuardType65
attribute [simp] Try.stoodInHeld65
@[simp] theorem ze65 : zerOf Try.prog 65 = some ([.d (.int .i64 0), .d (.bool false), .d (.bool false)]) := by kernel_rfl
attribute [simp] Try.underlying70
@[simp] theorem sz70 : szOf Try.prog 70 = some 1 := by kernel_rfl
@[simp] theorem ag70 : isAggB Try.prog 70 = false := by kernel_rfl
@[simp] theorem by70 : byOk Try.prog 70 = true := by kernel_rfl
@[simp] theorem ze70 : zerOf Try.prog 70 = some ([.nilS]) := by kernel_rfl
attribute [simp] Try.underlying79
@[simp] theorem sz79 : szOf Try.prog 79 = some 7 := by kernel_rfl
@[simp] theorem ag79 : isAggB Try.prog 79 = true := by kernel_rfl
@[simp] theorem by79 : byOk Try.prog 79 = true := by kernel_rfl
attribute [simp] Try.eqGuardType79
attribute [simp] Try.stoodInHeld79
@[simp] theorem ze79 : zerOf Try.prog 79 = some ([.d (.int .i64 0), .d (.int .i64 0), .nilS, .d (.int .i64 0), .d (.int .i64 0), .d (.int .i64 0), .d (.int .i64 0)]) := by kernel_rfl
attribute [simp] Try.underlying86
@[simp] theorem sz86 : szOf Try.prog 86 = some 1 := by kernel_rfl
@[simp] theorem ag86 : isAggB Try.prog 86 = false := by kernel_rfl
@[simp] theorem by86 : byOk Try.prog 86 = true := by kernel_rfl
@[simp] theorem ze86 : zerOf Try.prog 86 = some ([.nilS]) := by kernel_rfl
attribute [simp] Try.underlying93
@[simp] theorem sz93 : szOf Try.prog 93 = some 11 := by kernel_rfl
@[simp] theorem ag93 : isAggB Try.prog 93 = true := by kernel_rfl
@[simp] theorem by93 : byOk Try.prog 93 = true := by kernel_rfl
attribute [simp] Try.eqGuardType93
@[simp] theorem ze93 : zerOf Try.prog 93 = some (arC (iRow .i64) (zerosI 11)) := by kernel_rfl
attribute [simp] Try.underlying95
@[simp] theorem sz95 : szOf Try.prog 95 = some 1 := by kernel_rfl
@[simp] theorem ag95 : isAggB Try.prog 95 = false := by kernel_rfl
@[simp] theorem by95 : byOk Try.prog 95 = true := by kernel_rfl
@[simp] theorem ze95 : zerOf Try.prog 95 = some ([.undef]) := by kernel_rfl
attribute [simp] Try.underlying99
@[simp] theorem sz99 : szOf Try.prog 99 = some 1 := by kernel_rfl
@[simp] theorem ag99 : isAggB Try.prog 99 = false := by kernel_rfl
@[simp] theorem by99 : byOk Try.prog 99 = true := by kernel_rfl
@[simp] theorem ze99 : zerOf Try.prog 99 = some ([.undef]) := by kernel_rfl
attribute [simp] Try.underlying102
@[simp] theorem sz102 : szOf Try.prog 102 = some 1 := by kernel_rfl
@[simp] theorem ag102 : isAggB Try.prog 102 = false := by kernel_rfl
@[simp] theorem by102 : byOk Try.prog 102 = true := by kernel_rfl
@[simp] theorem ze102 : zerOf Try.prog 102 = some ([.undef]) := by kernel_rfl
attribute [simp] Try.underlying109
@[simp] theorem sz109 : szOf Try.prog 109 = some 1 := by kernel_rfl
@[simp] theorem ag109 : isAggB Try.prog 109 = false := by kernel_rfl
@[simp] theorem by109 : byOk Try.prog 109 = true := by kernel_rfl
@[simp] theorem ze109 : zerOf Try.prog 109 = some ([.d .nilp]) := by kernel_rfl
attribute [simp] Try.underlying111
@[simp] theorem sz111 : szOf Try.prog 111 = some 1 := by kernel_rfl
@[simp] theorem ag111 : isAggB Try.prog 111 = false := by kernel_rfl
@[simp] theorem by111 : byOk Try.prog 111 = true := by kernel_rfl
@[simp] theorem ze111 : zerOf Try.prog 111 = some ([.undef]) := by kernel_rfl
attribute [simp] Try.underlying114
@[simp] theorem sz114 : szOf Try.prog 114 = some 1 := by kernel_rfl
@[simp] theorem ag114 : isAggB Try.prog 114 = false := by kernel_rfl
@[simp] theorem by114 : byOk Try.prog 114 = true := by kernel_rfl
@[simp] theorem ze114 : zerOf Try.prog 114 = some ([.d .nilp]) := by kernel_rfl
attribute [simp] Try.underlying116
@[simp] theorem sz116 : szOf Try.prog 116 = some 6 := by kernel_rfl
@[simp] theorem ag116 : isAggB Try.prog 116 = true := by kernel_rfl
@[simp] theorem by116 : byOk Try.prog 116 = true := by kernel_rfl
attribute [simp] Try.eqGuardType116
attribute [simp] Try.stoodInHeld116
@[simp] theorem ze116 : zerOf Try.prog 116 = some ([.d (.int .i64 0), .nilS, .d (.int .i64 0), .d (.int .i64 0), .nilS, .nilS]) := by kernel_rfl
attribute [simp] Try.underlying119
@[simp] theorem sz119 : szOf Try.prog 119 = some 1 := by kernel_rfl
@[simp] theorem ag119 : isAggB Try.prog 119 = false := by kernel_rfl
@[simp] theorem by119 : byOk Try.prog 119 = true := by kernel_rfl
@[simp] theorem ze119 : zerOf Try.prog 119 = some ([.undef]) := by kernel_rfl
attribute [simp] Try.underlying123
@[simp] theorem sz123 : szOf Try.prog 123 = some 1 := by kernel_rfl
@[simp] theorem ag123 : isAggB Try.prog 123 = false := by kernel_rfl
@[simp] theorem by123 : byOk Try.prog 123 = true := by kernel_rfl
@[simp] theorem ze123 : zerOf Try.prog 123 = some ([.d (.int .u64 0)]) := by kernel_rfl
attribute [simp] Try.underlying126
@[simp] theorem sz126 : szOf Try.prog 126 = some 1 := by kernel_rfl
@[simp] theorem ag126 : isAggB Try.prog 126 = false := by kernel_rfl
@[simp] theorem by126 : byOk Try.prog 126 = true := by kernel_rfl
@[simp] theorem ze126 : zerOf Try.prog 126 = some ([.d .nilp]) := by kernel_rfl
attribute [simp] Try.underlying133
@[simp] theorem sz133 : szOf Try.prog 133 = some 1 := by kernel_rfl
@[simp] theorem ag133 : isAggB Try.prog 133 = false := by kernel_rfl
@[simp] theorem by133 : byOk Try.prog 133 = true := by kernel_rfl
@[simp] theorem ze133 : zerOf Try.prog 133 = some ([.undef]) := by kernel_rfl
attribute [simp] Try.underlying136
@[simp] theorem sz136 : szOf Try.prog 136 = some 1 := by kernel_rfl
@[simp] theorem ag136 : isAggB Try.prog 136 = false := by kernel_rfl
@[simp] theorem by136 : byOk Try.prog 136 = true := by kernel_rfl
@[simp] theorem ze136 : zerOf Try.prog 136 = some ([.d (.int .i64 0)]) := by kernel_rfl
attribute [simp] Try.underlying144
@[simp] theorem sz144 : szOf Try.prog 144 = some 1 := by kernel_rfl
@[simp] theorem ag144 : isAggB Try.prog 144 = false := by kernel_rfl
@[simp] theorem by144 : byOk Try.prog 144 = true := by kernel_rfl
@[simp] theorem ze144 : zerOf Try.prog 144 = some ([.d (.int .u32 0)]) := by kernel_rfl
attribute [simp] Try.underlying146
@[simp] theorem sz146 : szOf Try.prog 146 = some 1 := by kernel_rfl
@[simp] theorem ag146 : isAggB Try.prog 146 = false := by kernel_rfl
@[simp] theorem by146 : byOk Try.prog 146 = true := by kernel_rfl
@[simp] theorem ze146 : zerOf Try.prog 146 = some ([.d (.int .u64 0)]) := by kernel_rfl
attribute [simp] Try.underlying153
@[simp] theorem sz153 : szOf Try.prog 153 = some 1 := by kernel_rfl
@[simp] theorem ag153 : isAggB Try.prog 153 = false := by kernel_rfl
@[simp] theorem by153 : byOk Try.prog 153 = true := by kernel_rfl
@[simp] theorem ze153 : zerOf Try.prog 153 = some ([.d (.int .u64 0)]) := by kernel_rfl
attribute [simp] Try.underlying157
@[simp] theorem sz157 : szOf Try.prog 157 = some 1 := by kernel_rfl
@[simp] theorem ag157 : isAggB Try.prog 157 = false := by kernel_rfl
@[simp] theorem by157 : byOk Try.prog 157 = true := by kernel_rfl
@[simp] theorem ze157 : zerOf Try.prog 157 = some ([.d .nilp]) := by kernel_rfl
attribute [simp] Try.underlying160
@[simp] theorem sz160 : szOf Try.prog 160 = some 1 := by kernel_rfl
@[simp] theorem ag160 : isAggB Try.prog 160 = false := by kernel_rfl
@[simp] theorem by160 : byOk Try.prog 160 = true := by kernel_rfl
@[simp] theorem ze160 : zerOf Try.prog 160 = some ([.d .nilp]) := by kernel_rfl
end Go.Vl
