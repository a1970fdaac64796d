/- The facts on the types of this translation that the walks use. Conditions: none. -/
import Derived.Test.YtjnflahicimmlaaVmV
import Derived.Test.YtjnflahicimmlaaProg
import Derived.KernelRfl
set_option linter.unusedSimpArgs false
set_option linter.unusedVariables false
namespace Go.Vl
open Go Go.Proofs
theorem fol : Try.prog.follows .mixedOrders = true := by kernel_rfl
attribute [simp] Try.underlying3
@[simp] theorem sz3 : szOf Try.prog 3 = some 1 := by kernel_rfl
@[simp] theorem ag3 : isAggB Try.prog 3 = false := by kernel_rfl
@[simp] theorem by3 : byOk Try.prog 3 = true := by kernel_rfl
@[simp] theorem ze3 : zerOf Try.prog 3 = some ([.d (.int .i64 0)]) := by kernel_rfl
attribute [simp] Try.underlying4
@[simp] theorem sz4 : szOf Try.prog 4 = some 1 := by kernel_rfl
@[simp] theorem ag4 : isAggB Try.prog 4 = false := by kernel_rfl
@[simp] theorem by4 : byOk Try.prog 4 = true := by kernel_rfl
@[simp] theorem ze4 : zerOf Try.prog 4 = some ([.d (.bool false)]) := by kernel_rfl
attribute [simp] Try.underlying5
@[simp] theorem sz5 : szOf Try.prog 5 = some 1 := by kernel_rfl
@[simp] theorem ag5 : isAggB Try.prog 5 = false := by kernel_rfl
@[simp] theorem by5 : byOk Try.prog 5 = true := by kernel_rfl
@[simp] theorem ze5 : zerOf Try.prog 5 = some ([.d (.int .u8 0)]) := by kernel_rfl
attribute [simp] Try.underlying9
@[simp] theorem sz9 : szOf Try.prog 9 = some 1 := by kernel_rfl
@[simp] theorem ag9 : isAggB Try.prog 9 = false := by kernel_rfl
@[simp] theorem by9 : byOk Try.prog 9 = true := by kernel_rfl
@[simp] theorem ze9 : zerOf Try.prog 9 = some ([.d (.str .empty)]) := by kernel_rfl
attribute [simp] Try.underlying20
@[simp] theorem sz20 : szOf Try.prog 20 = some 1 := by kernel_rfl
@[simp] theorem ag20 : isAggB Try.prog 20 = false := by kernel_rfl
@[simp] theorem by20 : byOk Try.prog 20 = true := by kernel_rfl
@[simp] theorem ze20 : zerOf Try.prog 20 = some ([.undef]) := by kernel_rfl
attribute [simp] Try.underlying22
@[simp] theorem sz22 : szOf Try.prog 22 = some 1 := by kernel_rfl
@[simp] theorem ag22 : isAggB Try.prog 22 = false := by kernel_rfl
@[simp] theorem by22 : byOk Try.prog 22 = true := by kernel_rfl
@[simp] theorem ze22 : zerOf Try.prog 22 = some ([.nilS]) := by kernel_rfl
attribute [simp] Try.underlying23
@[simp] theorem sz23 : szOf Try.prog 23 = some 1 := by kernel_rfl
@[simp] theorem ag23 : isAggB Try.prog 23 = false := by kernel_rfl
@[simp] theorem by23 : byOk Try.prog 23 = true := by kernel_rfl
@[simp] theorem ze23 : zerOf Try.prog 23 = some ([.d .nilp]) := by kernel_rfl
attribute [simp] Try.underlying25
@[simp] theorem sz25 : szOf Try.prog 25 = some 2 := by kernel_rfl
@[simp] theorem ag25 : isAggB Try.prog 25 = true := by kernel_rfl
@[simp] theorem by25 : byOk Try.prog 25 = true := by kernel_rfl
attribute [simp] Try.eqGuardType25
attribute [simp] Try.stoodInHeld25
@[simp] theorem ze25 : zerOf Try.prog 25 = some ([.nilS, .d (.int .i64 0)]) := by kernel_rfl
attribute [simp] Try.underlying26
@[simp] theorem sz26 : szOf Try.prog 26 = some 1 := by kernel_rfl
@[simp] theorem ag26 : isAggB Try.prog 26 = false := by kernel_rfl
@[simp] theorem by26 : byOk Try.prog 26 = true := by kernel_rfl
@[simp] theorem ze26 : zerOf Try.prog 26 = some ([.nilS]) := by kernel_rfl
attribute [simp] Try.underlying27
@[simp] theorem sz27 : szOf Try.prog 27 = some 1 := by kernel_rfl
@[simp] theorem ag27 : isAggB Try.prog 27 = false := by kernel_rfl
@[simp] theorem by27 : byOk Try.prog 27 = true := by kernel_rfl
@[simp] theorem ze27 : zerOf Try.prog 27 = some ([.nilS]) := by kernel_rfl
attribute [simp] Try.underlying29
@[simp] theorem sz29 : szOf Try.prog 29 = some 2 := by kernel_rfl
@[simp] theorem ag29 : isAggB Try.prog 29 = true := by kernel_rfl
@[simp] theorem by29 : byOk Try.prog 29 = true := by kernel_rfl
attribute [simp] Try.eqGuardType29
attribute [simp] Try.stoodInHeld29
@[simp] theorem ze29 : zerOf Try.prog 29 = some ([.nilS, .nilS]) := by kernel_rfl
attribute [simp] Try.underlying32
@[simp] theorem sz32 : szOf Try.prog 32 = some 4 := by kernel_rfl
@[simp] theorem ag32 : isAggB Try.prog 32 = true := by kernel_rfl
@[simp] theorem by32 : byOk Try.prog 32 = true := by kernel_rfl
attribute [simp] Try.eqGuardType32
attribute [simp] Try.stoodInHeld32
@[simp] theorem ze32 : zerOf Try.prog 32 = some ([.d (.int .i64 0), .d (.str .empty), .d (.int .i64 0), .d (.int .i64 0)]) := by kernel_rfl
attribute [simp] Try.underlying33
@[simp] theorem sz33 : szOf Try.prog 33 = some 1 := by kernel_rfl
@[simp] theorem ag33 : isAggB Try.prog 33 = false := by kernel_rfl
@[simp] theorem by33 : byOk Try.prog 33 = true := by kernel_rfl
@[simp] theorem ze33 : zerOf Try.prog 33 = some ([.nilS]) := by kernel_rfl
attribute [simp] Try.underlying34
@[simp] theorem sz34 : szOf Try.prog 34 = some 1 := by kernel_rfl
@[simp] theorem ag34 : isAggB Try.prog 34 = false := by kernel_rfl
@[simp] theorem by34 : byOk Try.prog 34 = true := by kernel_rfl
@[simp] theorem ze34 : zerOf Try.prog 34 = some ([.nilS]) := by kernel_rfl
attribute [simp] Try.underlying36
@[simp] theorem sz36 : szOf Try.prog 36 = some 8 := by kernel_rfl
@[simp] theorem ag36 : isAggB Try.prog 36 = true := by kernel_rfl
@[simp] theorem by36 : byOk Try.prog 36 = true := by kernel_rfl
attribute [simp] Try.eqGuardType36
attribute [simp] Try.stoodInHeld36
@[simp] theorem ze36 : zerOf Try.prog 36 = some ([.d (.int .i64 0), .d (.int .i64 0), .nilS, .nilS, .d (.int .i64 0), .nilS, .d (.str .empty), .d (.int .i64 0)]) := by kernel_rfl
attribute [simp] Try.underlying43
@[simp] theorem sz43 : szOf Try.prog 43 = some 2 := by kernel_rfl
@[simp] theorem ag43 : isAggB Try.prog 43 = true := by kernel_rfl
@[simp] theorem by43 : byOk Try.prog 43 = true := by kernel_rfl
attribute [simp] Try.eqGuardType43
attribute [simp] Try.stoodInHeld43
@[simp] theorem ze43 : zerOf Try.prog 43 = some ([.d (.str .empty), .d (.int .i64 0)]) := by kernel_rfl
attribute [simp] Try.underlying44
@[simp] theorem sz44 : szOf Try.prog 44 = some 1 := by kernel_rfl
@[simp] theorem ag44 : isAggB Try.prog 44 = false := by kernel_rfl
@[simp] theorem by44 : byOk Try.prog 44 = true := by kernel_rfl
@[simp] theorem ze44 : zerOf Try.prog 44 = some ([.d (.int .i64 0)]) := by kernel_rfl
attribute [simp] Try.underlying47
@[simp] theorem sz47 : szOf Try.prog 47 = some 1 := by kernel_rfl
@[simp] theorem ag47 : isAggB Try.prog 47 = false := by kernel_rfl
@[simp] theorem by47 : byOk Try.prog 47 = true := by kernel_rfl
@[simp] theorem ze47 : zerOf Try.prog 47 = some ([.undef]) := by kernel_rfl
attribute [simp] Try.underlying49
@[simp] theorem sz49 : szOf Try.prog 49 = some 1 := by kernel_rfl
@[simp] theorem ag49 : isAggB Try.prog 49 = false := by kernel_rfl
@[simp] theorem by49 : byOk Try.prog 49 = true := by kernel_rfl
@[simp] theorem ze49 : zerOf Try.prog 49 = some ([.undef]) := by kernel_rfl
attribute [simp] Try.underlying56
@[simp] theorem sz56 : szOf Try.prog 56 = some 1 := by kernel_rfl
@[simp] theorem ag56 : isAggB Try.prog 56 = false := by kernel_rfl
@[simp] theorem by56 : byOk Try.prog 56 = true := by kernel_rfl
@[simp] theorem ze56 : zerOf Try.prog 56 = some ([.nilS]) := by kernel_rfl
attribute [simp] Try.underlying58
@[simp] theorem sz58 : szOf Try.prog 58 = some 1 := by kernel_rfl
@[simp] theorem ag58 : isAggB Try.prog 58 = false := by kernel_rfl
@[simp] theorem by58 : byOk Try.prog 58 = true := by kernel_rfl
@[simp] theorem ze58 : zerOf Try.prog 58 = some ([.undef]) := by kernel_rfl
attribute [simp] Try.underlying62
@[simp] theorem sz62 : szOf Try.prog 62 = some 1 := by kernel_rfl
@[simp] theorem ag62 : isAggB Try.prog 62 = false := by kernel_rfl
@[simp] theorem by62 : byOk Try.prog 62 = true := by kernel_rfl
@[simp] theorem ze62 : zerOf Try.prog 62 = some ([.undef]) := by kernel_rfl
attribute [simp] Try.underlying66
@[simp] theorem sz66 : szOf Try.prog 66 = some 1 := by kernel_rfl
@[simp] theorem ag66 : isAggB Try.prog 66 = false := by kernel_rfl
@[simp] theorem by66 : byOk Try.prog 66 = true := by kernel_rfl
@[simp] theorem ze66 : zerOf Try.prog 66 = some ([.undef]) := by kernel_rfl
attribute [simp] Try.underlying68
@[simp] theorem sz68 : szOf Try.prog 68 = some 1 := by kernel_rfl
@[simp] theorem ag68 : isAggB Try.prog 68 = false := by kernel_rfl
@[simp] theorem by68 : byOk Try.prog 68 = true := by kernel_rfl
@[simp] theorem ze68 : zerOf Try.prog 68 = some ([.undef]) := by kernel_rfl
attribute [simp] Try.underlying69
@[simp] theorem sz69 : szOf Try.prog 69 = some 1 := by kernel_rfl
@[simp] theorem ag69 : isAggB Try.prog 69 = false := by kernel_rfl
@[simp] theorem by69 : byOk Try.prog 69 = true := by kernel_rfl
@[simp] theorem ze69 : zerOf Try.prog 69 = some ([.undef]) := by kernel_rfl
attribute [simp] Try.underlying76
@[simp] theorem sz76 : szOf Try.prog 76 = some 1 := by kernel_rfl
@[simp] theorem ag76 : isAggB Try.prog 76 = false := by kernel_rfl
@[simp] theorem by76 : byOk Try.prog 76 = true := by kernel_rfl
@[simp] theorem ze76 : zerOf Try.prog 76 = some ([.undef]) := by kernel_rfl
attribute [simp] Try.underlying77
@[simp] theorem sz77 : szOf Try.prog 77 = some 1 := by kernel_rfl
@[simp] theorem ag77 : isAggB Try.prog 77 = false := by kernel_rfl
@[simp] theorem by77 : byOk Try.prog 77 = true := by kernel_rfl
@[simp] theorem ze77 : zerOf Try.prog 77 = some ([.undef]) := by kernel_rfl
attribute [simp] Try.underlying81
@[simp] theorem sz81 : szOf Try.prog 81 = some 1 := by kernel_rfl
@[simp] theorem ag81 : isAggB Try.prog 81 = false := by kernel_rfl
@[simp] theorem by81 : byOk Try.prog 81 = true := by kernel_rfl
@[simp] theorem ze81 : zerOf Try.prog 81 = some ([.undef]) := by kernel_rfl
attribute [simp] Try.underlying85
@[simp] theorem sz85 : szOf Try.prog 85 = some 1 := by kernel_rfl
@[simp] theorem ag85 : isAggB Try.prog 85 = false := by kernel_rfl
@[simp] theorem by85 : byOk Try.prog 85 = true := by kernel_rfl
@[simp] theorem ze85 : zerOf Try.prog 85 = some ([.undef]) := by kernel_rfl
attribute [simp] Try.underlying94
@[simp] theorem sz94 : szOf Try.prog 94 = some 1 := by kernel_rfl
@[simp] theorem ag94 : isAggB Try.prog 94 = false := by kernel_rfl
@[simp] theorem by94 : byOk Try.prog 94 = true := by kernel_rfl
@[simp] theorem ze94 : zerOf Try.prog 94 = some ([.undef]) := by kernel_rfl
attribute [simp] Try.underlying98
@[simp] theorem sz98 : szOf Try.prog 98 = some 1 := by kernel_rfl
@[simp] theorem ag98 : isAggB Try.prog 98 = false := by kernel_rfl
@[simp] theorem by98 : byOk Try.prog 98 = true := by kernel_rfl
@[simp] theorem ze98 : zerOf Try.prog 98 = some ([.d (.int .u64 0)]) := by kernel_rfl
attribute [simp] Try.underlying105
@[simp] theorem sz105 : szOf Try.prog 105 = some 1 := by kernel_rfl
@[simp] theorem ag105 : isAggB Try.prog 105 = false := by kernel_rfl
@[simp] theorem by105 : byOk Try.prog 105 = true := by kernel_rfl
@[simp] theorem ze105 : zerOf Try.prog 105 = some ([.d (.int .i64 0)]) := by kernel_rfl
attribute [simp] Try.underlying113
@[simp] theorem sz113 : szOf Try.prog 113 = some 1 := by kernel_rfl
@[simp] theorem ag113 : isAggB Try.prog 113 = false := by kernel_rfl
@[simp] theorem by113 : byOk Try.prog 113 = true := by kernel_rfl
@[simp] theorem ze113 : zerOf Try.prog 113 = some ([.d (.int .u32 0)]) := by kernel_rfl
attribute [simp] Try.underlying115
@[simp] theorem sz115 : szOf Try.prog 115 = some 1 := by kernel_rfl
@[simp] theorem ag115 : isAggB Try.prog 115 = false := by kernel_rfl
@[simp] theorem by115 : byOk Try.prog 115 = true := by kernel_rfl
@[simp] theorem ze115 : zerOf Try.prog 115 = some ([.d (.int .u64 0)]) := by kernel_rfl
attribute [simp] Try.underlying121
@[simp] theorem sz121 : szOf Try.prog 121 = some 1 := by kernel_rfl
@[simp] theorem ag121 : isAggB Try.prog 121 = false := by kernel_rfl
@[simp] theorem by121 : byOk Try.prog 121 = true := by kernel_rfl
@[simp] theorem ze121 : zerOf Try.prog 121 = some ([.d (.int .u64 0)]) := by kernel_rfl
attribute [simp] Try.underlying125
@[simp] theorem sz125 : szOf Try.prog 125 = some 1 := by kernel_rfl
@[simp] theorem ag125 : isAggB Try.prog 125 = false := by kernel_rfl
@[simp] theorem by125 : byOk Try.prog 125 = true := by kernel_rfl
@[simp] theorem ze125 : zerOf Try.prog 125 = some ([.d .nilp]) := by kernel_rfl
attribute [simp] Try.underlying130
@[simp] theorem sz130 : szOf Try.prog 130 = some 1 := by kernel_rfl
@[simp] theorem ag130 : isAggB Try.prog 130 = false := by kernel_rfl
@[simp] theorem by130 : byOk Try.prog 130 = true := by kernel_rfl
@[simp] theorem ze130 : zerOf Try.prog 130 = some ([.d .nilp]) := by kernel_rfl
end Go.Vl
