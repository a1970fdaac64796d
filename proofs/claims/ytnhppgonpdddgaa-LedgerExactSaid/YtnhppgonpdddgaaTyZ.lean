/- The facts on the types of this translation that the walks use. Conditions: none. -/
import Derived.Test.YtnhppgonpdddgaaVmV
import Derived.Test.YtnhppgonpdddgaaProg
import Derived.KernelRfl
set_option linter.unusedSimpArgs false
set_option linter.unusedVariables false
namespace Go.Vl
open Go Go.Proofs
theorem fol : Try.prog.follows .mixedOrders = true := by kernel_rfl
attribute [simp] Try.underlying3
@[simp] theorem sz3 : szOf Try.prog 3 = some 1 := by kernel_rfl
@[simp] theorem ag3 : isAggB Try.prog 3 = false := by kernel_rfl
@[simp] theorem by3 : byOk Try.prog 3 = true := by kernel_rfl
@[simp] theorem ze3 : zerOf Try.prog 3 = some ([.d (.int .i64 0)]) := by kernel_rfl
attribute [simp] Try.underlying4
@[simp] theorem sz4 : szOf Try.prog 4 = some 1 := by kernel_rfl
@[simp] theorem ag4 : isAggB Try.prog 4 = false := by kernel_rfl
@[simp] theorem by4 : byOk Try.prog 4 = true := by kernel_rfl
@[simp] theorem ze4 : zerOf Try.prog 4 = some ([.d (.bool false)]) := by kernel_rfl
attribute [simp] Try.underlying5
@[simp] theorem sz5 : szOf Try.prog 5 = some 1 := by kernel_rfl
@[simp] theorem ag5 : isAggB Try.prog 5 = false := by kernel_rfl
@[simp] theorem by5 : byOk Try.prog 5 = true := by kernel_rfl
@[simp] theorem ze5 : zerOf Try.prog 5 = some ([.d (.int .u8 0)]) := by kernel_rfl
attribute [simp] Try.underlying9
@[simp] theorem sz9 : szOf Try.prog 9 = some 1 := by kernel_rfl
@[simp] theorem ag9 : isAggB Try.prog 9 = false := by kernel_rfl
@[simp] theorem by9 : byOk Try.prog 9 = true := by kernel_rfl
@[simp] theorem ze9 : zerOf Try.prog 9 = some ([.d (.str .empty)]) := by kernel_rfl
attribute [simp] Try.underlying22
@[simp] theorem sz22 : szOf Try.prog 22 = some 1 := by kernel_rfl
@[simp] theorem ag22 : isAggB Try.prog 22 = false := by kernel_rfl
@[simp] theorem by22 : byOk Try.prog 22 = true := by kernel_rfl
@[simp] theorem ze22 : zerOf Try.prog 22 = some ([.nilS]) := by kernel_rfl
attribute [simp] Try.underlying23
@[simp] theorem sz23 : szOf Try.prog 23 = some 1 := by kernel_rfl
@[simp] theorem ag23 : isAggB Try.prog 23 = false := by kernel_rfl
@[simp] theorem by23 : byOk Try.prog 23 = true := by kernel_rfl
@[simp] theorem ze23 : zerOf Try.prog 23 = some ([.d .nilp]) := by kernel_rfl
attribute [simp] Try.underlying25
@[simp] theorem sz25 : szOf Try.prog 25 = some 2 := by kernel_rfl
@[simp] theorem ag25 : isAggB Try.prog 25 = true := by kernel_rfl
@[simp] theorem by25 : byOk Try.prog 25 = true := by kernel_rfl
attribute [simp] Try.eqGuardType25
attribute [simp] Try.stoodInHeld25
@[simp] theorem ze25 : zerOf Try.prog 25 = some ([.nilS, .d (.int .i64 0)]) := by kernel_rfl
attribute [simp] Try.underlying26
@[simp] theorem sz26 : szOf Try.prog 26 = some 1 := by kernel_rfl
@[simp] theorem ag26 : isAggB Try.prog 26 = false := by kernel_rfl
@[simp] theorem by26 : byOk Try.prog 26 = true := by kernel_rfl
@[simp] theorem ze26 : zerOf Try.prog 26 = some ([.nilS]) := by kernel_rfl
attribute [simp] Try.underlying32
@[simp] theorem sz32 : szOf Try.prog 32 = some 1 := by kernel_rfl
@[simp] theorem ag32 : isAggB Try.prog 32 = false := by kernel_rfl
@[simp] theorem by32 : byOk Try.prog 32 = true := by kernel_rfl
@[simp] theorem ze32 : zerOf Try.prog 32 = some ([.nilS]) := by kernel_rfl
attribute [simp] Try.underlying34
@[simp] theorem sz34 : szOf Try.prog 34 = some 1 := by kernel_rfl
@[simp] theorem ag34 : isAggB Try.prog 34 = false := by kernel_rfl
@[simp] theorem by34 : byOk Try.prog 34 = true := by kernel_rfl
@[simp] theorem ze34 : zerOf Try.prog 34 = some ([.d (.int .i64 0)]) := by kernel_rfl
attribute [simp] Try.underlying38
@[simp] theorem sz38 : szOf Try.prog 38 = some 2 := by kernel_rfl
@[simp] theorem ag38 : isAggB Try.prog 38 = true := by kernel_rfl
@[simp] theorem by38 : byOk Try.prog 38 = true := by kernel_rfl
attribute [simp] Try.eqGuardType38
attribute [simp] Try.stoodInHeld38
@[simp] theorem ze38 : zerOf Try.prog 38 = some ([.d (.int .i64 0), .d (.int .i64 0)]) := by kernel_rfl
attribute [simp] Try.underlying42
@[simp] theorem sz42 : szOf Try.prog 42 = some 4 := by kernel_rfl
@[simp] theorem ag42 : isAggB Try.prog 42 = true := by kernel_rfl
@[simp] theorem by42 : byOk Try.prog 42 = true := by kernel_rfl
attribute [simp] Try.eqGuardType42
attribute [simp] Try.stoodInHeld42
@[simp] theorem ze42 : zerOf Try.prog 42 = some ([.d (.int .i64 0), .d (.int .i64 0), .d (.int .i64 0), .d (.int .i64 0)]) := by kernel_rfl
attribute [simp] Try.underlying47
@[simp] theorem sz47 : szOf Try.prog 47 = some 3 := by kernel_rfl
@[simp] theorem ag47 : isAggB Try.prog 47 = true := by kernel_rfl
@[simp] theorem by47 : byOk Try.prog 47 = true := by kernel_rfl
attribute [simp] Try.eqGuardType47
@[simp] theorem ze47 : zerOf Try.prog 47 = some ([.nilS, .nilS, .nilS]) := by kernel_rfl
attribute [simp] Try.underlying49
@[simp] theorem sz49 : szOf Try.prog 49 = some 4 := by kernel_rfl
@[simp] theorem ag49 : isAggB Try.prog 49 = true := by kernel_rfl
@[simp] theorem by49 : byOk Try.prog 49 = true := by kernel_rfl
attribute [simp] Try.eqGuardType49
@[simp] theorem ze49 : zerOf Try.prog 49 = some ([.d (.int .i64 0), .d (.int .i64 0), .d (.int .i64 0), .d (.int .i64 0)]) := by kernel_rfl
attribute [simp] Try.underlying50
@[simp] theorem sz50 : szOf Try.prog 50 = some 12 := by kernel_rfl
@[simp] theorem ag50 : isAggB Try.prog 50 = true := by kernel_rfl
@[simp] theorem by50 : byOk Try.prog 50 = true := by kernel_rfl
attribute [simp] Try.eqGuardType50
@[simp] theorem ze50 : zerOf Try.prog 50 = some ([.d (.int .i64 0), .d (.int .i64 0), .d (.int .i64 0), .d (.int .i64 0), .d (.int .i64 0), .d (.int .i64 0), .d (.int .i64 0), .d (.int .i64 0), .d (.int .i64 0), .d (.int .i64 0), .d (.int .i64 0), .d (.int .i64 0)]) := by kernel_rfl
attribute [simp] Try.underlying53
@[simp] theorem sz53 : szOf Try.prog 53 = some 1 := by kernel_rfl
@[simp] theorem ag53 : isAggB Try.prog 53 = false := by kernel_rfl
@[simp] theorem by53 : byOk Try.prog 53 = true := by kernel_rfl
@[simp] theorem ze53 : zerOf Try.prog 53 = some ([.nilS]) := by kernel_rfl
attribute [simp] Try.underlying58
@[simp] theorem sz58 : szOf Try.prog 58 = some 8 := by kernel_rfl
@[simp] theorem ag58 : isAggB Try.prog 58 = true := by kernel_rfl
@[simp] theorem by58 : byOk Try.prog 58 = true := by kernel_rfl
attribute [simp] Try.eqGuardType58
@[simp] theorem ze58 : zerOf Try.prog 58 = some ([.d (.int .i64 0), .d (.int .i64 0), .d (.int .i64 0), .d (.int .i64 0), .d (.int .i64 0), .d (.int .i64 0), .d (.int .i64 0), .d (.int .i64 0)]) := by kernel_rfl
attribute [simp] Try.underlying61
@[simp] theorem sz61 : szOf Try.prog 61 = some 256 := by kernel_rfl
@[simp] theorem ag61 : isAggB Try.prog 61 = true := by kernel_rfl
@[simp] theorem by61 : byOk Try.prog 61 = true := by kernel_rfl
attribute [simp] Try.eqGuardType61
@[simp] theorem ze61 : zerOf Try.prog 61 = some (arC (iRow .i64) (zerosI 256)) := by kernel_rfl
attribute [simp] Try.underlying64
@[simp] theorem sz64 : szOf Try.prog 64 = some 1 := by kernel_rfl
@[simp] theorem ag64 : isAggB Try.prog 64 = false := by kernel_rfl
@[simp] theorem by64 : byOk Try.prog 64 = true := by kernel_rfl
@[simp] theorem ze64 : zerOf Try.prog 64 = some ([.d (.int .u64 0)]) := by kernel_rfl
attribute [simp] Try.underlying68
@[simp] theorem sz68 : szOf Try.prog 68 = some 1 := by kernel_rfl
@[simp] theorem ag68 : isAggB Try.prog 68 = false := by kernel_rfl
@[simp] theorem by68 : byOk Try.prog 68 = true := by kernel_rfl
@[simp] theorem ze68 : zerOf Try.prog 68 = some ([.undef]) := by kernel_rfl
attribute [simp] Try.underlying72
@[simp] theorem sz72 : szOf Try.prog 72 = some 1 := by kernel_rfl
@[simp] theorem ag72 : isAggB Try.prog 72 = false := by kernel_rfl
@[simp] theorem by72 : byOk Try.prog 72 = true := by kernel_rfl
@[simp] theorem ze72 : zerOf Try.prog 72 = some ([.d (.int .u32 0)]) := by kernel_rfl
attribute [simp] Try.underlying74
@[simp] theorem sz74 : szOf Try.prog 74 = some 1 := by kernel_rfl
@[simp] theorem ag74 : isAggB Try.prog 74 = false := by kernel_rfl
@[simp] theorem by74 : byOk Try.prog 74 = true := by kernel_rfl
@[simp] theorem ze74 : zerOf Try.prog 74 = some ([.d (.int .u64 0)]) := by kernel_rfl
attribute [simp] Try.underlying77
@[simp] theorem sz77 : szOf Try.prog 77 = some 1 := by kernel_rfl
@[simp] theorem ag77 : isAggB Try.prog 77 = false := by kernel_rfl
@[simp] theorem by77 : byOk Try.prog 77 = true := by kernel_rfl
@[simp] theorem ze77 : zerOf Try.prog 77 = some ([.d (.int .i64 0)]) := by kernel_rfl
attribute [simp] Try.underlying83
@[simp] theorem sz83 : szOf Try.prog 83 = some 1 := by kernel_rfl
@[simp] theorem ag83 : isAggB Try.prog 83 = false := by kernel_rfl
@[simp] theorem by83 : byOk Try.prog 83 = true := by kernel_rfl
@[simp] theorem ze83 : zerOf Try.prog 83 = some ([.d (.int .u64 0)]) := by kernel_rfl
attribute [simp] Try.underlying87
@[simp] theorem sz87 : szOf Try.prog 87 = some 1 := by kernel_rfl
@[simp] theorem ag87 : isAggB Try.prog 87 = false := by kernel_rfl
@[simp] theorem by87 : byOk Try.prog 87 = true := by kernel_rfl
@[simp] theorem ze87 : zerOf Try.prog 87 = some ([.d .nilp]) := by kernel_rfl
attribute [simp] Try.underlying89
@[simp] theorem sz89 : szOf Try.prog 89 = some 1 := by kernel_rfl
@[simp] theorem ag89 : isAggB Try.prog 89 = false := by kernel_rfl
@[simp] theorem by89 : byOk Try.prog 89 = true := by kernel_rfl
@[simp] theorem ze89 : zerOf Try.prog 89 = some ([.d .nilp]) := by kernel_rfl
end Go.Vl
