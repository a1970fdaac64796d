/- The facts on the types of this translation that the walks use. Conditions: none. -/
import Derived.Test.YtkgimfomocpebabVlV
import Derived.Test.YtkgimfomocpebabProg
import Derived.KernelRfl
set_option linter.unusedSimpArgs false
set_option linter.unusedVariables false
namespace Go.Vl
open Go Go.Proofs
theorem fol : Try.prog.follows .mixedOrders = true := by kernel_rfl
attribute [simp] Try.underlying3
@[simp] theorem sz3 : szOf Try.prog 3 = some 1 := by kernel_rfl
@[simp] theorem ag3 : isAggB Try.prog 3 = false := by kernel_rfl
@[simp] theorem by3 : byOk Try.prog 3 = true := by kernel_rfl
@[simp] theorem ze3 : zerOf Try.prog 3 = some ([.d (.int .i64 0)]) := by kernel_rfl
attribute [simp] Try.underlying4
@[simp] theorem sz4 : szOf Try.prog 4 = some 1 := by kernel_rfl
@[simp] theorem ag4 : isAggB Try.prog 4 = false := by kernel_rfl
@[simp] theorem by4 : byOk Try.prog 4 = true := by kernel_rfl
@[simp] theorem ze4 : zerOf Try.prog 4 = some ([.d (.bool false)]) := by kernel_rfl
attribute [simp] Try.underlying5
@[simp] theorem sz5 : szOf Try.prog 5 = some 1 := by kernel_rfl
@[simp] theorem ag5 : isAggB Try.prog 5 = false := by kernel_rfl
@[simp] theorem by5 : byOk Try.prog 5 = true := by kernel_rfl
@[simp] theorem ze5 : zerOf Try.prog 5 = some ([.d (.int .u8 0)]) := by kernel_rfl
attribute [simp] Try.underlying9
@[simp] theorem sz9 : szOf Try.prog 9 = some 1 := by kernel_rfl
@[simp] theorem ag9 : isAggB Try.prog 9 = false := by kernel_rfl
@[simp] theorem by9 : byOk Try.prog 9 = true := by kernel_rfl
@[simp] theorem ze9 : zerOf Try.prog 9 = some ([.d (.str .empty)]) := by kernel_rfl
attribute [simp] Try.underlying22
@[simp] theorem sz22 : szOf Try.prog 22 = some 1 := by kernel_rfl
@[simp] theorem ag22 : isAggB Try.prog 22 = false := by kernel_rfl
@[simp] theorem by22 : byOk Try.prog 22 = true := by kernel_rfl
@[simp] theorem ze22 : zerOf Try.prog 22 = some ([.nilS]) := by kernel_rfl
attribute [simp] Try.underlying23
@[simp] theorem sz23 : szOf Try.prog 23 = some 1 := by kernel_rfl
@[simp] theorem ag23 : isAggB Try.prog 23 = false := by kernel_rfl
@[simp] theorem by23 : byOk Try.prog 23 = true := by kernel_rfl
@[simp] theorem ze23 : zerOf Try.prog 23 = some ([.d .nilp]) := by kernel_rfl
attribute [simp] Try.underlying25
@[simp] theorem sz25 : szOf Try.prog 25 = some 2 := by kernel_rfl
@[simp] theorem ag25 : isAggB Try.prog 25 = true := by kernel_rfl
@[simp] theorem by25 : byOk Try.prog 25 = true := by kernel_rfl
attribute [simp] Try.eqGuardType25
attribute [simp] Try.stoodInHeld25
@[simp] theorem ze25 : zerOf Try.prog 25 = some ([.nilS, .d (.int .i64 0)]) := by kernel_rfl
attribute [simp] Try.underlying26
@[simp] theorem sz26 : szOf Try.prog 26 = some 1 := by kernel_rfl
@[simp] theorem ag26 : isAggB Try.prog 26 = false := by kernel_rfl
@[simp] theorem by26 : byOk Try.prog 26 = true := by kernel_rfl
@[simp] theorem ze26 : zerOf Try.prog 26 = some ([.nilS]) := by kernel_rfl
attribute [simp] Try.underlying28
@[simp] theorem sz28 : szOf Try.prog 28 = some 256 := by kernel_rfl
@[simp] theorem ag28 : isAggB Try.prog 28 = true := by kernel_rfl
@[simp] theorem by28 : byOk Try.prog 28 = true := by kernel_rfl
attribute [simp] Try.eqGuardType28
@[simp] theorem ze28 : zerOf Try.prog 28 = some (arC (iRow .i64) (zerosI 256)) := by kernel_rfl
attribute [simp] Try.underlying34
@[simp] theorem sz34 : szOf Try.prog 34 = some 1 := by kernel_rfl
@[simp] theorem ag34 : isAggB Try.prog 34 = false := by kernel_rfl
@[simp] theorem by34 : byOk Try.prog 34 = true := by kernel_rfl
@[simp] theorem ze34 : zerOf Try.prog 34 = some ([.nilS]) := by kernel_rfl
attribute [simp] Try.underlying37
@[simp] theorem sz37 : szOf Try.prog 37 = some 1 := by kernel_rfl
@[simp] theorem ag37 : isAggB Try.prog 37 = false := by kernel_rfl
@[simp] theorem by37 : byOk Try.prog 37 = true := by kernel_rfl
@[simp] theorem ze37 : zerOf Try.prog 37 = some ([.nilS]) := by kernel_rfl
attribute [simp] Try.underlying39
@[simp] theorem sz39 : szOf Try.prog 39 = some 1 := by kernel_rfl
@[simp] theorem ag39 : isAggB Try.prog 39 = false := by kernel_rfl
@[simp] theorem by39 : byOk Try.prog 39 = true := by kernel_rfl
@[simp] theorem ze39 : zerOf Try.prog 39 = some ([.d (.int .i64 0)]) := by kernel_rfl
attribute [simp] Try.underlying43
@[simp] theorem sz43 : szOf Try.prog 43 = some 2 := by kernel_rfl
@[simp] theorem ag43 : isAggB Try.prog 43 = true := by kernel_rfl
@[simp] theorem by43 : byOk Try.prog 43 = true := by kernel_rfl
attribute [simp] Try.eqGuardType43
attribute [simp] Try.stoodInHeld43
@[simp] theorem ze43 : zerOf Try.prog 43 = some ([.d (.int .i64 0), .d (.int .i64 0)]) := by kernel_rfl
attribute [simp] Try.underlying47
@[simp] theorem sz47 : szOf Try.prog 47 = some 4 := by kernel_rfl
@[simp] theorem ag47 : isAggB Try.prog 47 = true := by kernel_rfl
@[simp] theorem by47 : byOk Try.prog 47 = true := by kernel_rfl
attribute [simp] Try.eqGuardType47
attribute [simp] Try.stoodInHeld47
@[simp] theorem ze47 : zerOf Try.prog 47 = some ([.d (.int .i64 0), .d (.int .i64 0), .d (.int .i64 0), .d (.int .i64 0)]) := by kernel_rfl
attribute [simp] Try.underlying52
@[simp] theorem sz52 : szOf Try.prog 52 = some 3 := by kernel_rfl
@[simp] theorem ag52 : isAggB Try.prog 52 = true := by kernel_rfl
@[simp] theorem by52 : byOk Try.prog 52 = true := by kernel_rfl
attribute [simp] Try.eqGuardType52
@[simp] theorem ze52 : zerOf Try.prog 52 = some ([.nilS, .nilS, .nilS]) := by kernel_rfl
attribute [simp] Try.underlying54
@[simp] theorem sz54 : szOf Try.prog 54 = some 4 := by kernel_rfl
@[simp] theorem ag54 : isAggB Try.prog 54 = true := by kernel_rfl
@[simp] theorem by54 : byOk Try.prog 54 = true := by kernel_rfl
attribute [simp] Try.eqGuardType54
@[simp] theorem ze54 : zerOf Try.prog 54 = some ([.d (.int .i64 0), .d (.int .i64 0), .d (.int .i64 0), .d (.int .i64 0)]) := by kernel_rfl
attribute [simp] Try.underlying55
@[simp] theorem sz55 : szOf Try.prog 55 = some 12 := by kernel_rfl
@[simp] theorem ag55 : isAggB Try.prog 55 = true := by kernel_rfl
@[simp] theorem by55 : byOk Try.prog 55 = true := by kernel_rfl
attribute [simp] Try.eqGuardType55
@[simp] theorem ze55 : zerOf Try.prog 55 = some ([.d (.int .i64 0), .d (.int .i64 0), .d (.int .i64 0), .d (.int .i64 0), .d (.int .i64 0), .d (.int .i64 0), .d (.int .i64 0), .d (.int .i64 0), .d (.int .i64 0), .d (.int .i64 0), .d (.int .i64 0), .d (.int .i64 0)]) := by kernel_rfl
attribute [simp] Try.underlying58
@[simp] theorem sz58 : szOf Try.prog 58 = some 1 := by kernel_rfl
@[simp] theorem ag58 : isAggB Try.prog 58 = false := by kernel_rfl
@[simp] theorem by58 : byOk Try.prog 58 = true := by kernel_rfl
@[simp] theorem ze58 : zerOf Try.prog 58 = some ([.nilS]) := by kernel_rfl
attribute [simp] Try.underlying63
@[simp] theorem sz63 : szOf Try.prog 63 = some 8 := by kernel_rfl
@[simp] theorem ag63 : isAggB Try.prog 63 = true := by kernel_rfl
@[simp] theorem by63 : byOk Try.prog 63 = true := by kernel_rfl
attribute [simp] Try.eqGuardType63
@[simp] theorem ze63 : zerOf Try.prog 63 = some ([.d (.int .i64 0), .d (.int .i64 0), .d (.int .i64 0), .d (.int .i64 0), .d (.int .i64 0), .d (.int .i64 0), .d (.int .i64 0), .d (.int .i64 0)]) := by kernel_rfl
attribute [simp] Try.underlying67
@[simp] theorem sz67 : szOf Try.prog 67 = some 1 := by kernel_rfl
@[simp] theorem ag67 : isAggB Try.prog 67 = false := by kernel_rfl
@[simp] theorem by67 : byOk Try.prog 67 = true := by kernel_rfl
@[simp] theorem ze67 : zerOf Try.prog 67 = some ([.d (.int .u64 0)]) := by kernel_rfl
attribute [simp] Try.underlying71
@[simp] theorem sz71 : szOf Try.prog 71 = some 1 := by kernel_rfl
@[simp] theorem ag71 : isAggB Try.prog 71 = false := by kernel_rfl
@[simp] theorem by71 : byOk Try.prog 71 = true := by kernel_rfl
@[simp] theorem ze71 : zerOf Try.prog 71 = some ([.undef]) := by kernel_rfl
attribute [simp] Try.underlying75
@[simp] theorem sz75 : szOf Try.prog 75 = some 1 := by kernel_rfl
@[simp] theorem ag75 : isAggB Try.prog 75 = false := by kernel_rfl
@[simp] theorem by75 : byOk Try.prog 75 = true := by kernel_rfl
@[simp] theorem ze75 : zerOf Try.prog 75 = some ([.d (.int .u32 0)]) := by kernel_rfl
attribute [simp] Try.underlying77
@[simp] theorem sz77 : szOf Try.prog 77 = some 1 := by kernel_rfl
@[simp] theorem ag77 : isAggB Try.prog 77 = false := by kernel_rfl
@[simp] theorem by77 : byOk Try.prog 77 = true := by kernel_rfl
@[simp] theorem ze77 : zerOf Try.prog 77 = some ([.d (.int .u64 0)]) := by kernel_rfl
attribute [simp] Try.underlying80
@[simp] theorem sz80 : szOf Try.prog 80 = some 1 := by kernel_rfl
@[simp] theorem ag80 : isAggB Try.prog 80 = false := by kernel_rfl
@[simp] theorem by80 : byOk Try.prog 80 = true := by kernel_rfl
@[simp] theorem ze80 : zerOf Try.prog 80 = some ([.d (.int .i64 0)]) := by kernel_rfl
attribute [simp] Try.underlying86
@[simp] theorem sz86 : szOf Try.prog 86 = some 1 := by kernel_rfl
@[simp] theorem ag86 : isAggB Try.prog 86 = false := by kernel_rfl
@[simp] theorem by86 : byOk Try.prog 86 = true := by kernel_rfl
@[simp] theorem ze86 : zerOf Try.prog 86 = some ([.d (.int .u64 0)]) := by kernel_rfl
attribute [simp] Try.underlying90
@[simp] theorem sz90 : szOf Try.prog 90 = some 1 := by kernel_rfl
@[simp] theorem ag90 : isAggB Try.prog 90 = false := by kernel_rfl
@[simp] theorem by90 : byOk Try.prog 90 = true := by kernel_rfl
@[simp] theorem ze90 : zerOf Try.prog 90 = some ([.d .nilp]) := by kernel_rfl
attribute [simp] Try.underlying92
@[simp] theorem sz92 : szOf Try.prog 92 = some 1 := by kernel_rfl
@[simp] theorem ag92 : isAggB Try.prog 92 = false := by kernel_rfl
@[simp] theorem by92 : byOk Try.prog 92 = true := by kernel_rfl
@[simp] theorem ze92 : zerOf Try.prog 92 = some ([.d .nilp]) := by kernel_rfl
end Go.Vl
