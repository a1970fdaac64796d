/- The facts on the types of this translation that the walks use. Conditions: none. -/
import Derived.Test.YtphnihphnboneaaVlV
import Derived.Test.YtphnihphnboneaaProg
import Derived.KernelRfl
set_option linter.unusedSimpArgs false
set_option linter.unusedVariables false
namespace Go.Vl
open Go Go.Proofs
theorem fol : Try.prog.follows .mixedOrders = true := by kernel_rfl
attribute [simp] Try.underlying3
@[simp] theorem sz3 : szOf Try.prog 3 = some 1 := by kernel_rfl
@[simp] theorem ag3 : isAggB Try.prog 3 = false := by kernel_rfl
@[simp] theorem by3 : byOk Try.prog 3 = true := by kernel_rfl
@[simp] theorem ze3 : zerOf Try.prog 3 = some ([.d (.int .i64 0)]) := by kernel_rfl
attribute [simp] Try.underlying4
@[simp] theorem sz4 : szOf Try.prog 4 = some 1 := by kernel_rfl
@[simp] theorem ag4 : isAggB Try.prog 4 = false := by kernel_rfl
@[simp] theorem by4 : byOk Try.prog 4 = true := by kernel_rfl
@[simp] theorem ze4 : zerOf Try.prog 4 = some ([.d (.bool false)]) := by kernel_rfl
attribute [simp] Try.underlying22
@[simp] theorem sz22 : szOf Try.prog 22 = some 1 := by kernel_rfl
@[simp] theorem ag22 : isAggB Try.prog 22 = false := by kernel_rfl
@[simp] theorem by22 : byOk Try.prog 22 = true := by kernel_rfl
@[simp] theorem ze22 : zerOf Try.prog 22 = some ([.nilS]) := by kernel_rfl
attribute [simp] Try.underlying24
@[simp] theorem sz24 : szOf Try.prog 24 = some 5 := by kernel_rfl
@[simp] theorem ag24 : isAggB Try.prog 24 = true := by kernel_rfl
@[simp] theorem by24 : byOk Try.prog 24 = true := by kernel_rfl
attribute [simp] Try.eqGuardType24
attribute [simp] Try.stoodInHeld24
@[simp] theorem ze24 : zerOf Try.prog 24 = some ([.d (.int .i64 0), .d (.int .i64 0), .d (.int .i64 0), .d (.int .i64 0), .nilS]) := by kernel_rfl
attribute [simp] Try.underlying26
@[simp] theorem sz26 : szOf Try.prog 26 = some 1 := by kernel_rfl
@[simp] theorem ag26 : isAggB Try.prog 26 = false := by kernel_rfl
@[simp] theorem by26 : byOk Try.prog 26 = true := by kernel_rfl
@[simp] theorem ze26 : zerOf Try.prog 26 = some ([.d .nilp]) := by kernel_rfl
attribute [simp] Try.underlying28
@[simp] theorem sz28 : szOf Try.prog 28 = some 2 := by kernel_rfl
@[simp] theorem ag28 : isAggB Try.prog 28 = true := by kernel_rfl
@[simp] theorem by28 : byOk Try.prog 28 = true := by kernel_rfl
attribute [simp] Try.eqGuardType28
attribute [simp] Try.stoodInHeld28
@[simp] theorem ze28 : zerOf Try.prog 28 = some ([.nilS, .d (.int .i64 0)]) := by kernel_rfl
attribute [simp] Try.underlying33
@[simp] theorem sz33 : szOf Try.prog 33 = some 15 := by kernel_rfl
@[simp] theorem ag33 : isAggB Try.prog 33 = true := by kernel_rfl
@[simp] theorem by33 : byOk Try.prog 33 = true := by kernel_rfl
attribute [simp] Try.eqGuardType33
@[simp] theorem ze33 : zerOf Try.prog 33 = some ([.d (.int .i64 0), .d (.int .i64 0), .d (.int .i64 0), .d (.int .i64 0), .nilS, .d (.int .i64 0), .d (.int .i64 0), .d (.int .i64 0), .d (.int .i64 0), .nilS, .d (.int .i64 0), .d (.int .i64 0), .d (.int .i64 0), .d (.int .i64 0), .nilS]) := by kernel_rfl
attribute [simp] Try.underlying34
@[simp] theorem sz34 : szOf Try.prog 34 = some 1 := by kernel_rfl
@[simp] theorem ag34 : isAggB Try.prog 34 = false := by kernel_rfl
@[simp] theorem by34 : byOk Try.prog 34 = true := by kernel_rfl
@[simp] theorem ze34 : zerOf Try.prog 34 = some ([.d (.int .i64 0)]) := by kernel_rfl
attribute [simp] Try.underlying36
@[simp] theorem sz36 : szOf Try.prog 36 = some 3 := by kernel_rfl
@[simp] theorem ag36 : isAggB Try.prog 36 = true := by kernel_rfl
@[simp] theorem by36 : byOk Try.prog 36 = true := by kernel_rfl
attribute [simp] Try.eqGuardType36
@[simp] theorem ze36 : zerOf Try.prog 36 = some ([.d (.int .i64 0), .d (.int .i64 0), .d (.int .i64 0)]) := by kernel_rfl
attribute [simp] Try.underlying37
@[simp] theorem sz37 : szOf Try.prog 37 = some 12 := by kernel_rfl
@[simp] theorem ag37 : isAggB Try.prog 37 = true := by kernel_rfl
@[simp] theorem by37 : byOk Try.prog 37 = true := by kernel_rfl
attribute [simp] Try.eqGuardType37
@[simp] theorem ze37 : zerOf Try.prog 37 = some ([.d (.int .i64 0), .d (.int .i64 0), .d (.int .i64 0), .d (.int .i64 0), .d (.int .i64 0), .d (.int .i64 0), .d (.int .i64 0), .d (.int .i64 0), .d (.int .i64 0), .d (.int .i64 0), .d (.int .i64 0), .d (.int .i64 0)]) := by kernel_rfl
attribute [simp] Try.underlying51
@[simp] theorem sz51 : szOf Try.prog 51 = some 1 := by kernel_rfl
@[simp] theorem ag51 : isAggB Try.prog 51 = false := by kernel_rfl
@[simp] theorem by51 : byOk Try.prog 51 = true := by kernel_rfl
@[simp] theorem ze51 : zerOf Try.prog 51 = some ([.d (.int .u64 0)]) := by kernel_rfl
end Go.Vl
