/- The facts on the types of this translation that the walks use. Conditions: none. -/
import Derived.Test.YtkgimfomocpebaaVlN
import Derived.Test.YtkgimfomocpebaaProg
import Derived.KernelRfl
set_option linter.unusedSimpArgs false
set_option linter.unusedVariables false
namespace Go.Vl
open Go Go.Proofs
theorem fol : Try.prog.follows .mixedOrders = true := by kernel_rfl
attribute [simp] Try.underlying3
@[simp] theorem sz3 : szOf Try.prog 3 = some 1 := by kernel_rfl
@[simp] theorem ag3 : isAggB Try.prog 3 = false := by kernel_rfl
@[simp] theorem by3 : byOk Try.prog 3 = true := by kernel_rfl
@[simp] theorem ze3 : zerOf Try.prog 3 = some ([.d (.int .i64 0)]) := by kernel_rfl
attribute [simp] Try.underlying4
@[simp] theorem sz4 : szOf Try.prog 4 = some 1 := by kernel_rfl
@[simp] theorem ag4 : isAggB Try.prog 4 = false := by kernel_rfl
@[simp] theorem by4 : byOk Try.prog 4 = true := by kernel_rfl
@[simp] theorem ze4 : zerOf Try.prog 4 = some ([.d (.bool false)]) := by kernel_rfl
attribute [simp] Try.underlying22
@[simp] theorem sz22 : szOf Try.prog 22 = some 1 := by kernel_rfl
@[simp] theorem ag22 : isAggB Try.prog 22 = false := by kernel_rfl
@[simp] theorem by22 : byOk Try.prog 22 = true := by kernel_rfl
@[simp] theorem ze22 : zerOf Try.prog 22 = some ([.nilS]) := by kernel_rfl
attribute [simp] Try.underlying24
@[simp] theorem sz24 : szOf Try.prog 24 = some 1 := by kernel_rfl
@[simp] theorem ag24 : isAggB Try.prog 24 = false := by kernel_rfl
@[simp] theorem by24 : byOk Try.prog 24 = true := by kernel_rfl
@[simp] theorem ze24 : zerOf Try.prog 24 = some ([.d .nilp]) := by kernel_rfl
attribute [simp] Try.underlying26
@[simp] theorem sz26 : szOf Try.prog 26 = some 2 := by kernel_rfl
@[simp] theorem ag26 : isAggB Try.prog 26 = true := by kernel_rfl
@[simp] theorem by26 : byOk Try.prog 26 = true := by kernel_rfl
attribute [simp] Try.eqGuardType26
attribute [simp] Try.stoodInHeld26
@[simp] theorem ze26 : zerOf Try.prog 26 = some ([.nilS, .d (.int .i64 0)]) := by kernel_rfl
attribute [simp] Try.underlying27
@[simp] theorem sz27 : szOf Try.prog 27 = some 1 := by kernel_rfl
@[simp] theorem ag27 : isAggB Try.prog 27 = false := by kernel_rfl
@[simp] theorem by27 : byOk Try.prog 27 = true := by kernel_rfl
@[simp] theorem ze27 : zerOf Try.prog 27 = some ([.nilS]) := by kernel_rfl
attribute [simp] Try.underlying30
@[simp] theorem sz30 : szOf Try.prog 30 = some 4 := by kernel_rfl
@[simp] theorem ag30 : isAggB Try.prog 30 = true := by kernel_rfl
@[simp] theorem by30 : byOk Try.prog 30 = true := by kernel_rfl
attribute [simp] Try.eqGuardType30
attribute [simp] Try.stoodInHeld30
@[simp] theorem ze30 : zerOf Try.prog 30 = some ([.d (.int .i64 0), .d (.int .i64 0), .d (.int .i64 0), .d (.int .i64 0)]) := by kernel_rfl
attribute [simp] Try.underlying31
@[simp] theorem sz31 : szOf Try.prog 31 = some 1 := by kernel_rfl
@[simp] theorem ag31 : isAggB Try.prog 31 = false := by kernel_rfl
@[simp] theorem by31 : byOk Try.prog 31 = true := by kernel_rfl
@[simp] theorem ze31 : zerOf Try.prog 31 = some ([.d (.int .i64 0)]) := by kernel_rfl
attribute [simp] Try.underlying36
@[simp] theorem sz36 : szOf Try.prog 36 = some 2 := by kernel_rfl
@[simp] theorem ag36 : isAggB Try.prog 36 = true := by kernel_rfl
@[simp] theorem by36 : byOk Try.prog 36 = true := by kernel_rfl
attribute [simp] Try.eqGuardType36
attribute [simp] Try.stoodInHeld36
@[simp] theorem ze36 : zerOf Try.prog 36 = some ([.d (.int .i64 0), .d (.int .i64 0)]) := by kernel_rfl
attribute [simp] Try.underlying42
@[simp] theorem sz42 : szOf Try.prog 42 = some 1 := by kernel_rfl
@[simp] theorem ag42 : isAggB Try.prog 42 = false := by kernel_rfl
@[simp] theorem by42 : byOk Try.prog 42 = true := by kernel_rfl
@[simp] theorem ze42 : zerOf Try.prog 42 = some ([.nilS]) := by kernel_rfl
end Go.Vl
