/- The facts on the types of this translation that the walks use. Conditions: none. -/
import Derived.Test.YtkgimfomocpebaaTyA
import Derived.Test.YtkgimfomocpebaaVlP
import Derived.Test.YtkgimfomocpebaaProg
import Derived.KernelRfl
set_option linter.unusedSimpArgs false
set_option linter.unusedVariables false
namespace Go.Vl
open Go Go.Proofs
attribute [simp] Try.underlying5
@[simp] theorem sz5 : szOf Try.prog 5 = some 1 := by kernel_rfl
@[simp] theorem ag5 : isAggB Try.prog 5 = false := by kernel_rfl
@[simp] theorem by5 : byOk Try.prog 5 = true := by kernel_rfl
@[simp] theorem ze5 : zerOf Try.prog 5 = some ([.d (.int .u8 0)]) := by kernel_rfl
attribute [simp] Try.underlying9
@[simp] theorem sz9 : szOf Try.prog 9 = some 1 := by kernel_rfl
@[simp] theorem ag9 : isAggB Try.prog 9 = false := by kernel_rfl
@[simp] theorem by9 : byOk Try.prog 9 = true := by kernel_rfl
@[simp] theorem ze9 : zerOf Try.prog 9 = some ([.d (.str .empty)]) := by kernel_rfl
attribute [simp] Try.underlying45
@[simp] theorem sz45 : szOf Try.prog 45 = some 1 := by kernel_rfl
@[simp] theorem ag45 : isAggB Try.prog 45 = false := by kernel_rfl
@[simp] theorem by45 : byOk Try.prog 45 = true := by kernel_rfl
@[simp] theorem ze45 : zerOf Try.prog 45 = some ([.d (.int .u64 0)]) := by kernel_rfl
attribute [simp] Try.underlying54
@[simp] theorem sz54 : szOf Try.prog 54 = some 1 := by kernel_rfl
@[simp] theorem ag54 : isAggB Try.prog 54 = false := by kernel_rfl
@[simp] theorem by54 : byOk Try.prog 54 = true := by kernel_rfl
@[simp] theorem ze54 : zerOf Try.prog 54 = some ([.nilS]) := by kernel_rfl
attribute [simp] Try.underlying57
@[simp] theorem sz57 : szOf Try.prog 57 = some 1 := by kernel_rfl
@[simp] theorem ag57 : isAggB Try.prog 57 = false := by kernel_rfl
@[simp] theorem by57 : byOk Try.prog 57 = true := by kernel_rfl
@[simp] theorem ze57 : zerOf Try.prog 57 = some ([.d (.int .u32 0)]) := by kernel_rfl
attribute [simp] Try.underlying59
@[simp] theorem sz59 : szOf Try.prog 59 = some 1 := by kernel_rfl
@[simp] theorem ag59 : isAggB Try.prog 59 = false := by kernel_rfl
@[simp] theorem by59 : byOk Try.prog 59 = true := by kernel_rfl
@[simp] theorem ze59 : zerOf Try.prog 59 = some ([.d (.int .u64 0)]) := by kernel_rfl
attribute [simp] Try.underlying60
@[simp] theorem sz60 : szOf Try.prog 60 = some 256 := by kernel_rfl
@[simp] theorem ag60 : isAggB Try.prog 60 = true := by kernel_rfl
@[simp] theorem by60 : byOk Try.prog 60 = true := by kernel_rfl
attribute [simp] Try.eqGuardType60
@[simp] theorem ze60 : zerOf Try.prog 60 = some (ics zs256) := by kernel_rfl
end Go.Vl
