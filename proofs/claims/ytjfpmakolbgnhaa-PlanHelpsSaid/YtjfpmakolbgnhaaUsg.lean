/- Contracts of library functions, laid for this translation. Conditions: none. -/
import Derived.Shelf.SlicesQ.Reverse
import Derived.Test.YtjfpmakolbgnhaaProg
set_option linter.unusedSimpArgs false
set_option linter.unusedVariables false
namespace Go.Proofs
open Go.Shelf
def Try.rev38_ren : Go.Shelf.Ren := ⟨fun | 35 => 38 | n => n, fun | 22 => 38 | 23 => 43 | 3 => 3 | 4 => 4 | 0 => 0 | n => n, fun | n => n⟩
theorem Try.rev38 : Go.Proofs.SlLaysE0.n35 Try.prog Try.rev38_ren := {
  mixed := by kernel_rfl
  f35 := ⟨Try.f38.name, by decide, Try.func38.trans (congrArg some (by kernel_rfl))⟩
  t0 := Try.underlying0
  a0 := Try.isAgg0
  z0 := Try.sizeOf0
  v0 := Try.zeroValue0
  t3 := Try.underlying3
  a3 := Try.isAgg3
  z3 := Try.sizeOf3
  v3 := Try.zeroValue3
  t4 := Try.underlying4
  a4 := Try.isAgg4
  z4 := Try.sizeOf4
  v4 := Try.zeroValue4
  t22 := Try.underlying38
  a22 := Try.isAgg38
  z22 := Try.sizeOf38
  v22 := Try.zeroValue38 }
end Go.Proofs
