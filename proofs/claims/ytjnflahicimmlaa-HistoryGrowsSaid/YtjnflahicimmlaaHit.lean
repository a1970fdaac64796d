/- Contracts of library functions, laid for this translation. Conditions: none. -/
import Derived.Shelf.SlIterI.Nil
import Derived.Test.YtjnflahicimmlaaProg
set_option linter.unusedSimpArgs false
set_option linter.unusedVariables false
namespace Go.Proofs
open Go.Shelf
def Try.keysA_ren : Go.Shelf.Ren := ⟨fun | 7 => 25 | 10 => 48 | n => n, fun | 23 => 58 | 26 => 3 | 3 => 3 | 28 => 62 | 0 => 0 | 27 => 61 | 33 => 47 | 4 => 4 | n => n, fun | n => n⟩
theorem Try.keysA : Go.Proofs.SlLaysZI.n7 Try.prog Try.keysA_ren := {
  mixed := by kernel_rfl
  f7 := ⟨Try.f25.name, by decide, Try.func25.trans (congrArg some (by kernel_rfl))⟩
  f10 := ⟨Try.f48.name, by decide, Try.func48.trans (congrArg some (by kernel_rfl))⟩
  t0 := Try.underlying0
  a0 := Try.isAgg0
  z0 := Try.sizeOf0
  v0 := Try.zeroValue0
  t4 := Try.underlying4
  a4 := Try.isAgg4
  z4 := Try.sizeOf4
  v4 := Try.zeroValue4
  t23 := Try.underlying58
  a23 := Try.isAgg58
  z23 := Try.sizeOf58
  v23 := Try.zeroValue58
  t26 := Try.underlying3
  a26 := Try.isAgg3
  z26 := Try.sizeOf3
  v26 := Try.zeroValue3
  t27 := Try.underlying61
  a27 := Try.isAgg61
  z27 := Try.sizeOf61
  v27 := Try.zeroValue61
  t28 := Try.underlying62
  a28 := Try.isAgg62
  z28 := Try.sizeOf62
  v28 := Try.zeroValue62
  t33 := Try.underlying47
  a33 := Try.isAgg47
  z33 := Try.sizeOf47
  v33 := Try.zeroValue47 }
def Try.sortedA_ren : Go.Shelf.Ren := ⟨fun | 6 => 24 | 8 => 47 | 9 => 42 | 11 => 67 | 13 => 64 | 12 => 63 | 23 => 83 | 24 => 84 | 14 => 74 | 15 => 75 | 16 => 76 | 17 => 77 | 18 => 78 | 19 => 79 | 20 => 80 | 21 => 81 | 22 => 82 | 25 => 94 | 26 => 95 | 27 => 96 | 28 => 97 | 29 => 98 | 30 => 60 | 31 => 103 | n => n, fun | 26 => 3 | 28 => 62 | 24 => 22 | 0 => 0 | 3 => 3 | 37 => 98 | 48 => 113 | 50 => 115 | 4 => 4 | 40 => 106 | 39 => 105 | 45 => 38 | 5 => 5 | 9 => 9 | 51 => 121 | 55 => 125 | 57 => 130 | 58 => 131 | 33 => 47 | n => n, fun | n => n⟩
theorem Try.sortedA : Go.Proofs.SlLaysZI.n6 Try.prog Try.sortedA_ren := {
  mixed := by kernel_rfl
  f6 := ⟨Try.f24.name, by decide, Try.func24.trans (congrArg some (by kernel_rfl))⟩
  f8 := ⟨Try.f47.name, by decide, Try.func47.trans (congrArg some (by kernel_rfl))⟩
  f11 := ⟨Try.f67.name, by decide, Try.func67.trans (congrArg some (by kernel_rfl))⟩
  t0 := Try.underlying0
  a0 := Try.isAgg0
  z0 := Try.sizeOf0
  v0 := Try.zeroValue0
  t24 := Try.underlying22
  a24 := Try.isAgg22
  z24 := Try.sizeOf22
  v24 := Try.zeroValue22
  t26 := Try.underlying3
  a26 := Try.isAgg3
  z26 := Try.sizeOf3
  v26 := Try.zeroValue3
  t28 := Try.underlying62
  a28 := Try.isAgg62
  z28 := Try.sizeOf62
  v28 := Try.zeroValue62
  i26 := by kernel_rfl }
def Try.keysB_ren : Go.Shelf.Ren := ⟨fun | 7 => 40 | 10 => 61 | n => n, fun | 23 => 49 | 26 => 3 | 3 => 4 | 28 => 62 | 0 => 0 | 27 => 61 | 33 => 47 | 4 => 4 | n => n, fun | n => n⟩
theorem Try.keysB : Go.Proofs.SlLaysZI.n7 Try.prog Try.keysB_ren := {
  mixed := by kernel_rfl
  f7 := ⟨Try.f40.name, by decide, Try.func40.trans (congrArg some (by kernel_rfl))⟩
  f10 := ⟨Try.f61.name, by decide, Try.func61.trans (congrArg some (by kernel_rfl))⟩
  t0 := Try.underlying0
  a0 := Try.isAgg0
  z0 := Try.sizeOf0
  v0 := Try.zeroValue0
  t4 := Try.underlying4
  a4 := Try.isAgg4
  z4 := Try.sizeOf4
  v4 := Try.zeroValue4
  t23 := Try.underlying49
  a23 := Try.isAgg49
  z23 := Try.sizeOf49
  v23 := Try.zeroValue49
  t26 := Try.underlying3
  a26 := Try.isAgg3
  z26 := Try.sizeOf3
  v26 := Try.zeroValue3
  t27 := Try.underlying61
  a27 := Try.isAgg61
  z27 := Try.sizeOf61
  v27 := Try.zeroValue61
  t28 := Try.underlying62
  a28 := Try.isAgg62
  z28 := Try.sizeOf62
  v28 := Try.zeroValue62
  t33 := Try.underlying47
  a33 := Try.isAgg47
  z33 := Try.sizeOf47
  v33 := Try.zeroValue47 }
def Try.collA_ren : Go.Shelf.Ren := ⟨fun | 8 => 47 | 11 => 67 | n => n, fun | 26 => 3 | 28 => 62 | 24 => 22 | 0 => 0 | 33 => 47 | 4 => 4 | n => n, fun | n => n⟩
theorem Try.collA : Go.Proofs.SlLaysZI.n8 Try.prog Try.collA_ren := {
  mixed := by kernel_rfl
  f8 := ⟨Try.f47.name, by decide, Try.func47.trans (congrArg some (by kernel_rfl))⟩
  f11 := ⟨Try.f67.name, by decide, Try.func67.trans (congrArg some (by kernel_rfl))⟩
  t0 := Try.underlying0
  a0 := Try.isAgg0
  z0 := Try.sizeOf0
  v0 := Try.zeroValue0
  t24 := Try.underlying22
  a24 := Try.isAgg22
  z24 := Try.sizeOf22
  v24 := Try.zeroValue22
  t26 := Try.underlying3
  a26 := Try.isAgg3
  z26 := Try.sizeOf3
  v26 := Try.zeroValue3
  t28 := Try.underlying62
  a28 := Try.isAgg62
  z28 := Try.sizeOf62
  v28 := Try.zeroValue62
  i26 := by kernel_rfl }
end Go.Proofs
