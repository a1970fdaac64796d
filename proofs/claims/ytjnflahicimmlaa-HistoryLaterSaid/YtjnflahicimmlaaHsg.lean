/- Contracts of library functions, laid for this translation. Conditions: none. -/
import Derived.Shelf.SlSortCmp.NoneTotal
import Derived.Test.YtjnflahicimmlaaProg
set_option linter.unusedSimpArgs false
set_option linter.unusedVariables false
namespace Go.Proofs
open Go.Shelf
def Try.sort44_ren : Go.Shelf.Ren := ⟨fun | 6 => 44 | 15 => 64 | 14 => 65 | 28 => 83 | 29 => 84 | 20 => 85 | 21 => 86 | 22 => 87 | 23 => 88 | 24 => 89 | 25 => 90 | 26 => 91 | 27 => 92 | 46 => 99 | 47 => 95 | 48 => 96 | 49 => 100 | 50 => 101 | 57 => 104 | n => n, fun | 22 => 34 | 24 => 43 | 25 => 85 | 3 => 3 | 39 => 98 | 0 => 0 | 53 => 113 | 55 => 115 | 4 => 4 | 46 => 106 | 45 => 105 | 50 => 38 | 5 => 5 | 9 => 9 | 66 => 121 | 70 => 125 | 76 => 130 | 77 => 131 | n => n, fun | n => n⟩
theorem Try.sort44 : Go.Proofs.SlLaysF0.n6 Try.prog Try.sort44_ren := {
  mixed := by kernel_rfl
  f6 := ⟨Try.f44.name, by decide, Try.func44.trans (congrArg some (by kernel_rfl))⟩
  f14 := ⟨Try.f65.name, by decide, Try.func65.trans (congrArg some (by kernel_rfl))⟩
  f15 := Try.func64.trans (congrArg some (by kernel_rfl))
  f20 := ⟨Try.f85.name, by decide, Try.func85.trans (congrArg some (by kernel_rfl))⟩
  f21 := ⟨Try.f86.name, by decide, Try.func86.trans (congrArg some (by kernel_rfl))⟩
  f22 := ⟨Try.f87.name, by decide, Try.func87.trans (congrArg some (by kernel_rfl))⟩
  f23 := ⟨Try.f88.name, by decide, Try.func88.trans (congrArg some (by kernel_rfl))⟩
  f24 := ⟨Try.f89.name, by decide, Try.func89.trans (congrArg some (by kernel_rfl))⟩
  f25 := ⟨Try.f90.name, by decide, Try.func90.trans (congrArg some (by kernel_rfl))⟩
  f26 := ⟨Try.f91.name, by decide, Try.func91.trans (congrArg some (by kernel_rfl))⟩
  f27 := ⟨Try.f92.name, by decide, Try.func92.trans (congrArg some (by kernel_rfl))⟩
  f28 := Try.func83.trans (congrArg some (by kernel_rfl))
  f29 := Try.func84.trans (congrArg some (by kernel_rfl))
  f46 := ⟨Try.f99.name, by decide, Try.func99.trans (congrArg some (by kernel_rfl))⟩
  f47 := Try.func95.trans (congrArg some (by kernel_rfl))
  f48 := Try.func96.trans (congrArg some (by kernel_rfl))
  f49 := ⟨Try.f100.name, by decide, Try.func100.trans (congrArg some (by kernel_rfl))⟩
  f50 := ⟨Try.f101.name, by decide, Try.func101.trans (congrArg some (by kernel_rfl))⟩
  f57 := ⟨Try.f104.name, by decide, Try.func104.trans (congrArg some (by kernel_rfl))⟩
  t0 := Try.underlying0
  a0 := Try.isAgg0
  z0 := Try.sizeOf0
  v0 := Try.zeroValue0
  t3 := Try.underlying3
  a3 := Try.isAgg3
  z3 := Try.sizeOf3
  v3 := Try.zeroValue3
  t4 := Try.underlying4
  a4 := Try.isAgg4
  z4 := Try.sizeOf4
  v4 := Try.zeroValue4
  t5 := Try.underlying5
  a5 := Try.isAgg5
  z5 := Try.sizeOf5
  v5 := Try.zeroValue5
  t9 := Try.underlying9
  a9 := Try.isAgg9
  z9 := Try.sizeOf9
  v9 := Try.zeroValue9
  t22 := Try.underlying34
  a22 := Try.isAgg34
  z22 := Try.sizeOf34
  v22 := Try.zeroValue34
  t25 := Try.underlying85
  a25 := Try.isAgg85
  z25 := Try.sizeOf85
  v25 := Try.zeroValue85
  t39 := Try.underlying98
  a39 := Try.isAgg98
  z39 := Try.sizeOf98
  v39 := Try.zeroValue98
  t45 := Try.underlying105
  a45 := Try.isAgg105
  z45 := Try.sizeOf105
  v45 := Try.zeroValue105
  t46 := Try.underlying106
  a46 := Try.isAgg106
  z46 := Try.sizeOf106
  v46 := Try.zeroValue106
  t50 := Try.underlying38
  a50 := Try.isAgg38
  z50 := Try.sizeOf38
  v50 := Try.zeroValue38
  t53 := Try.underlying113
  a53 := Try.isAgg113
  z53 := Try.sizeOf113
  v53 := Try.zeroValue113
  t55 := Try.underlying115
  a55 := Try.isAgg115
  z55 := Try.sizeOf115
  v55 := Try.zeroValue115
  t66 := Try.underlying121
  a66 := Try.isAgg121
  z66 := Try.sizeOf121
  v66 := Try.zeroValue121
  t70 := Try.underlying125
  a70 := Try.isAgg125
  z70 := Try.sizeOf125
  v70 := Try.zeroValue125
  t76 := Try.underlying130
  a76 := Try.isAgg130
  z76 := Try.sizeOf130
  v76 := Try.zeroValue130
  t77 := Try.underlying131
  a77 := Try.isAgg131
  z77 := Try.sizeOf131
  v77 := Try.zeroValue131 }
end Go.Proofs
