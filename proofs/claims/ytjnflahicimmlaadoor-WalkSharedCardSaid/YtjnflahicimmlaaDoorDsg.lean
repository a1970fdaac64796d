/- Contracts of library functions, laid for this translation. Conditions: none. -/
import Derived.Shelf.SlSortCmp.NoneTotal
import Derived.Test.YtjnflahicimmlaaDoorProg
set_option linter.unusedSimpArgs false
set_option linter.unusedVariables false
namespace Go.Proofs
open Go.Shelf
def Tryd.sort35_ren : Go.Shelf.Ren := ⟨fun | 6 => 35 | 15 => 53 | 14 => 52 | 28 => 69 | 29 => 70 | 20 => 61 | 21 => 62 | 22 => 63 | 23 => 64 | 24 => 65 | 25 => 66 | 26 => 67 | 27 => 68 | 46 => 76 | 47 => 77 | 48 => 78 | 49 => 79 | 50 => 80 | 57 => 86 | n => n, fun | 22 => 23 | 24 => 28 | 25 => 80 | 3 => 3 | 39 => 36 | 0 => 0 | 53 => 106 | 55 => 108 | 4 => 4 | 46 => 99 | 45 => 98 | 50 => 103 | 5 => 5 | 9 => 9 | 66 => 114 | 70 => 118 | 76 => 124 | 77 => 125 | n => n, fun | n => n⟩
theorem Tryd.sort35 : Go.Proofs.SlLaysF0.n6 Tryd.prog Tryd.sort35_ren := {
  mixed := by kernel_rfl
  f6 := ⟨Tryd.f35.name, by decide, Tryd.func35.trans (congrArg some (by kernel_rfl))⟩
  f14 := ⟨Tryd.f52.name, by decide, Tryd.func52.trans (congrArg some (by kernel_rfl))⟩
  f15 := Tryd.func53.trans (congrArg some (by kernel_rfl))
  f20 := ⟨Tryd.f61.name, by decide, Tryd.func61.trans (congrArg some (by kernel_rfl))⟩
  f21 := ⟨Tryd.f62.name, by decide, Tryd.func62.trans (congrArg some (by kernel_rfl))⟩
  f22 := ⟨Tryd.f63.name, by decide, Tryd.func63.trans (congrArg some (by kernel_rfl))⟩
  f23 := ⟨Tryd.f64.name, by decide, Tryd.func64.trans (congrArg some (by kernel_rfl))⟩
  f24 := ⟨Tryd.f65.name, by decide, Tryd.func65.trans (congrArg some (by kernel_rfl))⟩
  f25 := ⟨Tryd.f66.name, by decide, Tryd.func66.trans (congrArg some (by kernel_rfl))⟩
  f26 := ⟨Tryd.f67.name, by decide, Tryd.func67.trans (congrArg some (by kernel_rfl))⟩
  f27 := ⟨Tryd.f68.name, by decide, Tryd.func68.trans (congrArg some (by kernel_rfl))⟩
  f28 := Tryd.func69.trans (congrArg some (by kernel_rfl))
  f29 := Tryd.func70.trans (congrArg some (by kernel_rfl))
  f46 := ⟨Tryd.f76.name, by decide, Tryd.func76.trans (congrArg some (by kernel_rfl))⟩
  f47 := Tryd.func77.trans (congrArg some (by kernel_rfl))
  f48 := Tryd.func78.trans (congrArg some (by kernel_rfl))
  f49 := ⟨Tryd.f79.name, by decide, Tryd.func79.trans (congrArg some (by kernel_rfl))⟩
  f50 := ⟨Tryd.f80.name, by decide, Tryd.func80.trans (congrArg some (by kernel_rfl))⟩
  f57 := ⟨Tryd.f86.name, by decide, Tryd.func86.trans (congrArg some (by kernel_rfl))⟩
  t0 := Tryd.underlying0
  a0 := Tryd.isAgg0
  z0 := Tryd.sizeOf0
  v0 := Tryd.zeroValue0
  t3 := Tryd.underlying3
  a3 := Tryd.isAgg3
  z3 := Tryd.sizeOf3
  v3 := Tryd.zeroValue3
  t4 := Tryd.underlying4
  a4 := Tryd.isAgg4
  z4 := Tryd.sizeOf4
  v4 := Tryd.zeroValue4
  t5 := Tryd.underlying5
  a5 := Tryd.isAgg5
  z5 := Tryd.sizeOf5
  v5 := Tryd.zeroValue5
  t9 := Tryd.underlying9
  a9 := Tryd.isAgg9
  z9 := Tryd.sizeOf9
  v9 := Tryd.zeroValue9
  t22 := Tryd.underlying23
  a22 := Tryd.isAgg23
  z22 := Tryd.sizeOf23
  v22 := Tryd.zeroValue23
  t25 := Tryd.underlying80
  a25 := Tryd.isAgg80
  z25 := Tryd.sizeOf80
  v25 := Tryd.zeroValue80
  t39 := Tryd.underlying36
  a39 := Tryd.isAgg36
  z39 := Tryd.sizeOf36
  v39 := Tryd.zeroValue36
  t45 := Tryd.underlying98
  a45 := Tryd.isAgg98
  z45 := Tryd.sizeOf98
  v45 := Tryd.zeroValue98
  t46 := Tryd.underlying99
  a46 := Tryd.isAgg99
  z46 := Tryd.sizeOf99
  v46 := Tryd.zeroValue99
  t50 := Tryd.underlying103
  a50 := Tryd.isAgg103
  z50 := Tryd.sizeOf103
  v50 := Tryd.zeroValue103
  t53 := Tryd.underlying106
  a53 := Tryd.isAgg106
  z53 := Tryd.sizeOf106
  v53 := Tryd.zeroValue106
  t55 := Tryd.underlying108
  a55 := Tryd.isAgg108
  z55 := Tryd.sizeOf108
  v55 := Tryd.zeroValue108
  t66 := Tryd.underlying114
  a66 := Tryd.isAgg114
  z66 := Tryd.sizeOf114
  v66 := Tryd.zeroValue114
  t70 := Tryd.underlying118
  a70 := Tryd.isAgg118
  z70 := Tryd.sizeOf118
  v70 := Tryd.zeroValue118
  t76 := Tryd.underlying124
  a76 := Tryd.isAgg124
  z76 := Tryd.sizeOf124
  v76 := Tryd.zeroValue124
  t77 := Tryd.underlying125
  a77 := Tryd.isAgg125
  z77 := Tryd.sizeOf125
  v77 := Tryd.zeroValue125 }
end Go.Proofs
