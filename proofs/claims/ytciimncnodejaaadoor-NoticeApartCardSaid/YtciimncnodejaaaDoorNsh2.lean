/- Contracts of library functions, laid for this translation. Conditions: none. -/
import Derived.Shelf.Small.Bits
import Derived.Shelf.Strconv.Itoa0
import Derived.Shelf.Sort.Plain
import Derived.Ground.Names2Prog
import Derived.Shelf.Slices.SearchI
import Derived.Shelf.Slices.In.SortNone
import Derived.Shelf.Slices.Empties
import Derived.Test.YtciimncnodejaaaDoorProg
set_option linter.unusedSimpArgs false
set_option linter.unusedVariables false
namespace Go.Proofs
open Go.Shelf
def Tryd.lays189_ren : Go.Shelf.Ren := ⟨fun | 189 => 56 | 125 => 51 | 257 => 78 | 128 => 75 | 129 => 76 | 294 => 87 | 295 => 88 | 296 => 89 | 297 => 90 | 298 => 91 | 299 => 92 | 216 => 93 | 300 => 94 | 301 => 95 | 328 => 98 | 329 => 83 | 330 => 84 | 331 => 99 | 332 => 100 | 215 => 52 | 343 => 101 | n => n, fun | 28 => 22 | 3 => 3 | 46 => 86 | 0 => 0 | 51 => 104 | 53 => 106 | 4 => 4 | 183 => 97 | 182 => 96 | 131 => 101 | 5 => 5 | 9 => 9 | 218 => 111 | 222 => 115 | 228 => 123 | 229 => 124 | n => n, fun | n => n⟩
theorem Tryd.lays189 : Go.Proofs.Lays.n189 Tryd.prog Tryd.lays189_ren := {
  mixed := by kernel_rfl
  f125 := Tryd.func51.trans (congrArg some (by kernel_rfl))
  f128 := Tryd.func75.trans (congrArg some (by kernel_rfl))
  f129 := Tryd.func76.trans (congrArg some (by kernel_rfl))
  f189 := Tryd.func56.trans (congrArg some (by kernel_rfl))
  f215 := Tryd.func52.trans (congrArg some (by kernel_rfl))
  f216 := Tryd.func93.trans (congrArg some (by kernel_rfl))
  f257 := Tryd.func78.trans (congrArg some (by kernel_rfl))
  f294 := Tryd.func87.trans (congrArg some (by kernel_rfl))
  f295 := Tryd.func88.trans (congrArg some (by kernel_rfl))
  f296 := Tryd.func89.trans (congrArg some (by kernel_rfl))
  f297 := Tryd.func90.trans (congrArg some (by kernel_rfl))
  f298 := Tryd.func91.trans (congrArg some (by kernel_rfl))
  f299 := Tryd.func92.trans (congrArg some (by kernel_rfl))
  f300 := Tryd.func94.trans (congrArg some (by kernel_rfl))
  f301 := Tryd.func95.trans (congrArg some (by kernel_rfl))
  f328 := Tryd.func98.trans (congrArg some (by kernel_rfl))
  f329 := Tryd.func83.trans (congrArg some (by kernel_rfl))
  f330 := Tryd.func84.trans (congrArg some (by kernel_rfl))
  f331 := Tryd.func99.trans (congrArg some (by kernel_rfl))
  f332 := Tryd.func100.trans (congrArg some (by kernel_rfl))
  f343 := Tryd.func101.trans (congrArg some (by kernel_rfl))
  t0 := Tryd.underlying0
  a0 := Tryd.isAgg0
  z0 := Tryd.sizeOf0
  v0 := Tryd.zeroValue0
  t3 := Tryd.underlying3
  a3 := Tryd.isAgg3
  z3 := Tryd.sizeOf3
  v3 := Tryd.zeroValue3
  t4 := Tryd.underlying4
  a4 := Tryd.isAgg4
  z4 := Tryd.sizeOf4
  v4 := Tryd.zeroValue4
  t5 := Tryd.underlying5
  a5 := Tryd.isAgg5
  z5 := Tryd.sizeOf5
  v5 := Tryd.zeroValue5
  t9 := Tryd.underlying9
  a9 := Tryd.isAgg9
  z9 := Tryd.sizeOf9
  v9 := Tryd.zeroValue9
  t28 := Tryd.underlying22
  a28 := Tryd.isAgg22
  z28 := Tryd.sizeOf22
  v28 := Tryd.zeroValue22
  t46 := Tryd.underlying86
  a46 := Tryd.isAgg86
  z46 := Tryd.sizeOf86
  v46 := Tryd.zeroValue86
  t51 := Tryd.underlying104
  a51 := Tryd.isAgg104
  z51 := Tryd.sizeOf104
  v51 := Tryd.zeroValue104
  t53 := Tryd.underlying106
  a53 := Tryd.isAgg106
  z53 := Tryd.sizeOf106
  v53 := Tryd.zeroValue106
  t131 := Tryd.underlying101
  a131 := Tryd.isAgg101
  z131 := Tryd.sizeOf101
  v131 := Tryd.zeroValue101
  t182 := Tryd.underlying96
  a182 := Tryd.isAgg96
  z182 := Tryd.sizeOf96
  v182 := Tryd.zeroValue96
  t183 := Tryd.underlying97
  a183 := Tryd.isAgg97
  z183 := Tryd.sizeOf97
  v183 := Tryd.zeroValue97
  t218 := Tryd.underlying111
  a218 := Tryd.isAgg111
  z218 := Tryd.sizeOf111
  v218 := Tryd.zeroValue111
  t222 := Tryd.underlying115
  a222 := Tryd.isAgg115
  z222 := Tryd.sizeOf115
  v222 := Tryd.zeroValue115
  t228 := Tryd.underlying123
  a228 := Tryd.isAgg123
  z228 := Tryd.sizeOf123
  v228 := Tryd.zeroValue123
  t229 := Tryd.underlying124
  a229 := Tryd.isAgg124
  z229 := Tryd.sizeOf124
  v229 := Tryd.zeroValue124 }
open Go.Sort Go.RowKit in
theorem Tryd.slices_Sort_int (blk off cap : Nat) (zs : List Int) (w : World) (hH : Holds (Value.int .i64) w blk off zs.toArray) (hblk : blk < w.heap.size) (hsz : zs.length < 4611686018427387904) :
    Calls Tryd.prog 56 #[.slice (some ⟨blk, off, none⟩) zs.length cap] w fun e w' =>
      e = .returned (.tuple #[]) ∧ ∃ n os, w' = grow (putRow (Value.int .i64) (Sort.ahead w n) blk off (zs.mergeSort fun x y => decide (x ≤ y)).toArray) os := Any.slices_Sort_int Tryd.lays189 blk off cap zs w hH hblk hsz
open Go.RowKit Go.Sort in
/-- .. and plain. (LAID: no walk: one application.) -/
theorem Tryd.slices_Sort_int_none (p : Option Addr) (cap : Nat) (w : World) :
    Calls Tryd.prog 56 #[.slice p 0 cap] w fun e w' => e = .returned (.tuple #[]) ∧ w' = w := Any.slices_Sort_int_none Tryd.lays189 p cap w
end Go.Proofs
