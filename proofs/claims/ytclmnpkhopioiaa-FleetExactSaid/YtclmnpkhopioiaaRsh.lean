/- Contracts of library functions, laid for this translation. Conditions: none. -/
import Derived.Shelf.Sort.Plain
import Derived.Shelf.Slices.CompactI
import Derived.Shelf.Slices.In.SortNone
import Derived.Test.YtclmnpkhopioiaaProg
set_option linter.unusedSimpArgs false
set_option linter.unusedVariables false
namespace Go.Proofs
open Go.Shelf
def Try.lays189_ren : Go.Shelf.Ren := ⟨fun | 189 => 76 | 125 => 98 | 257 => 97 | 128 => 119 | 129 => 120 | 294 => 110 | 295 => 111 | 296 => 112 | 297 => 113 | 298 => 114 | 299 => 115 | 216 => 116 | 300 => 117 | 301 => 118 | 328 => 127 | 329 => 128 | 330 => 129 | 331 => 130 | 332 => 131 | 215 => 132 | 343 => 133 | n => n, fun | 28 => 22 | 3 => 3 | 46 => 130 | 0 => 0 | 51 => 151 | 53 => 153 | 4 => 4 | 183 => 143 | 182 => 142 | 131 => 148 | 5 => 5 | 9 => 9 | 218 => 161 | 222 => 165 | 228 => 167 | 229 => 168 | n => n, fun | n => n⟩
theorem Try.lays189 : Go.Proofs.Lays.n189 Try.prog Try.lays189_ren := {
  mixed := by kernel_rfl
  f125 := Try.func98.trans (congrArg some (by kernel_rfl))
  f128 := Try.func119.trans (congrArg some (by kernel_rfl))
  f129 := Try.func120.trans (congrArg some (by kernel_rfl))
  f189 := Try.func76.trans (congrArg some (by kernel_rfl))
  f215 := Try.func132.trans (congrArg some (by kernel_rfl))
  f216 := Try.func116.trans (congrArg some (by kernel_rfl))
  f257 := Try.func97.trans (congrArg some (by kernel_rfl))
  f294 := Try.func110.trans (congrArg some (by kernel_rfl))
  f295 := Try.func111.trans (congrArg some (by kernel_rfl))
  f296 := Try.func112.trans (congrArg some (by kernel_rfl))
  f297 := Try.func113.trans (congrArg some (by kernel_rfl))
  f298 := Try.func114.trans (congrArg some (by kernel_rfl))
  f299 := Try.func115.trans (congrArg some (by kernel_rfl))
  f300 := Try.func117.trans (congrArg some (by kernel_rfl))
  f301 := Try.func118.trans (congrArg some (by kernel_rfl))
  f328 := Try.func127.trans (congrArg some (by kernel_rfl))
  f329 := Try.func128.trans (congrArg some (by kernel_rfl))
  f330 := Try.func129.trans (congrArg some (by kernel_rfl))
  f331 := Try.func130.trans (congrArg some (by kernel_rfl))
  f332 := Try.func131.trans (congrArg some (by kernel_rfl))
  f343 := Try.func133.trans (congrArg some (by kernel_rfl))
  t0 := Try.underlying0
  a0 := Try.isAgg0
  z0 := Try.sizeOf0
  v0 := Try.zeroValue0
  t3 := Try.underlying3
  a3 := Try.isAgg3
  z3 := Try.sizeOf3
  v3 := Try.zeroValue3
  t4 := Try.underlying4
  a4 := Try.isAgg4
  z4 := Try.sizeOf4
  v4 := Try.zeroValue4
  t5 := Try.underlying5
  a5 := Try.isAgg5
  z5 := Try.sizeOf5
  v5 := Try.zeroValue5
  t9 := Try.underlying9
  a9 := Try.isAgg9
  z9 := Try.sizeOf9
  v9 := Try.zeroValue9
  t28 := Try.underlying22
  a28 := Try.isAgg22
  z28 := Try.sizeOf22
  v28 := Try.zeroValue22
  t46 := Try.underlying130
  a46 := Try.isAgg130
  z46 := Try.sizeOf130
  v46 := Try.zeroValue130
  t51 := Try.underlying151
  a51 := Try.isAgg151
  z51 := Try.sizeOf151
  v51 := Try.zeroValue151
  t53 := Try.underlying153
  a53 := Try.isAgg153
  z53 := Try.sizeOf153
  v53 := Try.zeroValue153
  t131 := Try.underlying148
  a131 := Try.isAgg148
  z131 := Try.sizeOf148
  v131 := Try.zeroValue148
  t182 := Try.underlying142
  a182 := Try.isAgg142
  z182 := Try.sizeOf142
  v182 := Try.zeroValue142
  t183 := Try.underlying143
  a183 := Try.isAgg143
  z183 := Try.sizeOf143
  v183 := Try.zeroValue143
  t218 := Try.underlying161
  a218 := Try.isAgg161
  z218 := Try.sizeOf161
  v218 := Try.zeroValue161
  t222 := Try.underlying165
  a222 := Try.isAgg165
  z222 := Try.sizeOf165
  v222 := Try.zeroValue165
  t228 := Try.underlying167
  a228 := Try.isAgg167
  z228 := Try.sizeOf167
  v228 := Try.zeroValue167
  t229 := Try.underlying168
  a229 := Try.isAgg168
  z229 := Try.sizeOf168
  v229 := Try.zeroValue168 }
open Go.Sort Go.RowKit in
theorem Try.slices_Sort_int (blk off cap : Nat) (zs : List Int) (w : World) (hH : Holds (Value.int .i64) w blk off zs.toArray) (hblk : blk < w.heap.size) (hsz : zs.length < 4611686018427387904) :
    Calls Try.prog 76 #[.slice (some ⟨blk, off, none⟩) zs.length cap] w fun e w' =>
      e = .returned (.tuple #[]) ∧ ∃ n os, w' = grow (putRow (Value.int .i64) (Sort.ahead w n) blk off (zs.mergeSort fun x y => decide (x ≤ y)).toArray) os := Any.slices_Sort_int Try.lays189 blk off cap zs w hH hblk hsz
def Try.laysNm220_ren : Go.Shelf.Ren := ⟨fun | 20 => 77 | n => n, fun | 22 => 22 | 3 => 3 | 4 => 4 | 0 => 0 | n => n, fun | n => n⟩
theorem Try.laysNm220 : Go.Proofs.Lays2.n20 Try.prog Try.laysNm220_ren := {
  mixed := by kernel_rfl
  f20 := Try.func77.trans (congrArg some (by kernel_rfl))
  t0 := Try.underlying0
  a0 := Try.isAgg0
  z0 := Try.sizeOf0
  v0 := Try.zeroValue0
  t3 := Try.underlying3
  a3 := Try.isAgg3
  z3 := Try.sizeOf3
  v3 := Try.zeroValue3
  t4 := Try.underlying4
  a4 := Try.isAgg4
  z4 := Try.sizeOf4
  v4 := Try.zeroValue4
  t22 := Try.underlying22
  a22 := Try.isAgg22
  z22 := Try.sizeOf22
  v22 := Try.zeroValue22
  i3 := by kernel_rfl }
open Go.RowKit Go.Lib Go.Sort in
/-- slices.Compact at []int: "Compact replaces consecutive runs of equal elements with a single copy. This is like the uniq command found on Unix. Compact modifies the contents of the slice s and returns the modified slice, which may have a smaller length. Compact zeroes the elements between the new length and the original length. The result preserves the nilness of s.": IT RETURNS THE SLICE CUT TO 'Lib.compact zs'; ITS CELLS HOLD 'Lib.compact zs', THEN ZERO VALUES up to the old length; all else is as it was, but for the count of draws. IN THE WORDS OF slices.Sort's CONTRACT ('Holds', 'putRow'): so the everyday 'slices.Sort(xs); xs = slices.Compact(xs)' goes from the one contract to the other. It asks 'zs.length ≤ cap' (every slice's: the reslicing 's[:k]' looks at it). Length 0, nil: '.._empty'. (LAID: no walk: one application.) -/
theorem Try.slices_Compact_int (blk off cap : Nat) (zs : List Int) (w : World) (hH : Holds (Value.int .i64) w blk off zs.toArray) (hsz : zs.length ≤ 9223372036854775807) (hcap : zs.length ≤ cap) :
    Calls Try.prog 77 #[.slice (some ⟨blk, off, none⟩) zs.length cap] w fun e w' => e = .returned (.slice (some ⟨blk, off, none⟩) (Lib.compact zs).length cap) ∧ ∃ q, w' = putRow (Value.int .i64) (Sort.ahead w q) blk off (Lib.compact zs ++ List.replicate (zs.length - (Lib.compact zs).length) 0).toArray := Any.slices_Compact_int Try.laysNm220 blk off cap zs w hH hsz hcap
open Go.RowKit Go.Lib Go.Sort in
/-- The same at a slice of length 0, a nil one too: it comes back as it is. (LAID: no walk: one application.) -/
theorem Try.slices_Compact_int_empty (a : Option Addr) (cap : Nat) (w : World) :
    Calls Try.prog 77 #[.slice a 0 cap] w fun e w' => e = .returned (.slice a 0 cap) ∧ w' = w := Any.slices_Compact_int_empty Try.laysNm220 a cap w
open Go.RowKit Go.Sort in
/-- .. and plain. (LAID: no walk: one application.) -/
theorem Try.slices_Sort_int_none (p : Option Addr) (cap : Nat) (w : World) :
    Calls Try.prog 76 #[.slice p 0 cap] w fun e w' => e = .returned (.tuple #[]) ∧ w' = w := Any.slices_Sort_int_none Try.lays189 p cap w
end Go.Proofs
