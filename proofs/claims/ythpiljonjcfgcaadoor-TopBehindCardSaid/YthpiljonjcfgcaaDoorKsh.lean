/- Contracts of library functions, laid for this translation. Conditions: none. -/
import Derived.Shelf.Small.Bits
import Derived.Shelf.Small.Wraps
import Derived.Shelf.Strconv.Itoa0
import Derived.Shelf.Sort.Plain
import Derived.Shelf.Slices.Turned
import Derived.Ground.Names2Prog
import Derived.Shelf.Slices.CompactI
import Derived.Shelf.Slices.SearchI
import Derived.Shelf.Slices.Cells
import Derived.Shelf.Slices.In.SortNone
import Derived.Test.YthpiljonjcfgcaaDoorProg
set_option linter.unusedSimpArgs false
set_option linter.unusedVariables false
namespace Go.Proofs
open Go.Shelf
def Tryd.lays189_ren:Go.Shelf.Ren:=⟨fun |189=>36 |125=>51 |257=>50 |128=>72 |129=>73 |294=>63 |295=>64 |296=>65 |297=>66 |298=>67 |299=>68 |216=>69 |300=>70 |301=>71 |328=>84 |329=>85 |330=>86 |331=>87 |332=>88 |215=>89 |343=>96 |n=>n,fun |28=>22 |3=>3 |46=>105 |0=>0 |51=>125 |53=>127 |4=>4 |183=>118 |182=>117 |131=>82 |5=>5 |9=>9 |218=>139 |222=>143 |228=>148 |229=>149 |n=>n,fun |n=>n⟩
theorem Tryd.lays189:Go.Proofs.Lays.n189 Tryd.prog Tryd.lays189_ren:={
 mixed:=by kernel_rfl
 f125:=Tryd.func51.trans (congrArg some (by kernel_rfl))
 f128:=Tryd.func72.trans (congrArg some (by kernel_rfl))
 f129:=Tryd.func73.trans (congrArg some (by kernel_rfl))
 f189:=Tryd.func36.trans (congrArg some (by kernel_rfl))
 f215:=Tryd.func89.trans (congrArg some (by kernel_rfl))
 f216:=Tryd.func69.trans (congrArg some (by kernel_rfl))
 f257:=Tryd.func50.trans (congrArg some (by kernel_rfl))
 f294:=Tryd.func63.trans (congrArg some (by kernel_rfl))
 f295:=Tryd.func64.trans (congrArg some (by kernel_rfl))
 f296:=Tryd.func65.trans (congrArg some (by kernel_rfl))
 f297:=Tryd.func66.trans (congrArg some (by kernel_rfl))
 f298:=Tryd.func67.trans (congrArg some (by kernel_rfl))
 f299:=Tryd.func68.trans (congrArg some (by kernel_rfl))
 f300:=Tryd.func70.trans (congrArg some (by kernel_rfl))
 f301:=Tryd.func71.trans (congrArg some (by kernel_rfl))
 f328:=Tryd.func84.trans (congrArg some (by kernel_rfl))
 f329:=Tryd.func85.trans (congrArg some (by kernel_rfl))
 f330:=Tryd.func86.trans (congrArg some (by kernel_rfl))
 f331:=Tryd.func87.trans (congrArg some (by kernel_rfl))
 f332:=Tryd.func88.trans (congrArg some (by kernel_rfl))
 f343:=Tryd.func96.trans (congrArg some (by kernel_rfl))
 t0:=Tryd.underlying0
 a0:=Tryd.isAgg0
 z0:=Tryd.sizeOf0
 v0:=Tryd.zeroValue0
 t3:=Tryd.underlying3
 a3:=Tryd.isAgg3
 z3:=Tryd.sizeOf3
 v3:=Tryd.zeroValue3
 t4:=Tryd.underlying4
 a4:=Tryd.isAgg4
 z4:=Tryd.sizeOf4
 v4:=Tryd.zeroValue4
 t5:=Tryd.underlying5
 a5:=Tryd.isAgg5
 z5:=Tryd.sizeOf5
 v5:=Tryd.zeroValue5
 t9:=Tryd.underlying9
 a9:=Tryd.isAgg9
 z9:=Tryd.sizeOf9
 v9:=Tryd.zeroValue9
 t28:=Tryd.underlying22
 a28:=Tryd.isAgg22
 z28:=Tryd.sizeOf22
 v28:=Tryd.zeroValue22
 t46:=Tryd.underlying105
 a46:=Tryd.isAgg105
 z46:=Tryd.sizeOf105
 v46:=Tryd.zeroValue105
 t51:=Tryd.underlying125
 a51:=Tryd.isAgg125
 z51:=Tryd.sizeOf125
 v51:=Tryd.zeroValue125
 t53:=Tryd.underlying127
 a53:=Tryd.isAgg127
 z53:=Tryd.sizeOf127
 v53:=Tryd.zeroValue127
 t131:=Tryd.underlying82
 a131:=Tryd.isAgg82
 z131:=Tryd.sizeOf82
 v131:=Tryd.zeroValue82
 t182:=Tryd.underlying117
 a182:=Tryd.isAgg117
 z182:=Tryd.sizeOf117
 v182:=Tryd.zeroValue117
 t183:=Tryd.underlying118
 a183:=Tryd.isAgg118
 z183:=Tryd.sizeOf118
 v183:=Tryd.zeroValue118
 t218:=Tryd.underlying139
 a218:=Tryd.isAgg139
 z218:=Tryd.sizeOf139
 v218:=Tryd.zeroValue139
 t222:=Tryd.underlying143
 a222:=Tryd.isAgg143
 z222:=Tryd.sizeOf143
 v222:=Tryd.zeroValue143
 t228:=Tryd.underlying148
 a228:=Tryd.isAgg148
 z228:=Tryd.sizeOf148
 v228:=Tryd.zeroValue148
 t229:=Tryd.underlying149
 a229:=Tryd.isAgg149
 z229:=Tryd.sizeOf149
 v229:=Tryd.zeroValue149 }
open Go.Sort Go.RowKit in
theorem Tryd.slices_Sort_int (blk off cap:Nat) (zs:List Int) (w:World) (hH:Holds (Value.int .i64) w blk off zs.toArray) (hblk:blk < w.heap.size) (hsz:zs.length < 4611686018427387904):
  Calls Tryd.prog 36 #[.slice (some ⟨blk,off,none⟩) zs.length cap] w fun e w'=>
   e=.returned (.tuple #[])∧∃n os,w'=grow (putRow (Value.int .i64) (Sort.ahead w n) blk off (zs.mergeSort fun x y=>decide (x≤y)).toArray) os:=Any.slices_Sort_int Tryd.lays189 blk off cap zs w hH hblk hsz
def Tryd.laysNm220_ren:Go.Shelf.Ren:=⟨fun |20=>59 |n=>n,fun |22=>22 |3=>3 |4=>4 |0=>0 |n=>n,fun |n=>n⟩
theorem Tryd.laysNm220:Go.Proofs.Lays2.n20 Tryd.prog Tryd.laysNm220_ren:={
 mixed:=by kernel_rfl
 f20:=Tryd.func59.trans (congrArg some (by kernel_rfl))
 t0:=Tryd.underlying0
 a0:=Tryd.isAgg0
 z0:=Tryd.sizeOf0
 v0:=Tryd.zeroValue0
 t3:=Tryd.underlying3
 a3:=Tryd.isAgg3
 z3:=Tryd.sizeOf3
 v3:=Tryd.zeroValue3
 t4:=Tryd.underlying4
 a4:=Tryd.isAgg4
 z4:=Tryd.sizeOf4
 v4:=Tryd.zeroValue4
 t22:=Tryd.underlying22
 a22:=Tryd.isAgg22
 z22:=Tryd.sizeOf22
 v22:=Tryd.zeroValue22
 i3:=by kernel_rfl }
open Go.RowKit Go.Lib Go.Sort in
/-- slices.Compact at []int: "Compact replaces consecutive runs of equal elements with a single copy. This is like the uniq command found on Unix. Compact modifies the contents of the slice s and returns the modified slice, which may have a smaller length. Compact zeroes the elements between the new length and the original length. The result preserves the nilness of s.": IT RETURNS THE SLICE CUT TO 'Lib.compact zs'; ITS CELLS HOLD 'Lib.compact zs', THEN ZERO VALUES up to the old length; all else is as it was, but for the count of draws. IN THE WORDS OF slices.Sort's CONTRACT ('Holds', 'putRow'): so the everyday 'slices.Sort(xs); xs = slices.Compact(xs)' goes from the one contract to the other. It asks 'zs.length ≤ cap' (every slice's: the reslicing 's[:k]' looks at it). Length 0, nil: '.._empty'. (LAID: no walk: one application.) -/
theorem Tryd.slices_Compact_int (blk off cap:Nat) (zs:List Int) (w:World) (hH:Holds (Value.int .i64) w blk off zs.toArray) (hsz:zs.length≤9223372036854775807) (hcap:zs.length≤cap):
  Calls Tryd.prog 59 #[.slice (some ⟨blk,off,none⟩) zs.length cap] w fun e w'=>e=.returned (.slice (some ⟨blk,off,none⟩) (Lib.compact zs).length cap)∧∃q,w'=putRow (Value.int .i64) (Sort.ahead w q) blk off (Lib.compact zs++List.replicate (zs.length - (Lib.compact zs).length) 0).toArray:=Any.slices_Compact_int Tryd.laysNm220 blk off cap zs w hH hsz hcap
open Go.RowKit Go.Lib Go.Sort in
/-- The same at a slice of length 0, a nil one too: it comes back as it is. (LAID: no walk: one application.) -/
theorem Tryd.slices_Compact_int_empty (a:Option Addr) (cap:Nat) (w:World):
  Calls Tryd.prog 59 #[.slice a 0 cap] w fun e w'=>e=.returned (.slice a 0 cap)∧w'=w:=Any.slices_Compact_int_empty Tryd.laysNm220 a cap w
open Go.RowKit Go.Sort in
/-- .. and plain. (LAID: no walk: one application.) -/
theorem Tryd.slices_Sort_int_none (p:Option Addr) (cap:Nat) (w:World):
  Calls Tryd.prog 36 #[.slice p 0 cap] w fun e w'=>e=.returned (.tuple #[])∧w'=w:=Any.slices_Sort_int_none Tryd.lays189 p cap w
end Go.Proofs
