/- Contracts of library functions, laid for this translation. Conditions: none. -/
import Derived.Shelf.Small.Bits
import Derived.Shelf.Small.Wraps
import Derived.Shelf.Strconv.Itoa0
import Derived.Shelf.Sort.Plain
import Derived.Shelf.Bits.Mul64
import Derived.Shelf.Slices.Turned
import Derived.Shelf.Slices.Reverse
import Derived.Ground.Names2Prog
import Derived.Shelf.Slices.Clone
import Derived.Shelf.Slices.CompactI
import Derived.Shelf.Slices.SearchI
import Derived.Shelf.Slices.Cells
import Derived.Shelf.Slices.In.SortNone
import Derived.Ground.SlgnProg
import Derived.Shelf.SlicesE.Reverse
import Derived.Shelf.SlicesE.Clone
import Derived.Test.YthpiljonjcfgcaaGreatProg
set_option linter.unusedSimpArgs false
set_option linter.unusedVariables false
namespace Go.Proofs
open Go.Shelf
def Tryz.lays189_ren:Go.Shelf.Ren:=⟨fun |189=>70 |125=>83 |257=>82 |128=>100 |129=>101 |294=>91 |295=>92 |296=>93 |297=>94 |298=>95 |299=>96 |216=>97 |300=>98 |301=>99 |328=>103 |329=>104 |330=>105 |331=>106 |332=>107 |215=>108 |343=>109 |n=>n,fun |28=>22 |3=>3 |46=>116 |0=>0 |51=>125 |53=>72 |4=>4 |183=>132 |182=>131 |131=>53 |5=>5 |9=>9 |218=>140 |222=>144 |228=>146 |229=>147 |n=>n,fun |n=>n⟩
theorem Tryz.lays189:Go.Proofs.Lays.n189 Tryz.prog Tryz.lays189_ren:={
 mixed:=by kernel_rfl
 f125:=Tryz.func83.trans (congrArg some (by kernel_rfl))
 f128:=Tryz.func100.trans (congrArg some (by kernel_rfl))
 f129:=Tryz.func101.trans (congrArg some (by kernel_rfl))
 f189:=Tryz.func70.trans (congrArg some (by kernel_rfl))
 f215:=Tryz.func108.trans (congrArg some (by kernel_rfl))
 f216:=Tryz.func97.trans (congrArg some (by kernel_rfl))
 f257:=Tryz.func82.trans (congrArg some (by kernel_rfl))
 f294:=Tryz.func91.trans (congrArg some (by kernel_rfl))
 f295:=Tryz.func92.trans (congrArg some (by kernel_rfl))
 f296:=Tryz.func93.trans (congrArg some (by kernel_rfl))
 f297:=Tryz.func94.trans (congrArg some (by kernel_rfl))
 f298:=Tryz.func95.trans (congrArg some (by kernel_rfl))
 f299:=Tryz.func96.trans (congrArg some (by kernel_rfl))
 f300:=Tryz.func98.trans (congrArg some (by kernel_rfl))
 f301:=Tryz.func99.trans (congrArg some (by kernel_rfl))
 f328:=Tryz.func103.trans (congrArg some (by kernel_rfl))
 f329:=Tryz.func104.trans (congrArg some (by kernel_rfl))
 f330:=Tryz.func105.trans (congrArg some (by kernel_rfl))
 f331:=Tryz.func106.trans (congrArg some (by kernel_rfl))
 f332:=Tryz.func107.trans (congrArg some (by kernel_rfl))
 f343:=Tryz.func109.trans (congrArg some (by kernel_rfl))
 t0:=Tryz.underlying0
 a0:=Tryz.isAgg0
 z0:=Tryz.sizeOf0
 v0:=Tryz.zeroValue0
 t3:=Tryz.underlying3
 a3:=Tryz.isAgg3
 z3:=Tryz.sizeOf3
 v3:=Tryz.zeroValue3
 t4:=Tryz.underlying4
 a4:=Tryz.isAgg4
 z4:=Tryz.sizeOf4
 v4:=Tryz.zeroValue4
 t5:=Tryz.underlying5
 a5:=Tryz.isAgg5
 z5:=Tryz.sizeOf5
 v5:=Tryz.zeroValue5
 t9:=Tryz.underlying9
 a9:=Tryz.isAgg9
 z9:=Tryz.sizeOf9
 v9:=Tryz.zeroValue9
 t28:=Tryz.underlying22
 a28:=Tryz.isAgg22
 z28:=Tryz.sizeOf22
 v28:=Tryz.zeroValue22
 t46:=Tryz.underlying116
 a46:=Tryz.isAgg116
 z46:=Tryz.sizeOf116
 v46:=Tryz.zeroValue116
 t51:=Tryz.underlying125
 a51:=Tryz.isAgg125
 z51:=Tryz.sizeOf125
 v51:=Tryz.zeroValue125
 t53:=Tryz.underlying72
 a53:=Tryz.isAgg72
 z53:=Tryz.sizeOf72
 v53:=Tryz.zeroValue72
 t131:=Tryz.underlying53
 a131:=Tryz.isAgg53
 z131:=Tryz.sizeOf53
 v131:=Tryz.zeroValue53
 t182:=Tryz.underlying131
 a182:=Tryz.isAgg131
 z182:=Tryz.sizeOf131
 v182:=Tryz.zeroValue131
 t183:=Tryz.underlying132
 a183:=Tryz.isAgg132
 z183:=Tryz.sizeOf132
 v183:=Tryz.zeroValue132
 t218:=Tryz.underlying140
 a218:=Tryz.isAgg140
 z218:=Tryz.sizeOf140
 v218:=Tryz.zeroValue140
 t222:=Tryz.underlying144
 a222:=Tryz.isAgg144
 z222:=Tryz.sizeOf144
 v222:=Tryz.zeroValue144
 t228:=Tryz.underlying146
 a228:=Tryz.isAgg146
 z228:=Tryz.sizeOf146
 v228:=Tryz.zeroValue146
 t229:=Tryz.underlying147
 a229:=Tryz.isAgg147
 z229:=Tryz.sizeOf147
 v229:=Tryz.zeroValue147 }
open Go.Sort Go.RowKit in
theorem Tryz.slices_Sort_int (blk off cap:Nat) (zs:List Int) (w:World) (hH:Holds (Value.int .i64) w blk off zs.toArray) (hblk:blk < w.heap.size) (hsz:zs.length < 4611686018427387904):
  Calls Tryz.prog 70 #[.slice (some ⟨blk,off,none⟩) zs.length cap] w fun e w'=>
   e=.returned (.tuple #[])∧∃n os,w'=grow (putRow (Value.int .i64) (Sort.ahead w n) blk off (zs.mergeSort fun x y=>decide (x≤y)).toArray) os:=Any.slices_Sort_int Tryz.lays189 blk off cap zs w hH hblk hsz
def Tryz.laysNm220_ren:Go.Shelf.Ren:=⟨fun |20=>85 |n=>n,fun |22=>22 |3=>3 |4=>4 |0=>0 |n=>n,fun |n=>n⟩
theorem Tryz.laysNm220:Go.Proofs.Lays2.n20 Tryz.prog Tryz.laysNm220_ren:={
 mixed:=by kernel_rfl
 f20:=Tryz.func85.trans (congrArg some (by kernel_rfl))
 t0:=Tryz.underlying0
 a0:=Tryz.isAgg0
 z0:=Tryz.sizeOf0
 v0:=Tryz.zeroValue0
 t3:=Tryz.underlying3
 a3:=Tryz.isAgg3
 z3:=Tryz.sizeOf3
 v3:=Tryz.zeroValue3
 t4:=Tryz.underlying4
 a4:=Tryz.isAgg4
 z4:=Tryz.sizeOf4
 v4:=Tryz.zeroValue4
 t22:=Tryz.underlying22
 a22:=Tryz.isAgg22
 z22:=Tryz.sizeOf22
 v22:=Tryz.zeroValue22
 i3:=by kernel_rfl }
open Go.RowKit Go.Lib Go.Sort in
/-- slices.Compact at []int: "Compact replaces consecutive runs of equal elements with a single copy. This is like the uniq command found on Unix. Compact modifies the contents of the slice s and returns the modified slice, which may have a smaller length. Compact zeroes the elements between the new length and the original length. The result preserves the nilness of s.": IT RETURNS THE SLICE CUT TO 'Lib.compact zs'; ITS CELLS HOLD 'Lib.compact zs', THEN ZERO VALUES up to the old length; all else is as it was, but for the count of draws. IN THE WORDS OF slices.Sort's CONTRACT ('Holds', 'putRow'): so the everyday 'slices.Sort(xs); xs = slices.Compact(xs)' goes from the one contract to the other. It asks 'zs.length ≤ cap' (every slice's: the reslicing 's[:k]' looks at it). Length 0, nil: '.._empty'. (LAID: no walk: one application.) -/
theorem Tryz.slices_Compact_int (blk off cap:Nat) (zs:List Int) (w:World) (hH:Holds (Value.int .i64) w blk off zs.toArray) (hsz:zs.length≤9223372036854775807) (hcap:zs.length≤cap):
  Calls Tryz.prog 85 #[.slice (some ⟨blk,off,none⟩) zs.length cap] w fun e w'=>e=.returned (.slice (some ⟨blk,off,none⟩) (Lib.compact zs).length cap)∧∃q,w'=putRow (Value.int .i64) (Sort.ahead w q) blk off (Lib.compact zs++List.replicate (zs.length - (Lib.compact zs).length) 0).toArray:=Any.slices_Compact_int Tryz.laysNm220 blk off cap zs w hH hsz hcap
open Go.RowKit Go.Lib Go.Sort in
/-- The same at a slice of length 0, a nil one too: it comes back as it is. (LAID: no walk: one application.) -/
theorem Tryz.slices_Compact_int_empty (a:Option Addr) (cap:Nat) (w:World):
  Calls Tryz.prog 85 #[.slice a 0 cap] w fun e w'=>e=.returned (.slice a 0 cap)∧w'=w:=Any.slices_Compact_int_empty Tryz.laysNm220 a cap w
open Go.RowKit Go.Sort in
/-- .. and plain. (LAID: no walk: one application.) -/
theorem Tryz.slices_Sort_int_none (p:Option Addr) (cap:Nat) (w:World):
  Calls Tryz.prog 70 #[.slice p 0 cap] w fun e w'=>e=.returned (.tuple #[])∧w'=w:=Any.slices_Sort_int_none Tryz.lays189 p cap w
end Go.Proofs
