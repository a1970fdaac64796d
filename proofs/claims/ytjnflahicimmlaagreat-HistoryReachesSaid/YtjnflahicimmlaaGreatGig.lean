/- Contracts of library functions, laid for this translation. Conditions: none. -/
import Derived.Shelf.SlIterI.Nil
import Derived.Test.YtjnflahicimmlaaGreatProg
import Derived.Shelf.Small.Bits
import Derived.Shelf.Small.Wraps
import Derived.Shelf.Strconv.Itoa0
import Derived.Shelf.Sort.Plain
import Derived.Shelf.Slices.Turned
import Derived.Shelf.Slices.Clone
import Derived.Shelf.Slices.SearchI
import Derived.Shelf.Slices.In.SortNone
import Derived.Shelf.SlicesE.Clone
set_option linter.unusedSimpArgs false
set_option linter.unusedVariables false
namespace Go.Proofs
open Go.Shelf
def Tryz.sortedA_ren:Go.Shelf.Ren:=⟨fun |6=>46 |8=>84 |9=>59 |11=>101 |13=>87 |12=>92 |23=>110 |24=>111 |14=>113 |15=>114 |16=>115 |17=>116 |18=>117 |19=>118 |20=>119 |21=>120 |22=>121 |25=>128 |26=>124 |27=>125 |28=>129 |29=>130 |30=>74 |31=>133 |n=>n,fun |26=>3 |28=>78 |24=>22 |0=>0 |3=>3 |37=>110 |48=>128 |50=>130 |4=>4 |40=>122 |39=>121 |45=>43 |5=>5 |9=>9 |51=>138 |55=>142 |57=>147 |58=>148 |33=>97 |n=>n,fun |n=>n⟩
theorem Tryz.sortedA:Go.Proofs.SlLaysZI.n6 Tryz.prog Tryz.sortedA_ren:={
 mixed:=by kernel_rfl
 f6:=⟨Tryz.f46.name,by decide,Tryz.func46.trans (congrArg some (by kernel_rfl))⟩
 f8:=⟨Tryz.f84.name,by decide,Tryz.func84.trans (congrArg some (by kernel_rfl))⟩
 f11:=⟨Tryz.f101.name,by decide,Tryz.func101.trans (congrArg some (by kernel_rfl))⟩
 t0:=Tryz.underlying0
 a0:=Tryz.isAgg0
 z0:=Tryz.sizeOf0
 v0:=Tryz.zeroValue0
 t24:=Tryz.underlying22
 a24:=Tryz.isAgg22
 z24:=Tryz.sizeOf22
 v24:=Tryz.zeroValue22
 t26:=Tryz.underlying3
 a26:=Tryz.isAgg3
 z26:=Tryz.sizeOf3
 v26:=Tryz.zeroValue3
 t28:=Tryz.underlying78
 a28:=Tryz.isAgg78
 z28:=Tryz.sizeOf78
 v28:=Tryz.zeroValue78
 i26:=by kernel_rfl }
def Tryz.collA_ren:Go.Shelf.Ren:=⟨fun |8=>84 |11=>101 |n=>n,fun |26=>3 |28=>78 |24=>22 |0=>0 |33=>97 |4=>4 |n=>n,fun |n=>n⟩
theorem Tryz.collA:Go.Proofs.SlLaysZI.n8 Tryz.prog Tryz.collA_ren:={
 mixed:=by kernel_rfl
 f8:=⟨Tryz.f84.name,by decide,Tryz.func84.trans (congrArg some (by kernel_rfl))⟩
 f11:=⟨Tryz.f101.name,by decide,Tryz.func101.trans (congrArg some (by kernel_rfl))⟩
 t0:=Tryz.underlying0
 a0:=Tryz.isAgg0
 z0:=Tryz.sizeOf0
 v0:=Tryz.zeroValue0
 t24:=Tryz.underlying22
 a24:=Tryz.isAgg22
 z24:=Tryz.sizeOf22
 v24:=Tryz.zeroValue22
 t26:=Tryz.underlying3
 a26:=Tryz.isAgg3
 z26:=Tryz.sizeOf3
 v26:=Tryz.zeroValue3
 t28:=Tryz.underlying78
 a28:=Tryz.isAgg78
 z28:=Tryz.sizeOf78
 v28:=Tryz.zeroValue78
 i26:=by kernel_rfl }
end Go.Proofs
namespace Go.Proofs
open Go.Shelf
def Tryz.lays189_ren:Go.Shelf.Ren:=⟨fun |189=>59 |125=>87 |257=>92 |128=>110 |129=>111 |294=>113 |295=>114 |296=>115 |297=>116 |298=>117 |299=>118 |216=>119 |300=>120 |301=>121 |328=>128 |329=>124 |330=>125 |331=>129 |332=>130 |215=>74 |343=>133 |n=>n,fun |28=>22 |3=>3 |46=>110 |0=>0 |51=>128 |53=>130 |4=>4 |183=>122 |182=>121 |131=>43 |5=>5 |9=>9 |218=>138 |222=>142 |228=>147 |229=>148 |n=>n,fun |n=>n⟩
theorem Tryz.lays189:Go.Proofs.Lays.n189 Tryz.prog Tryz.lays189_ren:={
 mixed:=by kernel_rfl
 f125:=Tryz.func87.trans (congrArg some (by kernel_rfl))
 f128:=Tryz.func110.trans (congrArg some (by kernel_rfl))
 f129:=Tryz.func111.trans (congrArg some (by kernel_rfl))
 f189:=Tryz.func59.trans (congrArg some (by kernel_rfl))
 f215:=Tryz.func74.trans (congrArg some (by kernel_rfl))
 f216:=Tryz.func119.trans (congrArg some (by kernel_rfl))
 f257:=Tryz.func92.trans (congrArg some (by kernel_rfl))
 f294:=Tryz.func113.trans (congrArg some (by kernel_rfl))
 f295:=Tryz.func114.trans (congrArg some (by kernel_rfl))
 f296:=Tryz.func115.trans (congrArg some (by kernel_rfl))
 f297:=Tryz.func116.trans (congrArg some (by kernel_rfl))
 f298:=Tryz.func117.trans (congrArg some (by kernel_rfl))
 f299:=Tryz.func118.trans (congrArg some (by kernel_rfl))
 f300:=Tryz.func120.trans (congrArg some (by kernel_rfl))
 f301:=Tryz.func121.trans (congrArg some (by kernel_rfl))
 f328:=Tryz.func128.trans (congrArg some (by kernel_rfl))
 f329:=Tryz.func124.trans (congrArg some (by kernel_rfl))
 f330:=Tryz.func125.trans (congrArg some (by kernel_rfl))
 f331:=Tryz.func129.trans (congrArg some (by kernel_rfl))
 f332:=Tryz.func130.trans (congrArg some (by kernel_rfl))
 f343:=Tryz.func133.trans (congrArg some (by kernel_rfl))
 t0:=Tryz.underlying0
 a0:=Tryz.isAgg0
 z0:=Tryz.sizeOf0
 v0:=Tryz.zeroValue0
 t3:=Tryz.underlying3
 a3:=Tryz.isAgg3
 z3:=Tryz.sizeOf3
 v3:=Tryz.zeroValue3
 t4:=Tryz.underlying4
 a4:=Tryz.isAgg4
 z4:=Tryz.sizeOf4
 v4:=Tryz.zeroValue4
 t5:=Tryz.underlying5
 a5:=Tryz.isAgg5
 z5:=Tryz.sizeOf5
 v5:=Tryz.zeroValue5
 t9:=Tryz.underlying9
 a9:=Tryz.isAgg9
 z9:=Tryz.sizeOf9
 v9:=Tryz.zeroValue9
 t28:=Tryz.underlying22
 a28:=Tryz.isAgg22
 z28:=Tryz.sizeOf22
 v28:=Tryz.zeroValue22
 t46:=Tryz.underlying110
 a46:=Tryz.isAgg110
 z46:=Tryz.sizeOf110
 v46:=Tryz.zeroValue110
 t51:=Tryz.underlying128
 a51:=Tryz.isAgg128
 z51:=Tryz.sizeOf128
 v51:=Tryz.zeroValue128
 t53:=Tryz.underlying130
 a53:=Tryz.isAgg130
 z53:=Tryz.sizeOf130
 v53:=Tryz.zeroValue130
 t131:=Tryz.underlying43
 a131:=Tryz.isAgg43
 z131:=Tryz.sizeOf43
 v131:=Tryz.zeroValue43
 t182:=Tryz.underlying121
 a182:=Tryz.isAgg121
 z182:=Tryz.sizeOf121
 v182:=Tryz.zeroValue121
 t183:=Tryz.underlying122
 a183:=Tryz.isAgg122
 z183:=Tryz.sizeOf122
 v183:=Tryz.zeroValue122
 t218:=Tryz.underlying138
 a218:=Tryz.isAgg138
 z218:=Tryz.sizeOf138
 v218:=Tryz.zeroValue138
 t222:=Tryz.underlying142
 a222:=Tryz.isAgg142
 z222:=Tryz.sizeOf142
 v222:=Tryz.zeroValue142
 t228:=Tryz.underlying147
 a228:=Tryz.isAgg147
 z228:=Tryz.sizeOf147
 v228:=Tryz.zeroValue147
 t229:=Tryz.underlying148
 a229:=Tryz.isAgg148
 z229:=Tryz.sizeOf148
 v229:=Tryz.zeroValue148 }
open Go.Sort Go.RowKit in
theorem Tryz.slices_Sort_int (blk off cap:Nat) (zs:List Int) (w:World) (hH:Holds (Value.int .i64) w blk off zs.toArray) (hblk:blk < w.heap.size) (hsz:zs.length < 4611686018427387904):
  Calls Tryz.prog 59 #[.slice (some ⟨blk,off,none⟩) zs.length cap] w fun e w'=>
   e=.returned (.tuple #[])∧∃n os,w'=grow (putRow (Value.int .i64) (Sort.ahead w n) blk off (zs.mergeSort fun x y=>decide (x≤y)).toArray) os:=Any.slices_Sort_int Tryz.lays189 blk off cap zs w hH hblk hsz
open Go.RowKit Go.Sort in
/-- .. and plain. (LAID: no walk: one application.) -/
theorem Tryz.slices_Sort_int_none (p:Option Addr) (cap:Nat) (w:World):
  Calls Tryz.prog 59 #[.slice p 0 cap] w fun e w'=>e=.returned (.tuple #[])∧w'=w:=Any.slices_Sort_int_none Tryz.lays189 p cap w
end Go.Proofs
