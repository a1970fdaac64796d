/- Contracts of library functions, laid for this translation. Conditions: none. -/
import Derived.Test.YtjnflahicimmlaaGreatDoorA0
import Derived.Shelf.Small.Bits
import Derived.Shelf.Small.Wraps
import Derived.Shelf.Strconv.Itoa0
import Derived.Shelf.Sort.Plain
import Derived.Shelf.Slices.Turned
import Derived.Shelf.Slices.Clone
import Derived.Shelf.Slices.SearchI
import Derived.Shelf.Slices.In.SortNone
import Derived.Shelf.SlicesE.Clone
import Derived.Test.YtjnflahicimmlaaGreatDoorProg
set_option linter.unusedSimpArgs false
set_option linter.unusedVariables false
namespace Go.Proofs
open Go.Shelf
def Tryz.Kt:Go.Shelf.Ren:=⟨λ|189=>92 |125=>97 |257=>115 |128=>125 |129=>126 |294=>129 |295=>130 |296=>131 |297=>132 |298=>133 |299=>134 |216=>135 |300=>136 |301=>137 |328=>148 |329=>143 |330=>144 |331=>149 |332=>150 |215=>87 |343=>156 |n=>n,λ|28=>22 |3=>3 |46=>140 |0=>0 |51=>159 |53=>161 |4=>4 |183=>153 |182=>152 |131=>59 |5=>5 |9=>9 |218=>172 |222=>176 |228=>184 |229=>185 |n=>n,λ|n=>n⟩
theorem Tryz.NZ:Go.Proofs.Lays.n189 Tryz.prog Tryz.Kt:={
 mixed:=by kernel_rfl
 f125:=Tryz.func97.trans (congrArg some (by kernel_rfl))
 f128:=Tryz.func125.trans (congrArg some (by kernel_rfl))
 f129:=Tryz.func126.trans (congrArg some (by kernel_rfl))
 f189:=Tryz.func92.trans (congrArg some (by kernel_rfl))
 f215:=Tryz.func87.trans (congrArg some (by kernel_rfl))
 f216:=Tryz.func135.trans (congrArg some (by kernel_rfl))
 f257:=Tryz.func115.trans (congrArg some (by kernel_rfl))
 f294:=Tryz.func129.trans (congrArg some (by kernel_rfl))
 f295:=Tryz.func130.trans (congrArg some (by kernel_rfl))
 f296:=Tryz.func131.trans (congrArg some (by kernel_rfl))
 f297:=Tryz.func132.trans (congrArg some (by kernel_rfl))
 f298:=Tryz.func133.trans (congrArg some (by kernel_rfl))
 f299:=Tryz.func134.trans (congrArg some (by kernel_rfl))
 f300:=Tryz.func136.trans (congrArg some (by kernel_rfl))
 f301:=Tryz.func137.trans (congrArg some (by kernel_rfl))
 f328:=Tryz.func148.trans (congrArg some (by kernel_rfl))
 f329:=Tryz.func143.trans (congrArg some (by kernel_rfl))
 f330:=Tryz.func144.trans (congrArg some (by kernel_rfl))
 f331:=Tryz.func149.trans (congrArg some (by kernel_rfl))
 f332:=Tryz.func150.trans (congrArg some (by kernel_rfl))
 f343:=Tryz.func156.trans (congrArg some (by kernel_rfl))
 t0:=Tryz.underlying0
 a0:=Tryz.isAgg0
 z0:=Tryz.sizeOf0
 v0:=Tryz.zeroValue0
 t3:=Tryz.underlying3
 a3:=Tryz.isAgg3
 z3:=Tryz.sizeOf3
 v3:=Tryz.zeroValue3
 t4:=Tryz.underlying4
 a4:=Tryz.isAgg4
 z4:=Tryz.sizeOf4
 v4:=Tryz.zeroValue4
 t5:=Tryz.underlying5
 a5:=Tryz.isAgg5
 z5:=Tryz.sizeOf5
 v5:=Tryz.zeroValue5
 t9:=Tryz.underlying9
 a9:=Tryz.isAgg9
 z9:=Tryz.sizeOf9
 v9:=Tryz.zeroValue9
 t28:=Tryz.underlying22
 a28:=Tryz.isAgg22
 z28:=Tryz.sizeOf22
 v28:=Tryz.zeroValue22
 t46:=Tryz.underlying140
 a46:=Tryz.isAgg140
 z46:=Tryz.sizeOf140
 v46:=Tryz.zeroValue140
 t51:=Tryz.underlying159
 a51:=Tryz.isAgg159
 z51:=Tryz.sizeOf159
 v51:=Tryz.zeroValue159
 t53:=Tryz.underlying161
 a53:=Tryz.isAgg161
 z53:=Tryz.sizeOf161
 v53:=Tryz.zeroValue161
 t131:=Tryz.underlying59
 a131:=Tryz.isAgg59
 z131:=Tryz.sizeOf59
 v131:=Tryz.zeroValue59
 t182:=Tryz.underlying152
 a182:=Tryz.isAgg152
 z182:=Tryz.sizeOf152
 v182:=Tryz.zeroValue152
 t183:=Tryz.underlying153
 a183:=Tryz.isAgg153
 z183:=Tryz.sizeOf153
 v183:=Tryz.zeroValue153
 t218:=Tryz.underlying172
 a218:=Tryz.isAgg172
 z218:=Tryz.sizeOf172
 v218:=Tryz.zeroValue172
 t222:=Tryz.underlying176
 a222:=Tryz.isAgg176
 z222:=Tryz.sizeOf176
 v222:=Tryz.zeroValue176
 t228:=Tryz.underlying184
 a228:=Tryz.isAgg184
 z228:=Tryz.sizeOf184
 v228:=Tryz.zeroValue184
 t229:=Tryz.underlying185
 a229:=Tryz.isAgg185
 z229:=Tryz.sizeOf185
 v229:=Tryz.zeroValue185 }
open Go.Sort Go.RowKit in
theorem Tryz.slices_Sort_int (fN off cap:Nat) (zs:List Int) (w:World) (hH:Holds (Value.int .i64) w fN off zs.toArray) (hblk:fN < w.heap.size) (gS:zs.length < 4611686018427387904):
  Calls Tryz.prog 92 #[.slice (some ⟨fN,off,none⟩) zs.length cap] w λe w'=>
   e=.returned (.tuple #[])∧∃n os,w'=grow (putRow (Value.int .i64) (Sort.ahead w n) fN off (zs.mergeSort λx y=>decide (x≤y)).toArray) os:=Any.slices_Sort_int Tryz.NZ fN off cap zs w hH hblk gS
open Go.RowKit Go.Sort in
theorem Tryz.slices_Sort_int_none (p:Option Addr) (cap:Nat) (w:World):
  Calls Tryz.prog 92 #[.slice p 0 cap] w λe w'=>e=.returned (.tuple #[])∧w'=w:=Any.slices_Sort_int_none Tryz.NZ p cap w
end Go.Proofs
