/- Contracts of library functions, laid for this translation. Conditions: none. -/
import Derived.Test.YtjnflahicimmlaaGreatDoorA0
import Derived.Shelf.SlIterI.Nil
import Derived.Test.YtjnflahicimmlaaGreatDoorProg
set_option linter.unusedSimpArgs false
set_option linter.unusedVariables false
namespace Go.Proofs
open Go.Shelf
def Tryz.JC:Go.Shelf.Ren:=⟨λ|6=>57 |8=>89 |9=>92 |11=>113 |13=>97 |12=>115 |23=>125 |24=>126 |14=>129 |15=>130 |16=>131 |17=>132 |18=>133 |19=>134 |20=>135 |21=>136 |22=>137 |25=>148 |26=>143 |27=>144 |28=>149 |29=>150 |30=>87 |31=>156 |n=>n,λ|26=>3 |28=>107 |24=>22 |0=>0 |3=>3 |37=>140 |48=>159 |50=>161 |4=>4 |40=>153 |39=>152 |45=>59 |5=>5 |9=>9 |51=>172 |55=>176 |57=>184 |58=>185 |33=>110 |n=>n,λ|n=>n⟩
theorem Tryz.U1:Go.Proofs.SlLaysZI.n6 Tryz.prog Tryz.JC:={
 mixed:=by kernel_rfl
 f6:=⟨Tryz.f57.name,by decide,Tryz.func57.trans (congrArg some (by kernel_rfl))⟩
 f8:=⟨Tryz.f89.name,by decide,Tryz.func89.trans (congrArg some (by kernel_rfl))⟩
 f11:=⟨Tryz.f113.name,by decide,Tryz.func113.trans (congrArg some (by kernel_rfl))⟩
 t0:=Tryz.underlying0
 a0:=Tryz.isAgg0
 z0:=Tryz.sizeOf0
 v0:=Tryz.zeroValue0
 t24:=Tryz.underlying22
 a24:=Tryz.isAgg22
 z24:=Tryz.sizeOf22
 v24:=Tryz.zeroValue22
 t26:=Tryz.underlying3
 a26:=Tryz.isAgg3
 z26:=Tryz.sizeOf3
 v26:=Tryz.zeroValue3
 t28:=Tryz.underlying107
 a28:=Tryz.isAgg107
 z28:=Tryz.sizeOf107
 v28:=Tryz.zeroValue107
 i26:=by kernel_rfl }
def Tryz.P9:Go.Shelf.Ren:=⟨λ|8=>89 |11=>113 |n=>n,λ|26=>3 |28=>107 |24=>22 |0=>0 |33=>110 |4=>4 |n=>n,λ|n=>n⟩
theorem Tryz.adj:Go.Proofs.SlLaysZI.n8 Tryz.prog Tryz.P9:={
 mixed:=by kernel_rfl
 f8:=⟨Tryz.f89.name,by decide,Tryz.func89.trans (congrArg some (by kernel_rfl))⟩
 f11:=⟨Tryz.f113.name,by decide,Tryz.func113.trans (congrArg some (by kernel_rfl))⟩
 t0:=Tryz.underlying0
 a0:=Tryz.isAgg0
 z0:=Tryz.sizeOf0
 v0:=Tryz.zeroValue0
 t24:=Tryz.underlying22
 a24:=Tryz.isAgg22
 z24:=Tryz.sizeOf22
 v24:=Tryz.zeroValue22
 t26:=Tryz.underlying3
 a26:=Tryz.isAgg3
 z26:=Tryz.sizeOf3
 v26:=Tryz.zeroValue3
 t28:=Tryz.underlying107
 a28:=Tryz.isAgg107
 z28:=Tryz.sizeOf107
 v28:=Tryz.zeroValue107
 i26:=by kernel_rfl }
end Go.Proofs
