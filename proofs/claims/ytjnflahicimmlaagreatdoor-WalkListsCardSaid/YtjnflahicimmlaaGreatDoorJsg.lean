/- Contracts of library functions, laid for this translation. Conditions: none. -/
import Derived.Test.YtjnflahicimmlaaGreatDoorA0
import Derived.Shelf.SlSortCmp.NoneTotal
import Derived.Test.YtjnflahicimmlaaGreatDoorProg
set_option linter.unusedSimpArgs false
set_option linter.unusedVariables false
namespace Go.Proofs
open Go.Shelf
def Tryz.L6:Go.Shelf.Ren:=⟨λ|6=>63 |15=>97 |14=>96 |28=>125 |29=>126 |20=>117 |21=>118 |22=>119 |23=>120 |24=>121 |25=>122 |26=>123 |27=>124 |46=>142 |47=>143 |48=>144 |49=>145 |50=>146 |57=>155 |n=>n,λ|22=>41 |24=>62 |25=>118 |3=>3 |39=>140 |0=>0 |53=>159 |55=>161 |4=>4 |46=>153 |45=>152 |50=>59 |5=>5 |9=>9 |66=>172 |70=>176 |76=>184 |77=>185 |n=>n,λ|n=>n⟩
theorem Tryz.X5:Go.Proofs.SlLaysF0.n6 Tryz.prog Tryz.L6:={
 mixed:=by kernel_rfl
 f6:=⟨Tryz.f63.name,by decide,Tryz.func63.trans (congrArg some (by kernel_rfl))⟩
 f14:=⟨Tryz.f96.name,by decide,Tryz.func96.trans (congrArg some (by kernel_rfl))⟩
 f15:=Tryz.func97.trans (congrArg some (by kernel_rfl))
 f20:=⟨Tryz.f117.name,by decide,Tryz.func117.trans (congrArg some (by kernel_rfl))⟩
 f21:=⟨Tryz.f118.name,by decide,Tryz.func118.trans (congrArg some (by kernel_rfl))⟩
 f22:=⟨Tryz.f119.name,by decide,Tryz.func119.trans (congrArg some (by kernel_rfl))⟩
 f23:=⟨Tryz.f120.name,by decide,Tryz.func120.trans (congrArg some (by kernel_rfl))⟩
 f24:=⟨Tryz.f121.name,by decide,Tryz.func121.trans (congrArg some (by kernel_rfl))⟩
 f25:=⟨Tryz.f122.name,by decide,Tryz.func122.trans (congrArg some (by kernel_rfl))⟩
 f26:=⟨Tryz.f123.name,by decide,Tryz.func123.trans (congrArg some (by kernel_rfl))⟩
 f27:=⟨Tryz.f124.name,by decide,Tryz.func124.trans (congrArg some (by kernel_rfl))⟩
 f28:=Tryz.func125.trans (congrArg some (by kernel_rfl))
 f29:=Tryz.func126.trans (congrArg some (by kernel_rfl))
 f46:=⟨Tryz.f142.name,by decide,Tryz.func142.trans (congrArg some (by kernel_rfl))⟩
 f47:=Tryz.func143.trans (congrArg some (by kernel_rfl))
 f48:=Tryz.func144.trans (congrArg some (by kernel_rfl))
 f49:=⟨Tryz.f145.name,by decide,Tryz.func145.trans (congrArg some (by kernel_rfl))⟩
 f50:=⟨Tryz.f146.name,by decide,Tryz.func146.trans (congrArg some (by kernel_rfl))⟩
 f57:=⟨Tryz.f155.name,by decide,Tryz.func155.trans (congrArg some (by kernel_rfl))⟩
 t0:=Tryz.underlying0
 a0:=Tryz.isAgg0
 z0:=Tryz.sizeOf0
 v0:=Tryz.zeroValue0
 t3:=Tryz.underlying3
 a3:=Tryz.isAgg3
 z3:=Tryz.sizeOf3
 v3:=Tryz.zeroValue3
 t4:=Tryz.underlying4
 a4:=Tryz.isAgg4
 z4:=Tryz.sizeOf4
 v4:=Tryz.zeroValue4
 t5:=Tryz.underlying5
 a5:=Tryz.isAgg5
 z5:=Tryz.sizeOf5
 v5:=Tryz.zeroValue5
 t9:=Tryz.underlying9
 a9:=Tryz.isAgg9
 z9:=Tryz.sizeOf9
 v9:=Tryz.zeroValue9
 t22:=Tryz.underlying41
 a22:=Tryz.isAgg41
 z22:=Tryz.sizeOf41
 v22:=Tryz.zeroValue41
 t25:=Tryz.underlying118
 a25:=Tryz.isAgg118
 z25:=Tryz.sizeOf118
 v25:=Tryz.zeroValue118
 t39:=Tryz.underlying140
 a39:=Tryz.isAgg140
 z39:=Tryz.sizeOf140
 v39:=Tryz.zeroValue140
 t45:=Tryz.underlying152
 a45:=Tryz.isAgg152
 z45:=Tryz.sizeOf152
 v45:=Tryz.zeroValue152
 t46:=Tryz.underlying153
 a46:=Tryz.isAgg153
 z46:=Tryz.sizeOf153
 v46:=Tryz.zeroValue153
 t50:=Tryz.underlying59
 a50:=Tryz.isAgg59
 z50:=Tryz.sizeOf59
 v50:=Tryz.zeroValue59
 t53:=Tryz.underlying159
 a53:=Tryz.isAgg159
 z53:=Tryz.sizeOf159
 v53:=Tryz.zeroValue159
 t55:=Tryz.underlying161
 a55:=Tryz.isAgg161
 z55:=Tryz.sizeOf161
 v55:=Tryz.zeroValue161
 t66:=Tryz.underlying172
 a66:=Tryz.isAgg172
 z66:=Tryz.sizeOf172
 v66:=Tryz.zeroValue172
 t70:=Tryz.underlying176
 a70:=Tryz.isAgg176
 z70:=Tryz.sizeOf176
 v70:=Tryz.zeroValue176
 t76:=Tryz.underlying184
 a76:=Tryz.isAgg184
 z76:=Tryz.sizeOf184
 v76:=Tryz.zeroValue184
 t77:=Tryz.underlying185
 a77:=Tryz.isAgg185
 z77:=Tryz.sizeOf185
 v77:=Tryz.zeroValue185 }
end Go.Proofs
