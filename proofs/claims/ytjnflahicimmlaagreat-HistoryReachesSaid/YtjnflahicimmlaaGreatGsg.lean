/- Contracts of library functions, laid for this translation. Conditions: none. -/
import Derived.Shelf.SlSortCmp.NoneTotal
import Derived.Test.YtjnflahicimmlaaGreatProg
set_option linter.unusedSimpArgs false
set_option linter.unusedVariables false
namespace Go.Proofs
open Go.Shelf
def Tryz.sort51_ren:Go.Shelf.Ren:=⟨fun |6=>51 |15=>87 |14=>86 |28=>110 |29=>111 |20=>102 |21=>103 |22=>104 |23=>105 |24=>106 |25=>107 |26=>108 |27=>109 |46=>123 |47=>124 |48=>125 |49=>126 |50=>127 |57=>132 |n=>n,fun |22=>40 |24=>57 |25=>86 |3=>3 |39=>110 |0=>0 |53=>128 |55=>130 |4=>4 |46=>122 |45=>121 |50=>43 |5=>5 |9=>9 |66=>138 |70=>142 |76=>147 |77=>148 |n=>n,fun |n=>n⟩
theorem Tryz.sort51:Go.Proofs.SlLaysF0.n6 Tryz.prog Tryz.sort51_ren:={
 mixed:=by kernel_rfl
 f6:=⟨Tryz.f51.name,by decide,Tryz.func51.trans (congrArg some (by kernel_rfl))⟩
 f14:=⟨Tryz.f86.name,by decide,Tryz.func86.trans (congrArg some (by kernel_rfl))⟩
 f15:=Tryz.func87.trans (congrArg some (by kernel_rfl))
 f20:=⟨Tryz.f102.name,by decide,Tryz.func102.trans (congrArg some (by kernel_rfl))⟩
 f21:=⟨Tryz.f103.name,by decide,Tryz.func103.trans (congrArg some (by kernel_rfl))⟩
 f22:=⟨Tryz.f104.name,by decide,Tryz.func104.trans (congrArg some (by kernel_rfl))⟩
 f23:=⟨Tryz.f105.name,by decide,Tryz.func105.trans (congrArg some (by kernel_rfl))⟩
 f24:=⟨Tryz.f106.name,by decide,Tryz.func106.trans (congrArg some (by kernel_rfl))⟩
 f25:=⟨Tryz.f107.name,by decide,Tryz.func107.trans (congrArg some (by kernel_rfl))⟩
 f26:=⟨Tryz.f108.name,by decide,Tryz.func108.trans (congrArg some (by kernel_rfl))⟩
 f27:=⟨Tryz.f109.name,by decide,Tryz.func109.trans (congrArg some (by kernel_rfl))⟩
 f28:=Tryz.func110.trans (congrArg some (by kernel_rfl))
 f29:=Tryz.func111.trans (congrArg some (by kernel_rfl))
 f46:=⟨Tryz.f123.name,by decide,Tryz.func123.trans (congrArg some (by kernel_rfl))⟩
 f47:=Tryz.func124.trans (congrArg some (by kernel_rfl))
 f48:=Tryz.func125.trans (congrArg some (by kernel_rfl))
 f49:=⟨Tryz.f126.name,by decide,Tryz.func126.trans (congrArg some (by kernel_rfl))⟩
 f50:=⟨Tryz.f127.name,by decide,Tryz.func127.trans (congrArg some (by kernel_rfl))⟩
 f57:=⟨Tryz.f132.name,by decide,Tryz.func132.trans (congrArg some (by kernel_rfl))⟩
 t0:=Tryz.underlying0
 a0:=Tryz.isAgg0
 z0:=Tryz.sizeOf0
 v0:=Tryz.zeroValue0
 t3:=Tryz.underlying3
 a3:=Tryz.isAgg3
 z3:=Tryz.sizeOf3
 v3:=Tryz.zeroValue3
 t4:=Tryz.underlying4
 a4:=Tryz.isAgg4
 z4:=Tryz.sizeOf4
 v4:=Tryz.zeroValue4
 t5:=Tryz.underlying5
 a5:=Tryz.isAgg5
 z5:=Tryz.sizeOf5
 v5:=Tryz.zeroValue5
 t9:=Tryz.underlying9
 a9:=Tryz.isAgg9
 z9:=Tryz.sizeOf9
 v9:=Tryz.zeroValue9
 t22:=Tryz.underlying40
 a22:=Tryz.isAgg40
 z22:=Tryz.sizeOf40
 v22:=Tryz.zeroValue40
 t25:=Tryz.underlying86
 a25:=Tryz.isAgg86
 z25:=Tryz.sizeOf86
 v25:=Tryz.zeroValue86
 t39:=Tryz.underlying110
 a39:=Tryz.isAgg110
 z39:=Tryz.sizeOf110
 v39:=Tryz.zeroValue110
 t45:=Tryz.underlying121
 a45:=Tryz.isAgg121
 z45:=Tryz.sizeOf121
 v45:=Tryz.zeroValue121
 t46:=Tryz.underlying122
 a46:=Tryz.isAgg122
 z46:=Tryz.sizeOf122
 v46:=Tryz.zeroValue122
 t50:=Tryz.underlying43
 a50:=Tryz.isAgg43
 z50:=Tryz.sizeOf43
 v50:=Tryz.zeroValue43
 t53:=Tryz.underlying128
 a53:=Tryz.isAgg128
 z53:=Tryz.sizeOf128
 v53:=Tryz.zeroValue128
 t55:=Tryz.underlying130
 a55:=Tryz.isAgg130
 z55:=Tryz.sizeOf130
 v55:=Tryz.zeroValue130
 t66:=Tryz.underlying138
 a66:=Tryz.isAgg138
 z66:=Tryz.sizeOf138
 v66:=Tryz.zeroValue138
 t70:=Tryz.underlying142
 a70:=Tryz.isAgg142
 z70:=Tryz.sizeOf142
 v70:=Tryz.zeroValue142
 t76:=Tryz.underlying147
 a76:=Tryz.isAgg147
 z76:=Tryz.sizeOf147
 v76:=Tryz.zeroValue147
 t77:=Tryz.underlying148
 a77:=Tryz.isAgg148
 z77:=Tryz.sizeOf148
 v77:=Tryz.zeroValue148 }
end Go.Proofs
