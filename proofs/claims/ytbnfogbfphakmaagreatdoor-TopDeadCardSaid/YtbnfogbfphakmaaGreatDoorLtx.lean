/- Tables of the given program's functions and types. Conditions: none. -/
import Derived.Test.YtbnfogbfphakmaaGreatDoorVmE1
import Derived.Test.YtbnfogbfphakmaaGreatDoorProg
import Derived.KernelRfl
import Derived.Test.YtbnfogbfphakmaaGreatDoorVmE4
set_option linter.unusedSimpArgs false
set_option linter.unusedVariables false
namespace Go.Ev
open Go Go.Vl Go.Proofs
noncomputable def ti2:TI:=⟨(TypeDesc.int IntKind.i64),1,false,[.int .i64 0]⟩
noncomputable def ti3:TI:=⟨(TypeDesc.int IntKind.i64),1,false,[.int .i64 0]⟩
noncomputable def ti4:TI:=⟨TypeDesc.bool,1,false,[.bool false]⟩
noncomputable def ti5:TI:=⟨(TypeDesc.int IntKind.u8),1,false,[.int .u8 0]⟩
noncomputable def ti9:TI:=⟨TypeDesc.string,1,false,[.str []]⟩
noncomputable def ti21:TI:=⟨(TypeDesc.int IntKind.i32),1,false,[.int .i32 0]⟩
noncomputable def ti22:TI:=⟨(TypeDesc.slice 3),1,false,[.nils]⟩
noncomputable def ti24:TI:=⟨(TypeDesc.pointer 26),1,false,[.nilp]⟩
noncomputable def ti26:TI:=⟨(TypeDesc.struct #[{ name:= "L",type:=22,offset:=0,embedded:=false,tag:= "",pkgPath:= "",byteOffset:=0 },{ name:= "at",type:=3,offset:=1,embedded:=false,tag:= "",pkgPath:= "leakresponse/leakresponsemake",byteOffset:=24 }]),2,true,[.nils,.int .i64 0]⟩
noncomputable def ti27:TI:=⟨(TypeDesc.slice 81),1,false,[.nils]⟩
noncomputable def ti29:TI:=⟨(TypeDesc.struct #[{ name:= "Kinds",type:=22,offset:=0,embedded:=false,tag:= "",pkgPath:= "",byteOffset:=0 },{ name:= "Events",type:=27,offset:=1,embedded:=false,tag:= "",pkgPath:= "",byteOffset:=24 }]),2,true,[.nils,.nils]⟩
noncomputable def ti31:TI:=⟨(TypeDesc.slice 83),1,false,[.nils]⟩
noncomputable def ti33:TI:=⟨(TypeDesc.struct #[{ name:= "Places",type:=3,offset:=0,embedded:=false,tag:= "",pkgPath:= "",byteOffset:=0 },{ name:= "Events",type:=31,offset:=1,embedded:=false,tag:= "",pkgPath:= "",byteOffset:=8 }]),2,true,[.int .i64 0,.nils]⟩
noncomputable def ti36:TI:=⟨(TypeDesc.slice 42),1,false,[.nils]⟩
noncomputable def ti37:TI:=⟨(TypeDesc.int IntKind.i64),1,false,[.int .i64 0]⟩
noncomputable def ti40:TI:=⟨(TypeDesc.slice 46),1,false,[.nils]⟩
noncomputable def ti42:TI:=⟨(TypeDesc.struct #[{ name:= "Principal",type:=3,offset:=0,embedded:=false,tag:= "",pkgPath:= "",byteOffset:=0 },{ name:= "Time",type:=3,offset:=1,embedded:=false,tag:= "",pkgPath:= "",byteOffset:=8 }]),2,true,[.int .i64 0,.int .i64 0]⟩
noncomputable def ti46:TI:=⟨(TypeDesc.struct #[{ name:= "Known",type:=3,offset:=0,embedded:=false,tag:= "",pkgPath:= "",byteOffset:=0 },{ name:= "Since",type:=3,offset:=1,embedded:=false,tag:= "",pkgPath:= "",byteOffset:=8 },{ name:= "Subject",type:=3,offset:=2,embedded:=false,tag:= "",pkgPath:= "",byteOffset:=16 },{ name:= "Value",type:=3,offset:=3,embedded:=false,tag:= "",pkgPath:= "",byteOffset:=24 }]),4,true,[.int .i64 0,.int .i64 0,.int .i64 0,.int .i64 0]⟩
noncomputable def ti48:TI:=⟨(TypeDesc.struct #[{ name:= "Value",type:=3,offset:=0,embedded:=false,tag:= "",pkgPath:= "",byteOffset:=0 },{ name:= "Record",type:=3,offset:=1,embedded:=false,tag:= "",pkgPath:= "",byteOffset:=8 }]),2,true,[.int .i64 0,.int .i64 0]⟩
noncomputable def ti55:TI:=⟨(TypeDesc.slice 99),1,false,[.nils]⟩
noncomputable def ti57:TI:=⟨(TypeDesc.struct #[{ name:= "Fence",type:=4,offset:=0,embedded:=false,tag:= "",pkgPath:= "",byteOffset:=0 },{ name:= "Sets",type:=22,offset:=1,embedded:=false,tag:= "",pkgPath:= "",byteOffset:=8 },{ name:= "Replicas",type:=55,offset:=2,embedded:=false,tag:= "",pkgPath:= "",byteOffset:=32 },{ name:= "Snapshots",type:=22,offset:=3,embedded:=false,tag:= "",pkgPath:= "",byteOffset:=56 }]),4,true,[.bool false,.nils,.nils,.nils]⟩
noncomputable def ti62:TI:=⟨(TypeDesc.struct #[{ name:= "Kind",type:=3,offset:=0,embedded:=false,tag:= "",pkgPath:= "",byteOffset:=0 },{ name:= "Replica",type:=3,offset:=1,embedded:=false,tag:= "",pkgPath:= "",byteOffset:=8 },{ name:= "Snapshot",type:=3,offset:=2,embedded:=false,tag:= "",pkgPath:= "",byteOffset:=16 },{ name:= "Bits",type:=3,offset:=3,embedded:=false,tag:= "",pkgPath:= "",byteOffset:=24 }]),4,true,[.int .i64 0,.int .i64 0,.int .i64 0,.int .i64 0]⟩
noncomputable def ti63:TI:=⟨(TypeDesc.slice 101),1,false,[.nils]⟩
noncomputable def ti69:TI:=⟨(TypeDesc.slice 62),1,false,[.nils]⟩
noncomputable def ti72:TI:=⟨(TypeDesc.slice 117),1,false,[.nils]⟩
noncomputable def ti81:TI:=⟨(TypeDesc.struct #[{ name:= "Time",type:=3,offset:=0,embedded:=false,tag:= "",pkgPath:= "",byteOffset:=0 },{ name:= "Kind",type:=3,offset:=1,embedded:=false,tag:= "",pkgPath:= "",byteOffset:=8 },{ name:= "Principal",type:=3,offset:=2,embedded:=false,tag:= "",pkgPath:= "",byteOffset:=16 },{ name:= "Group",type:=3,offset:=3,embedded:=false,tag:= "",pkgPath:= "",byteOffset:=24 }]),4,true,[.int .i64 0,.int .i64 0,.int .i64 0,.int .i64 0]⟩
noncomputable def ti83:TI:=⟨(TypeDesc.struct #[{ name:= "Time",type:=3,offset:=0,embedded:=false,tag:= "",pkgPath:= "",byteOffset:=0 },{ name:= "Kind",type:=3,offset:=1,embedded:=false,tag:= "",pkgPath:= "",byteOffset:=8 },{ name:= "Place",type:=3,offset:=2,embedded:=false,tag:= "",pkgPath:= "",byteOffset:=16 },{ name:= "Principal",type:=3,offset:=3,embedded:=false,tag:= "",pkgPath:= "",byteOffset:=24 },{ name:= "Until",type:=3,offset:=4,embedded:=false,tag:= "",pkgPath:= "",byteOffset:=32 },{ name:= "Content",type:=3,offset:=5,embedded:=false,tag:= "",pkgPath:= "",byteOffset:=40 },{ name:= "From",type:=3,offset:=6,embedded:=false,tag:= "",pkgPath:= "",byteOffset:=48 }]),7,true,[.int .i64 0,.int .i64 0,.int .i64 0,.int .i64 0,.int .i64 0,.int .i64 0,.int .i64 0]⟩
noncomputable def ti88:TI:=⟨(TypeDesc.slice 48),1,false,[.nils]⟩
noncomputable def ti99:TI:=⟨(TypeDesc.struct #[{ name:= "Generation",type:=3,offset:=0,embedded:=false,tag:= "",pkgPath:= "",byteOffset:=0 },{ name:= "Serving",type:=4,offset:=1,embedded:=false,tag:= "",pkgPath:= "",byteOffset:=8 }]),2,true,[.int .i64 0,.bool false]⟩
noncomputable def ti101:TI:=⟨(TypeDesc.struct #[{ name:= "Replica",type:=3,offset:=0,embedded:=false,tag:= "",pkgPath:= "",byteOffset:=0 },{ name:= "Generation",type:=3,offset:=1,embedded:=false,tag:= "",pkgPath:= "",byteOffset:=8 },{ name:= "Refused",type:=4,offset:=2,embedded:=false,tag:= "",pkgPath:= "",byteOffset:=16 }]),3,true,[.int .i64 0,.int .i64 0,.bool false]⟩
noncomputable def ti103:TI:=⟨(TypeDesc.func #[101] #[4] false),1,false,[.nilf]⟩
noncomputable def ti106:TI:=⟨(TypeDesc.func #[3] #[4] false),1,false,[.nilf]⟩
noncomputable def ti110:TI:=⟨(TypeDesc.func #[99] #[4] false),1,false,[.nilf]⟩
noncomputable def ti111:TI:=⟨(TypeDesc.slice 9),1,false,[.nils]⟩
noncomputable def ti114:TI:=⟨(TypeDesc.func #[147] #[] false),1,false,[.nilf]⟩
noncomputable def ti117:TI:=⟨(TypeDesc.struct #[{ name:= "Kind",type:=3,offset:=0,embedded:=false,tag:= "",pkgPath:= "",byteOffset:=0 },{ name:= "Name",type:=9,offset:=1,embedded:=false,tag:= "",pkgPath:= "",byteOffset:=8 },{ name:= "Other",type:=9,offset:=2,embedded:=false,tag:= "",pkgPath:= "",byteOffset:=24 },{ name:= "Time",type:=3,offset:=3,embedded:=false,tag:= "",pkgPath:= "",byteOffset:=40 },{ name:= "A",type:=3,offset:=4,embedded:=false,tag:= "",pkgPath:= "",byteOffset:=48 },{ name:= "B",type:=3,offset:=5,embedded:=false,tag:= "",pkgPath:= "",byteOffset:=56 }]),6,true,[.int .i64 0,.str [],.str [],.int .i64 0,.int .i64 0,.int .i64 0]⟩
noncomputable def ti122:TI:=⟨(TypeDesc.pointer 125),1,false,[.nilp]⟩
noncomputable def ti123:TI:=⟨(TypeDesc.slice 5),1,false,[.nils]⟩
noncomputable def ti125:TI:=⟨(TypeDesc.struct #[{ name:= "addr",type:=122,offset:=0,embedded:=false,tag:= "",pkgPath:= "strings",byteOffset:=0 },{ name:= "buf",type:=123,offset:=1,embedded:=false,tag:= "",pkgPath:= "strings",byteOffset:=8 }]),2,true,[.nilp,.nils]⟩
noncomputable def ti127:TI:=⟨(TypeDesc.interface #[("Error",133)]),1,false,[.nili]⟩
noncomputable def ti147:TI:=⟨(TypeDesc.func #[9] #[4] false),1,false,[.nilf]⟩
noncomputable def ti152:TI:=⟨(TypeDesc.slice 155),1,false,[.nils]⟩
noncomputable def ti153:TI:=⟨(TypeDesc.slice 161),1,false,[.nils]⟩
noncomputable def ti155:TI:=⟨(TypeDesc.struct #[{ name:= "word",type:=9,offset:=0,embedded:=false,tag:= "",pkgPath:= "leakresponse/console",byteOffset:=0 },{ name:= "fields",type:=153,offset:=1,embedded:=false,tag:= "",pkgPath:= "leakresponse/console",byteOffset:=16 }]),2,true,[.str [],.nils]⟩
noncomputable def ti157:TI:=⟨(TypeDesc.func #[155] #[4] false),1,false,[.nilf]⟩
noncomputable def ti158:TI:=⟨(TypeDesc.func #[163] #[162] false),1,false,[.nilf]⟩
noncomputable def ti159:TI:=⟨(TypeDesc.func #[163] #[164] false),1,false,[.nilf]⟩
noncomputable def ti161:TI:=⟨(TypeDesc.struct #[{ name:= "name",type:=158,offset:=0,embedded:=false,tag:= "",pkgPath:= "leakresponse/console",byteOffset:=0 },{ name:= "n",type:=159,offset:=1,embedded:=false,tag:= "",pkgPath:= "leakresponse/console",byteOffset:=8 },{ name:= "many",type:=3,offset:=2,embedded:=false,tag:= "",pkgPath:= "leakresponse/console",byteOffset:=16 }]),3,true,[.nilf,.nilf,.int .i64 0]⟩
noncomputable def ti162:TI:=⟨(TypeDesc.pointer 9),1,false,[.nilp]⟩
noncomputable def ti163:TI:=⟨(TypeDesc.pointer 117),1,false,[.nilp]⟩
noncomputable def ti164:TI:=⟨(TypeDesc.pointer 3),1,false,[.nilp]⟩
noncomputable def ti165:TI:=⟨(TypeDesc.func #[117] #[4] false),1,false,[.nilf]⟩
noncomputable def ti177:TI:=⟨(TypeDesc.func #[117,117] #[3] false),1,false,[.nilf]⟩
noncomputable def ti179:TI:=⟨(TypeDesc.pointer 29),1,false,[.nilp]⟩
noncomputable def ti180:TI:=⟨(TypeDesc.pointer 33),1,false,[.nilp]⟩
noncomputable def ti184:TI:=⟨(TypeDesc.struct #[{ name:= "Public",type:=4,offset:=0,embedded:=false,tag:= "",pkgPath:= "",byteOffset:=0 },{ name:= "Principals",type:=22,offset:=1,embedded:=false,tag:= "",pkgPath:= "",byteOffset:=8 }]),2,true,[.bool false,.nils]⟩
noncomputable def ti187:TI:=⟨(TypeDesc.pointer 5),1,false,[.nilp]⟩
noncomputable def ti191:TI:=⟨(TypeDesc.slice 193),1,false,[.nils]⟩
noncomputable def ti193:TI:=⟨(TypeDesc.int IntKind.u64),1,false,[.int .u64 0]⟩
noncomputable def ti197:TI:=⟨(TypeDesc.func #[218] #[] false),1,false,[.nilf]⟩
noncomputable def ti211:TI:=⟨TypeDesc.unsafePointer,1,false,[.nilp]⟩
noncomputable def ti216:TI:=⟨(TypeDesc.int IntKind.u64),1,false,[.int .u64 0]⟩
noncomputable def ti218:TI:=⟨(TypeDesc.func #[3,83] #[4] false),1,false,[.nilf]⟩
noncomputable def ti224:TI:=⟨(TypeDesc.int IntKind.i64),1,false,[.int .i64 0]⟩
noncomputable def ti227:TI:=⟨(TypeDesc.pointer 266),1,false,[.nilp]⟩
noncomputable def ti235:TI:=⟨(TypeDesc.array 24 5),24,true,[.int .u8 0,.int .u8 0,.int .u8 0,.int .u8 0,.int .u8 0,.int .u8 0,.int .u8 0,.int .u8 0,.int .u8 0,.int .u8 0,.int .u8 0,.int .u8 0,.int .u8 0,.int .u8 0,.int .u8 0,.int .u8 0,.int .u8 0,.int .u8 0,.int .u8 0,.int .u8 0,.int .u8 0,.int .u8 0,.int .u8 0,.int .u8 0]⟩
noncomputable def ti241:TI:=⟨(TypeDesc.int IntKind.i64),1,false,[.int .i64 0]⟩
noncomputable def ti249:TI:=⟨(TypeDesc.int IntKind.u32),1,false,[.int .u32 0]⟩
noncomputable def ti251:TI:=⟨(TypeDesc.slice 4),1,false,[.nils]⟩
noncomputable def ti253:TI:=⟨(TypeDesc.slice 251),1,false,[.nils]⟩
noncomputable def ti256:TI:=⟨(TypeDesc.map 3 3),1,false,[.un]⟩
noncomputable def ti266:TI:=⟨(TypeDesc.struct #[{ name:= "Func",type:=9,offset:=0,embedded:=false,tag:= "",pkgPath:= "",byteOffset:=0 },{ name:= "Num",type:=9,offset:=1,embedded:=false,tag:= "",pkgPath:= "",byteOffset:=16 },{ name:= "Err",type:=127,offset:=2,embedded:=false,tag:= "",pkgPath:= "",byteOffset:=32 }]),3,true,[.str [],.str [],.nili]⟩
noncomputable def ti274:TI:=⟨(TypeDesc.array 20 193),20,true,[.int .u64 0,.int .u64 0,.int .u64 0,.int .u64 0,.int .u64 0,.int .u64 0,.int .u64 0,.int .u64 0,.int .u64 0,.int .u64 0,.int .u64 0,.int .u64 0,.int .u64 0,.int .u64 0,.int .u64 0,.int .u64 0,.int .u64 0,.int .u64 0,.int .u64 0,.int .u64 0]⟩
noncomputable def ti276:TI:=⟨(TypeDesc.int IntKind.u64),1,false,[.int .u64 0]⟩
noncomputable def ti282:TI:=⟨(TypeDesc.pointer 284),1,false,[.nilp]⟩
noncomputable def ti284:TI:=⟨(TypeDesc.struct #[{ name:= "s",type:=9,offset:=0,embedded:=false,tag:= "",pkgPath:= "errors",byteOffset:=0 }]),1,true,[.str []]⟩
noncomputable def ti288:TI:=⟨(TypeDesc.pointer 276),1,false,[.nilp]⟩
noncomputable def ti293:TI:=⟨(TypeDesc.struct #[{ name:= "lo",type:=5,offset:=0,embedded:=false,tag:= "",pkgPath:= "unicode/utf8",byteOffset:=0 },{ name:= "hi",type:=5,offset:=1,embedded:=false,tag:= "",pkgPath:= "unicode/utf8",byteOffset:=1 }]),2,true,[.int .u8 0,.int .u8 0]⟩
noncomputable def ti294:TI:=⟨(TypeDesc.array 16 293),32,true,[.int .u8 0,.int .u8 0,.int .u8 0,.int .u8 0,.int .u8 0,.int .u8 0,.int .u8 0,.int .u8 0,.int .u8 0,.int .u8 0,.int .u8 0,.int .u8 0,.int .u8 0,.int .u8 0,.int .u8 0,.int .u8 0,.int .u8 0,.int .u8 0,.int .u8 0,.int .u8 0,.int .u8 0,.int .u8 0,.int .u8 0,.int .u8 0,.int .u8 0,.int .u8 0,.int .u8 0,.int .u8 0,.int .u8 0,.int .u8 0,.int .u8 0,.int .u8 0]⟩
noncomputable def ti298:TI:=⟨(TypeDesc.array 32 5),32,true,[.int .u8 0,.int .u8 0,.int .u8 0,.int .u8 0,.int .u8 0,.int .u8 0,.int .u8 0,.int .u8 0,.int .u8 0,.int .u8 0,.int .u8 0,.int .u8 0,.int .u8 0,.int .u8 0,.int .u8 0,.int .u8 0,.int .u8 0,.int .u8 0,.int .u8 0,.int .u8 0,.int .u8 0,.int .u8 0,.int .u8 0,.int .u8 0,.int .u8 0,.int .u8 0,.int .u8 0,.int .u8 0,.int .u8 0,.int .u8 0,.int .u8 0,.int .u8 0]⟩
noncomputable def ti299:TI:=⟨(TypeDesc.array 64 5),64,true,[.int .u8 0,.int .u8 0,.int .u8 0,.int .u8 0,.int .u8 0,.int .u8 0,.int .u8 0,.int .u8 0,.int .u8 0,.int .u8 0,.int .u8 0,.int .u8 0,.int .u8 0,.int .u8 0,.int .u8 0,.int .u8 0,.int .u8 0,.int .u8 0,.int .u8 0,.int .u8 0,.int .u8 0,.int .u8 0,.int .u8 0,.int .u8 0,.int .u8 0,.int .u8 0,.int .u8 0,.int .u8 0,.int .u8 0,.int .u8 0,.int .u8 0,.int .u8 0,.int .u8 0,.int .u8 0,.int .u8 0,.int .u8 0,.int .u8 0,.int .u8 0,.int .u8 0,.int .u8 0,.int .u8 0,.int .u8 0,.int .u8 0,.int .u8 0,.int .u8 0,.int .u8 0,.int .u8 0,.int .u8 0,.int .u8 0,.int .u8 0,.int .u8 0,.int .u8 0,.int .u8 0,.int .u8 0,.int .u8 0,.int .u8 0,.int .u8 0,.int .u8 0,.int .u8 0,.int .u8 0,.int .u8 0,.int .u8 0,.int .u8 0,.int .u8 0]⟩
noncomputable def tyT:Tr TI:=(.node (.node (.node (.node (.node (.node (.node .leaf 2 ti2 .leaf) 3 ti3 .leaf) 4 ti4 (.node (.node .leaf 5 ti5 .leaf) 9 ti9 .leaf)) 21 ti21 (.node (.node (.node .leaf 22 ti22 .leaf) 24 ti24 .leaf) 26 ti26 (.node .leaf 27 ti27 .leaf))) 29 ti29 (.node (.node (.node (.node .leaf 31 ti31 .leaf) 33 ti33 .leaf) 36 ti36 (.node .leaf 37 ti37 .leaf)) 40 ti40 (.node (.node (.node .leaf 42 ti42 .leaf) 46 ti46 .leaf) 48 ti48 (.node .leaf 55 ti55 .leaf)))) 57 ti57 (.node (.node (.node (.node (.node .leaf 62 ti62 .leaf) 63 ti63 .leaf) 69 ti69 (.node .leaf 72 ti72 .leaf)) 81 ti81 (.node (.node (.node .leaf 83 ti83 .leaf) 88 ti88 .leaf) 99 ti99 (.node .leaf 101 ti101 .leaf))) 103 ti103 (.node (.node (.node (.node .leaf 106 ti106 .leaf) 110 ti110 .leaf) 111 ti111 (.node .leaf 114 ti114 .leaf)) 117 ti117 (.node (.node (.node .leaf 122 ti122 .leaf) 123 ti123 .leaf) 125 ti125 (.node .leaf 127 ti127 .leaf))))) 147 ti147 (.node (.node (.node (.node (.node (.node .leaf 152 ti152 .leaf) 153 ti153 .leaf) 155 ti155 (.node (.node .leaf 157 ti157 .leaf) 158 ti158 .leaf)) 159 ti159 (.node (.node (.node .leaf 161 ti161 .leaf) 162 ti162 .leaf) 163 ti163 (.node .leaf 164 ti164 .leaf))) 165 ti165 (.node (.node (.node (.node .leaf 177 ti177 .leaf) 179 ti179 .leaf) 180 ti180 (.node .leaf 184 ti184 .leaf)) 187 ti187 (.node (.node (.node .leaf 191 ti191 .leaf) 193 ti193 .leaf) 197 ti197 (.node .leaf 211 ti211 .leaf)))) 216 ti216 (.node (.node (.node (.node (.node .leaf 218 ti218 .leaf) 224 ti224 .leaf) 227 ti227 (.node .leaf 235 ti235 .leaf)) 241 ti241 (.node (.node (.node .leaf 249 ti249 .leaf) 251 ti251 .leaf) 253 ti253 (.node .leaf 256 ti256 .leaf))) 266 ti266 (.node (.node (.node (.node .leaf 274 ti274 .leaf) 276 ti276 .leaf) 282 ti282 (.node .leaf 284 ti284 .leaf)) 288 ti288 (.node (.node (.node .leaf 293 ti293 .leaf) 294 ti294 .leaf) 298 ti298 (.node .leaf 299 ti299 .leaf))))))
noncomputable def fnT:Tr (Code×Nat×List ResultVar):=(.node (.node (.node (.node (.node (.node (.node (.node .leaf 5 (fnE Tryz.f5) .leaf) 6 (fnE Tryz.f6) (.node .leaf 7 (fnE Tryz.f7) .leaf)) 8 (fnE Tryz.f8) (.node (.node .leaf 9 (fnE Tryz.f9) .leaf) 10 (fnE Tryz.f10) (.node .leaf 11 (fnE Tryz.f11) .leaf))) 12 (fnE Tryz.f12) (.node (.node (.node .leaf 13 (fnE Tryz.f13) .leaf) 14 (fnE Tryz.f14) (.node .leaf 15 (fnE Tryz.f15) .leaf)) 16 (fnE Tryz.f16) (.node (.node .leaf 17 (fnE Tryz.f17) .leaf) 18 (fnE Tryz.f18) .leaf))) 19 (fnE Tryz.f19) (.node (.node (.node (.node .leaf 20 (fnE Tryz.f20) .leaf) 21 (fnE Tryz.f21) (.node .leaf 22 (fnE Tryz.f22) .leaf)) 23 (fnE Tryz.f23) (.node (.node .leaf 24 (fnE Tryz.f24) .leaf) 25 (fnE Tryz.f25) (.node .leaf 26 (fnE Tryz.f26) .leaf))) 27 (fnE Tryz.f27) (.node (.node (.node .leaf 28 (fnE Tryz.f28) .leaf) 29 (fnE Tryz.f29) (.node .leaf 30 (fnE Tryz.f30) .leaf)) 31 (fnE Tryz.f31) (.node (.node .leaf 32 (fnE Tryz.f32) .leaf) 33 (fnE Tryz.f33) .leaf)))) 34 (fnE Tryz.f34) (.node (.node (.node (.node (.node .leaf 35 (fnE Tryz.f35) .leaf) 36 (fnE Tryz.f36) (.node .leaf 37 (fnE Tryz.f37) .leaf)) 38 (fnE Tryz.f38) (.node (.node .leaf 39 (fnE Tryz.f39) .leaf) 40 (fnE Tryz.f40) (.node .leaf 41 (fnE Tryz.f41) .leaf))) 42 (fnE Tryz.f42) (.node (.node (.node .leaf 43 (fnE Tryz.f43) .leaf) 44 (fnE Tryz.f44) (.node .leaf 45 (fnE Tryz.f45) .leaf)) 46 (fnE Tryz.f46) (.node (.node .leaf 47 (fnE Tryz.f47) .leaf) 48 (fnE Tryz.f48) .leaf))) 49 (fnE Tryz.f49) (.node (.node (.node (.node .leaf 50 (fnE Tryz.f50) .leaf) 51 (fnE Tryz.f51) (.node .leaf 52 (fnE Tryz.f52) .leaf)) 53 (fnE Tryz.f53) (.node (.node .leaf 54 (fnE Tryz.f54) .leaf) 55 (fnE Tryz.f55) .leaf)) 56 (fnE Tryz.f56) (.node (.node (.node .leaf 57 (fnE Tryz.f57) .leaf) 58 (fnE Tryz.f58) (.node .leaf 59 (fnE Tryz.f59) .leaf)) 60 (fnE Tryz.f60) (.node (.node .leaf 61 (fnE Tryz.f61) .leaf) 62 (fnE Tryz.f62) .leaf))))) 63 (fnE Tryz.f63) (.node (.node (.node (.node (.node (.node .leaf 64 (fnE Tryz.f64) .leaf) 65 (fnE Tryz.f65) (.node .leaf 66 (fnE Tryz.f66) .leaf)) 67 (fnE Tryz.f67) (.node (.node .leaf 68 (fnE Tryz.f68) .leaf) 69 (fnE Tryz.f69) (.node .leaf 70 (fnE Tryz.f70) .leaf))) 71 (fnE Tryz.f71) (.node (.node (.node .leaf 72 (fnE Tryz.f72) .leaf) 73 (fnE Tryz.f73) (.node .leaf 74 (fnE Tryz.f74) .leaf)) 75 (fnE Tryz.f75) (.node (.node .leaf 76 (fnE Tryz.f76) .leaf) 77 (fnE Tryz.f77) .leaf))) 78 (fnE Tryz.f78) (.node (.node (.node (.node .leaf 79 (fnE Tryz.f79) .leaf) 80 (fnE Tryz.f80) (.node .leaf 81 (fnE Tryz.f81) .leaf)) 82 (fnE Tryz.f82) (.node (.node .leaf 83 (fnE Tryz.f83) .leaf) 84 (fnE Tryz.f84) .leaf)) 85 (fnE Tryz.f85) (.node (.node (.node .leaf 86 (fnE Tryz.f86) .leaf) 87 (fnE Tryz.f87) (.node .leaf 88 (fnE Tryz.f88) .leaf)) 89 (fnE Tryz.f89) (.node (.node .leaf 90 (fnE Tryz.f90) .leaf) 91 (fnE Tryz.f91) .leaf)))) 92 (fnE Tryz.f92) (.node (.node (.node (.node (.node .leaf 93 (fnE Tryz.f93) .leaf) 94 (fnE Tryz.f94) (.node .leaf 95 (fnE Tryz.f95) .leaf)) 96 (fnE Tryz.f96) (.node (.node .leaf 97 (fnE Tryz.f97) .leaf) 98 (fnE Tryz.f98) (.node .leaf 99 (fnE Tryz.f99) .leaf))) 100 (fnE Tryz.f100) (.node (.node (.node .leaf 101 (fnE Tryz.f101) .leaf) 102 (fnE Tryz.f102) (.node .leaf 103 (fnE Tryz.f103) .leaf)) 104 (fnE Tryz.f104) (.node (.node .leaf 105 (fnE Tryz.f105) .leaf) 106 (fnE Tryz.f106) .leaf))) 107 (fnE Tryz.f107) (.node (.node (.node (.node .leaf 108 (fnE Tryz.f108) .leaf) 109 (fnE Tryz.f109) (.node .leaf 110 (fnE Tryz.f110) .leaf)) 111 (fnE Tryz.f111) (.node (.node .leaf 112 (fnE Tryz.f112) .leaf) 113 (fnE Tryz.f113) .leaf)) 114 (fnE Tryz.f114) (.node (.node (.node .leaf 115 (fnE Tryz.f115) .leaf) 116 (fnE Tryz.f116) (.node .leaf 117 (fnE Tryz.f117) .leaf)) 118 (fnE Tryz.f118) (.node (.node .leaf 119 (fnE Tryz.f119) .leaf) 120 (fnE Tryz.f120) .leaf)))))) 121 (fnE Tryz.f121) (.node (.node (.node (.node (.node (.node (.node .leaf 122 (fnE Tryz.f122) .leaf) 123 (fnE Tryz.f123) (.node .leaf 124 (fnE Tryz.f124) .leaf)) 125 (fnE Tryz.f125) (.node (.node .leaf 126 (fnE Tryz.f126) .leaf) 127 (fnE Tryz.f127) (.node .leaf 128 (fnE Tryz.f128) .leaf))) 129 (fnE Tryz.f129) (.node (.node (.node .leaf 130 (fnE Tryz.f130) .leaf) 131 (fnE Tryz.f131) (.node .leaf 132 (fnE Tryz.f132) .leaf)) 133 (fnE Tryz.f133) (.node (.node .leaf 134 (fnE Tryz.f134) .leaf) 135 (fnE Tryz.f135) .leaf))) 136 (fnE Tryz.f136) (.node (.node (.node (.node .leaf 137 (fnE Tryz.f137) .leaf) 138 (fnE Tryz.f138) (.node .leaf 139 (fnE Tryz.f139) .leaf)) 140 (fnE Tryz.f140) (.node (.node .leaf 141 (fnE Tryz.f141) .leaf) 142 (fnE Tryz.f142) .leaf)) 143 (fnE Tryz.f143) (.node (.node (.node .leaf 144 (fnE Tryz.f144) .leaf) 146 (fnE Tryz.f146) (.node .leaf 147 (fnE Tryz.f147) .leaf)) 148 (fnE Tryz.f148) (.node (.node .leaf 149 (fnE Tryz.f149) .leaf) 150 (fnE Tryz.f150) .leaf)))) 151 (fnE Tryz.f151) (.node (.node (.node (.node (.node .leaf 152 (fnE Tryz.f152) .leaf) 153 (fnE Tryz.f153) (.node .leaf 154 (fnE Tryz.f154) .leaf)) 155 (fnE Tryz.f155) (.node (.node .leaf 157 (fnE Tryz.f157) .leaf) 158 (fnE Tryz.f158) (.node .leaf 159 (fnE Tryz.f159) .leaf))) 160 (fnE Tryz.f160) (.node (.node (.node .leaf 161 (fnE Tryz.f161) .leaf) 162 (fnE Tryz.f162) (.node .leaf 163 (fnE Tryz.f163) .leaf)) 164 (fnE Tryz.f164) (.node (.node .leaf 165 (fnE Tryz.f165) .leaf) 166 (fnE Tryz.f166) .leaf))) 167 (fnE Tryz.f167) (.node (.node (.node (.node .leaf 168 (fnE Tryz.f168) .leaf) 169 (fnE Tryz.f169) (.node .leaf 170 (fnE Tryz.f170) .leaf)) 171 (fnE Tryz.f171) (.node (.node .leaf 172 (fnE Tryz.f172) .leaf) 173 (fnE Tryz.f173) .leaf)) 174 (fnE Tryz.f174) (.node (.node (.node .leaf 175 (fnE Tryz.f175) .leaf) 176 (fnE Tryz.f176) (.node .leaf 177 (fnE Tryz.f177) .leaf)) 178 (fnE Tryz.f178) (.node (.node .leaf 179 (fnE Tryz.f179) .leaf) 180 (fnE Tryz.f180) .leaf))))) 181 (fnE Tryz.f181) (.node (.node (.node (.node (.node (.node .leaf 182 (fnE Tryz.f182) .leaf) 183 (fnE Tryz.f183) (.node .leaf 184 (fnE Tryz.f184) .leaf)) 185 (fnE Tryz.f185) (.node (.node .leaf 186 (fnE Tryz.f186) .leaf) 187 (fnE Tryz.f187) (.node .leaf 188 (fnE Tryz.f188) .leaf))) 189 (fnE Tryz.f189) (.node (.node (.node .leaf 190 (fnE Tryz.f190) .leaf) 191 (fnE Tryz.f191) (.node .leaf 192 (fnE Tryz.f192) .leaf)) 193 (fnE Tryz.f193) (.node (.node .leaf 194 (fnE Tryz.f194) .leaf) 195 (fnE Tryz.f195) .leaf))) 196 (fnE Tryz.f196) (.node (.node (.node (.node .leaf 197 (fnE Tryz.f197) .leaf) 198 (fnE Tryz.f198) (.node .leaf 200 (fnE Tryz.f200) .leaf)) 201 (fnE Tryz.f201) (.node (.node .leaf 202 (fnE Tryz.f202) .leaf) 203 (fnE Tryz.f203) .leaf)) 204 (fnE Tryz.f204) (.node (.node (.node .leaf 205 (fnE Tryz.f205) .leaf) 206 (fnE Tryz.f206) (.node .leaf 207 (fnE Tryz.f207) .leaf)) 208 (fnE Tryz.f208) (.node (.node .leaf 209 (fnE Tryz.f209) .leaf) 210 (fnE Tryz.f210) .leaf)))) 211 (fnE Tryz.f211) (.node (.node (.node (.node (.node .leaf 212 (fnE Tryz.f212) .leaf) 213 (fnE Tryz.f213) (.node .leaf 214 (fnE Tryz.f214) .leaf)) 215 (fnE Tryz.f215) (.node (.node .leaf 216 (fnE Tryz.f216) .leaf) 217 (fnE Tryz.f217) (.node .leaf 218 (fnE Tryz.f218) .leaf))) 219 (fnE Tryz.f219) (.node (.node (.node .leaf 220 (fnE Tryz.f220) .leaf) 221 (fnE Tryz.f221) (.node .leaf 222 (fnE Tryz.f222) .leaf)) 223 (fnE Tryz.f223) (.node (.node .leaf 224 (fnE Tryz.f224) .leaf) 225 (fnE Tryz.f225) .leaf))) 227 (fnE Tryz.f227) (.node (.node (.node (.node .leaf 228 (fnE Tryz.f228) .leaf) 229 (fnE Tryz.f229) (.node .leaf 230 (fnE Tryz.f230) .leaf)) 232 (fnE Tryz.f232) (.node (.node .leaf 233 (fnE Tryz.f233) .leaf) 234 (fnE Tryz.f234) .leaf)) 235 (fnE Tryz.f235) (.node (.node (.node .leaf 236 (fnE Tryz.f236) .leaf) 237 (fnE Tryz.f237) (.node .leaf 238 (fnE Tryz.f238) .leaf)) 239 (fnE Tryz.f239) (.node (.node .leaf 240 (fnE Tryz.f240) .leaf) 241 (fnE Tryz.f241) .leaf)))))))
theorem Wx:BU Tryz.prog tyT:=TO (by
 simp only[tyT,Tr.list,List.nil_append,List.cons_append,List.append_assoc]
 exact⟨⟨Tryz.underlying2,by kernel_rfl,by kernel_rfl,by kernel_rfl,by kernel_rfl,by kernel_rfl⟩,⟨Tryz.underlying3,by kernel_rfl,by kernel_rfl,by kernel_rfl,by kernel_rfl,by kernel_rfl⟩,⟨Tryz.underlying4,by kernel_rfl,by kernel_rfl,by kernel_rfl,by kernel_rfl,by kernel_rfl⟩,⟨Tryz.underlying5,by kernel_rfl,by kernel_rfl,by kernel_rfl,by kernel_rfl,by kernel_rfl⟩,⟨Tryz.underlying9,by kernel_rfl,by kernel_rfl,by kernel_rfl,by kernel_rfl,by kernel_rfl⟩,⟨Tryz.underlying21,by kernel_rfl,by kernel_rfl,by kernel_rfl,by kernel_rfl,by kernel_rfl⟩,⟨Tryz.underlying22,by kernel_rfl,by kernel_rfl,by kernel_rfl,by kernel_rfl,by kernel_rfl⟩,⟨Tryz.underlying24,by kernel_rfl,by kernel_rfl,by kernel_rfl,by kernel_rfl,by kernel_rfl⟩,⟨Tryz.underlying26,by kernel_rfl,by kernel_rfl,by kernel_rfl,by kernel_rfl,by kernel_rfl⟩,⟨Tryz.underlying27,by kernel_rfl,by kernel_rfl,by kernel_rfl,by kernel_rfl,by kernel_rfl⟩,⟨Tryz.underlying29,by kernel_rfl,by kernel_rfl,by kernel_rfl,by kernel_rfl,by kernel_rfl⟩,⟨Tryz.underlying31,by kernel_rfl,by kernel_rfl,by kernel_rfl,by kernel_rfl,by kernel_rfl⟩,⟨Tryz.underlying33,by kernel_rfl,by kernel_rfl,by kernel_rfl,by kernel_rfl,by kernel_rfl⟩,⟨Tryz.underlying36,by kernel_rfl,by kernel_rfl,by kernel_rfl,by kernel_rfl,by kernel_rfl⟩,⟨Tryz.underlying37,by kernel_rfl,by kernel_rfl,by kernel_rfl,by kernel_rfl,by kernel_rfl⟩,⟨Tryz.underlying40,by kernel_rfl,by kernel_rfl,by kernel_rfl,by kernel_rfl,by kernel_rfl⟩,⟨Tryz.underlying42,by kernel_rfl,by kernel_rfl,by kernel_rfl,by kernel_rfl,by kernel_rfl⟩,⟨Tryz.underlying46,by kernel_rfl,by kernel_rfl,by kernel_rfl,by kernel_rfl,by kernel_rfl⟩,⟨Tryz.underlying48,by kernel_rfl,by kernel_rfl,by kernel_rfl,by kernel_rfl,by kernel_rfl⟩,⟨Tryz.underlying55,by kernel_rfl,by kernel_rfl,by kernel_rfl,by kernel_rfl,by kernel_rfl⟩,⟨Tryz.underlying57,by kernel_rfl,by kernel_rfl,by kernel_rfl,by kernel_rfl,by kernel_rfl⟩,⟨Tryz.underlying62,by kernel_rfl,by kernel_rfl,by kernel_rfl,by kernel_rfl,by kernel_rfl⟩,⟨Tryz.underlying63,by kernel_rfl,by kernel_rfl,by kernel_rfl,by kernel_rfl,by kernel_rfl⟩,⟨Tryz.underlying69,by kernel_rfl,by kernel_rfl,by kernel_rfl,by kernel_rfl,by kernel_rfl⟩,⟨Tryz.underlying72,by kernel_rfl,by kernel_rfl,by kernel_rfl,by kernel_rfl,by kernel_rfl⟩,⟨Tryz.underlying81,by kernel_rfl,by kernel_rfl,by kernel_rfl,by kernel_rfl,by kernel_rfl⟩,⟨Tryz.underlying83,by kernel_rfl,by kernel_rfl,by kernel_rfl,by kernel_rfl,by kernel_rfl⟩,⟨Tryz.underlying88,by kernel_rfl,by kernel_rfl,by kernel_rfl,by kernel_rfl,by kernel_rfl⟩,⟨Tryz.underlying99,by kernel_rfl,by kernel_rfl,by kernel_rfl,by kernel_rfl,by kernel_rfl⟩,⟨Tryz.underlying101,by kernel_rfl,by kernel_rfl,by kernel_rfl,by kernel_rfl,by kernel_rfl⟩,⟨Tryz.underlying103,by kernel_rfl,by kernel_rfl,by kernel_rfl,by kernel_rfl,by kernel_rfl⟩,⟨Tryz.underlying106,by kernel_rfl,by kernel_rfl,by kernel_rfl,by kernel_rfl,by kernel_rfl⟩,⟨Tryz.underlying110,by kernel_rfl,by kernel_rfl,by kernel_rfl,by kernel_rfl,by kernel_rfl⟩,⟨Tryz.underlying111,by kernel_rfl,by kernel_rfl,by kernel_rfl,by kernel_rfl,by kernel_rfl⟩,⟨Tryz.underlying114,by kernel_rfl,by kernel_rfl,by kernel_rfl,by kernel_rfl,by kernel_rfl⟩,⟨Tryz.underlying117,by kernel_rfl,by kernel_rfl,by kernel_rfl,by kernel_rfl,by kernel_rfl⟩,⟨Tryz.underlying122,by kernel_rfl,by kernel_rfl,by kernel_rfl,by kernel_rfl,by kernel_rfl⟩,⟨Tryz.underlying123,by kernel_rfl,by kernel_rfl,by kernel_rfl,by kernel_rfl,by kernel_rfl⟩,⟨Tryz.underlying125,by kernel_rfl,by kernel_rfl,by kernel_rfl,by kernel_rfl,by kernel_rfl⟩,⟨Tryz.underlying127,by kernel_rfl,by kernel_rfl,by kernel_rfl,by kernel_rfl,by kernel_rfl⟩,⟨Tryz.underlying147,by kernel_rfl,by kernel_rfl,by kernel_rfl,by kernel_rfl,by kernel_rfl⟩,⟨Tryz.underlying152,by kernel_rfl,by kernel_rfl,by kernel_rfl,by kernel_rfl,by kernel_rfl⟩,⟨Tryz.underlying153,by kernel_rfl,by kernel_rfl,by kernel_rfl,by kernel_rfl,by kernel_rfl⟩,⟨Tryz.underlying155,by kernel_rfl,by kernel_rfl,by kernel_rfl,by kernel_rfl,by kernel_rfl⟩,⟨Tryz.underlying157,by kernel_rfl,by kernel_rfl,by kernel_rfl,by kernel_rfl,by kernel_rfl⟩,⟨Tryz.underlying158,by kernel_rfl,by kernel_rfl,by kernel_rfl,by kernel_rfl,by kernel_rfl⟩,⟨Tryz.underlying159,by kernel_rfl,by kernel_rfl,by kernel_rfl,by kernel_rfl,by kernel_rfl⟩,⟨Tryz.underlying161,by kernel_rfl,by kernel_rfl,by kernel_rfl,by kernel_rfl,by kernel_rfl⟩,⟨Tryz.underlying162,by kernel_rfl,by kernel_rfl,by kernel_rfl,by kernel_rfl,by kernel_rfl⟩,⟨Tryz.underlying163,by kernel_rfl,by kernel_rfl,by kernel_rfl,by kernel_rfl,by kernel_rfl⟩,⟨Tryz.underlying164,by kernel_rfl,by kernel_rfl,by kernel_rfl,by kernel_rfl,by kernel_rfl⟩,⟨Tryz.underlying165,by kernel_rfl,by kernel_rfl,by kernel_rfl,by kernel_rfl,by kernel_rfl⟩,⟨Tryz.underlying177,by kernel_rfl,by kernel_rfl,by kernel_rfl,by kernel_rfl,by kernel_rfl⟩,⟨Tryz.underlying179,by kernel_rfl,by kernel_rfl,by kernel_rfl,by kernel_rfl,by kernel_rfl⟩,⟨Tryz.underlying180,by kernel_rfl,by kernel_rfl,by kernel_rfl,by kernel_rfl,by kernel_rfl⟩,⟨Tryz.underlying184,by kernel_rfl,by kernel_rfl,by kernel_rfl,by kernel_rfl,by kernel_rfl⟩,⟨Tryz.underlying187,by kernel_rfl,by kernel_rfl,by kernel_rfl,by kernel_rfl,by kernel_rfl⟩,⟨Tryz.underlying191,by kernel_rfl,by kernel_rfl,by kernel_rfl,by kernel_rfl,by kernel_rfl⟩,⟨Tryz.underlying193,by kernel_rfl,by kernel_rfl,by kernel_rfl,by kernel_rfl,by kernel_rfl⟩,⟨Tryz.underlying197,by kernel_rfl,by kernel_rfl,by kernel_rfl,by kernel_rfl,by kernel_rfl⟩,⟨Tryz.underlying211,by kernel_rfl,by kernel_rfl,by kernel_rfl,by kernel_rfl,by kernel_rfl⟩,⟨Tryz.underlying216,by kernel_rfl,by kernel_rfl,by kernel_rfl,by kernel_rfl,by kernel_rfl⟩,⟨Tryz.underlying218,by kernel_rfl,by kernel_rfl,by kernel_rfl,by kernel_rfl,by kernel_rfl⟩,⟨Tryz.underlying224,by kernel_rfl,by kernel_rfl,by kernel_rfl,by kernel_rfl,by kernel_rfl⟩,⟨Tryz.underlying227,by kernel_rfl,by kernel_rfl,by kernel_rfl,by kernel_rfl,by kernel_rfl⟩,⟨Tryz.underlying235,by kernel_rfl,by kernel_rfl,by kernel_rfl,by kernel_rfl,by kernel_rfl⟩,⟨Tryz.underlying241,by kernel_rfl,by kernel_rfl,by kernel_rfl,by kernel_rfl,by kernel_rfl⟩,⟨Tryz.underlying249,by kernel_rfl,by kernel_rfl,by kernel_rfl,by kernel_rfl,by kernel_rfl⟩,⟨Tryz.underlying251,by kernel_rfl,by kernel_rfl,by kernel_rfl,by kernel_rfl,by kernel_rfl⟩,⟨Tryz.underlying253,by kernel_rfl,by kernel_rfl,by kernel_rfl,by kernel_rfl,by kernel_rfl⟩,⟨Tryz.underlying256,by kernel_rfl,by kernel_rfl,by kernel_rfl,by kernel_rfl,by kernel_rfl⟩,⟨Tryz.underlying266,by kernel_rfl,by kernel_rfl,by kernel_rfl,by kernel_rfl,by kernel_rfl⟩,⟨Tryz.underlying274,by kernel_rfl,by kernel_rfl,by kernel_rfl,by kernel_rfl,by kernel_rfl⟩,⟨Tryz.underlying276,by kernel_rfl,by kernel_rfl,by kernel_rfl,by kernel_rfl,by kernel_rfl⟩,⟨Tryz.underlying282,by kernel_rfl,by kernel_rfl,by kernel_rfl,by kernel_rfl,by kernel_rfl⟩,⟨Tryz.underlying284,by kernel_rfl,by kernel_rfl,by kernel_rfl,by kernel_rfl,by kernel_rfl⟩,⟨Tryz.underlying288,by kernel_rfl,by kernel_rfl,by kernel_rfl,by kernel_rfl,by kernel_rfl⟩,⟨Tryz.underlying293,by kernel_rfl,by kernel_rfl,by kernel_rfl,by kernel_rfl,by kernel_rfl⟩,⟨Tryz.underlying294,by kernel_rfl,by kernel_rfl,by kernel_rfl,by kernel_rfl,by kernel_rfl⟩,⟨Tryz.underlying298,by kernel_rfl,by kernel_rfl,by kernel_rfl,by kernel_rfl,by kernel_rfl⟩,⟨Tryz.underlying299,by kernel_rfl,by kernel_rfl,by kernel_rfl,by kernel_rfl,by kernel_rfl⟩,trivial⟩)
theorem Wy:MQ Tryz.prog fnT:=RN (by
 simp only[fnT,Tr.list,List.nil_append,List.cons_append,List.append_assoc]
 exact⟨⟨_,_,Tryz.func5,rfl,rfl⟩,⟨_,_,Tryz.func6,rfl,rfl⟩,⟨_,_,Tryz.func7,rfl,rfl⟩,⟨_,_,Tryz.func8,rfl,rfl⟩,⟨_,_,Tryz.func9,rfl,rfl⟩,⟨_,_,Tryz.func10,rfl,rfl⟩,⟨_,_,Tryz.func11,rfl,rfl⟩,⟨_,_,Tryz.func12,rfl,rfl⟩,⟨_,_,Tryz.func13,rfl,rfl⟩,⟨_,_,Tryz.func14,rfl,rfl⟩,⟨_,_,Tryz.func15,rfl,rfl⟩,⟨_,_,Tryz.func16,rfl,rfl⟩,⟨_,_,Tryz.func17,rfl,rfl⟩,⟨_,_,Tryz.func18,rfl,rfl⟩,⟨_,_,Tryz.func19,rfl,rfl⟩,⟨_,_,Tryz.func20,rfl,rfl⟩,⟨_,_,Tryz.func21,rfl,rfl⟩,⟨_,_,Tryz.func22,rfl,rfl⟩,⟨_,_,Tryz.func23,rfl,rfl⟩,⟨_,_,Tryz.func24,rfl,rfl⟩,⟨_,_,Tryz.func25,rfl,rfl⟩,⟨_,_,Tryz.func26,rfl,rfl⟩,⟨_,_,Tryz.func27,rfl,rfl⟩,⟨_,_,Tryz.func28,rfl,rfl⟩,⟨_,_,Tryz.func29,rfl,rfl⟩,⟨_,_,Tryz.func30,rfl,rfl⟩,⟨_,_,Tryz.func31,rfl,rfl⟩,⟨_,_,Tryz.func32,rfl,rfl⟩,⟨_,_,Tryz.func33,rfl,rfl⟩,⟨_,_,Tryz.func34,rfl,rfl⟩,⟨_,_,Tryz.func35,rfl,rfl⟩,⟨_,_,Tryz.func36,rfl,rfl⟩,⟨_,_,Tryz.func37,rfl,rfl⟩,⟨_,_,Tryz.func38,rfl,rfl⟩,⟨_,_,Tryz.func39,rfl,rfl⟩,⟨_,_,Tryz.func40,rfl,rfl⟩,⟨_,_,Tryz.func41,rfl,rfl⟩,⟨_,_,Tryz.func42,rfl,rfl⟩,⟨_,_,Tryz.func43,rfl,rfl⟩,⟨_,_,Tryz.func44,rfl,rfl⟩,⟨_,_,Tryz.func45,rfl,rfl⟩,⟨_,_,Tryz.func46,rfl,rfl⟩,⟨_,_,Tryz.func47,rfl,rfl⟩,⟨_,_,Tryz.func48,rfl,rfl⟩,⟨_,_,Tryz.func49,rfl,rfl⟩,⟨_,_,Tryz.func50,rfl,rfl⟩,⟨_,_,Tryz.func51,rfl,rfl⟩,⟨_,_,Tryz.func52,rfl,rfl⟩,⟨_,_,Tryz.func53,rfl,rfl⟩,⟨_,_,Tryz.func54,rfl,rfl⟩,⟨_,_,Tryz.func55,rfl,rfl⟩,⟨_,_,Tryz.func56,rfl,rfl⟩,⟨_,_,Tryz.func57,rfl,rfl⟩,⟨_,_,Tryz.func58,rfl,rfl⟩,⟨_,_,Tryz.func59,rfl,rfl⟩,⟨_,_,Tryz.func60,rfl,rfl⟩,⟨_,_,Tryz.func61,rfl,rfl⟩,⟨_,_,Tryz.func62,rfl,rfl⟩,⟨_,_,Tryz.func63,rfl,rfl⟩,⟨_,_,Tryz.func64,rfl,rfl⟩,⟨_,_,Tryz.func65,rfl,rfl⟩,⟨_,_,Tryz.func66,rfl,rfl⟩,⟨_,_,Tryz.func67,rfl,rfl⟩,⟨_,_,Tryz.func68,rfl,rfl⟩,⟨_,_,Tryz.func69,rfl,rfl⟩,⟨_,_,Tryz.func70,rfl,rfl⟩,⟨_,_,Tryz.func71,rfl,rfl⟩,⟨_,_,Tryz.func72,rfl,rfl⟩,⟨_,_,Tryz.func73,rfl,rfl⟩,⟨_,_,Tryz.func74,rfl,rfl⟩,⟨_,_,Tryz.func75,rfl,rfl⟩,⟨_,_,Tryz.func76,rfl,rfl⟩,⟨_,_,Tryz.func77,rfl,rfl⟩,⟨_,_,Tryz.func78,rfl,rfl⟩,⟨_,_,Tryz.func79,rfl,rfl⟩,⟨_,_,Tryz.func80,rfl,rfl⟩,⟨_,_,Tryz.func81,rfl,rfl⟩,⟨_,_,Tryz.func82,rfl,rfl⟩,⟨_,_,Tryz.func83,rfl,rfl⟩,⟨_,_,Tryz.func84,rfl,rfl⟩,⟨_,_,Tryz.func85,rfl,rfl⟩,⟨_,_,Tryz.func86,rfl,rfl⟩,⟨_,_,Tryz.func87,rfl,rfl⟩,⟨_,_,Tryz.func88,rfl,rfl⟩,⟨_,_,Tryz.func89,rfl,rfl⟩,⟨_,_,Tryz.func90,rfl,rfl⟩,⟨_,_,Tryz.func91,rfl,rfl⟩,⟨_,_,Tryz.func92,rfl,rfl⟩,⟨_,_,Tryz.func93,rfl,rfl⟩,⟨_,_,Tryz.func94,rfl,rfl⟩,⟨_,_,Tryz.func95,rfl,rfl⟩,⟨_,_,Tryz.func96,rfl,rfl⟩,⟨_,_,Tryz.func97,rfl,rfl⟩,⟨_,_,Tryz.func98,rfl,rfl⟩,⟨_,_,Tryz.func99,rfl,rfl⟩,⟨_,_,Tryz.func100,rfl,rfl⟩,⟨_,_,Tryz.func101,rfl,rfl⟩,⟨_,_,Tryz.func102,rfl,rfl⟩,⟨_,_,Tryz.func103,rfl,rfl⟩,⟨_,_,Tryz.func104,rfl,rfl⟩,⟨_,_,Tryz.func105,rfl,rfl⟩,⟨_,_,Tryz.func106,rfl,rfl⟩,⟨_,_,Tryz.func107,rfl,rfl⟩,⟨_,_,Tryz.func108,rfl,rfl⟩,⟨_,_,Tryz.func109,rfl,rfl⟩,⟨_,_,Tryz.func110,rfl,rfl⟩,⟨_,_,Tryz.func111,rfl,rfl⟩,⟨_,_,Tryz.func112,rfl,rfl⟩,⟨_,_,Tryz.func113,rfl,rfl⟩,⟨_,_,Tryz.func114,rfl,rfl⟩,⟨_,_,Tryz.func115,rfl,rfl⟩,⟨_,_,Tryz.func116,rfl,rfl⟩,⟨_,_,Tryz.func117,rfl,rfl⟩,⟨_,_,Tryz.func118,rfl,rfl⟩,⟨_,_,Tryz.func119,rfl,rfl⟩,⟨_,_,Tryz.func120,rfl,rfl⟩,⟨_,_,Tryz.func121,rfl,rfl⟩,⟨_,_,Tryz.func122,rfl,rfl⟩,⟨_,_,Tryz.func123,rfl,rfl⟩,⟨_,_,Tryz.func124,rfl,rfl⟩,⟨_,_,Tryz.func125,rfl,rfl⟩,⟨_,_,Tryz.func126,rfl,rfl⟩,⟨_,_,Tryz.func127,rfl,rfl⟩,⟨_,_,Tryz.func128,rfl,rfl⟩,⟨_,_,Tryz.func129,rfl,rfl⟩,⟨_,_,Tryz.func130,rfl,rfl⟩,⟨_,_,Tryz.func131,rfl,rfl⟩,⟨_,_,Tryz.func132,rfl,rfl⟩,⟨_,_,Tryz.func133,rfl,rfl⟩,⟨_,_,Tryz.func134,rfl,rfl⟩,⟨_,_,Tryz.func135,rfl,rfl⟩,⟨_,_,Tryz.func136,rfl,rfl⟩,⟨_,_,Tryz.func137,rfl,rfl⟩,⟨_,_,Tryz.func138,rfl,rfl⟩,⟨_,_,Tryz.func139,rfl,rfl⟩,⟨_,_,Tryz.func140,rfl,rfl⟩,⟨_,_,Tryz.func141,rfl,rfl⟩,⟨_,_,Tryz.func142,rfl,rfl⟩,⟨_,_,Tryz.func143,rfl,rfl⟩,⟨_,_,Tryz.func144,rfl,rfl⟩,⟨_,_,Tryz.func146,rfl,rfl⟩,⟨_,_,Tryz.func147,rfl,rfl⟩,⟨_,_,Tryz.func148,rfl,rfl⟩,⟨_,_,Tryz.func149,rfl,rfl⟩,⟨_,_,Tryz.func150,rfl,rfl⟩,⟨_,_,Tryz.func151,rfl,rfl⟩,⟨_,_,Tryz.func152,rfl,rfl⟩,⟨_,_,Tryz.func153,rfl,rfl⟩,⟨_,_,Tryz.func154,rfl,rfl⟩,⟨_,_,Tryz.func155,rfl,rfl⟩,⟨_,_,Tryz.func157,rfl,rfl⟩,⟨_,_,Tryz.func158,rfl,rfl⟩,⟨_,_,Tryz.func159,rfl,rfl⟩,⟨_,_,Tryz.func160,rfl,rfl⟩,⟨_,_,Tryz.func161,rfl,rfl⟩,⟨_,_,Tryz.func162,rfl,rfl⟩,⟨_,_,Tryz.func163,rfl,rfl⟩,⟨_,_,Tryz.func164,rfl,rfl⟩,⟨_,_,Tryz.func165,rfl,rfl⟩,⟨_,_,Tryz.func166,rfl,rfl⟩,⟨_,_,Tryz.func167,rfl,rfl⟩,⟨_,_,Tryz.func168,rfl,rfl⟩,⟨_,_,Tryz.func169,rfl,rfl⟩,⟨_,_,Tryz.func170,rfl,rfl⟩,⟨_,_,Tryz.func171,rfl,rfl⟩,⟨_,_,Tryz.func172,rfl,rfl⟩,⟨_,_,Tryz.func173,rfl,rfl⟩,⟨_,_,Tryz.func174,rfl,rfl⟩,⟨_,_,Tryz.func175,rfl,rfl⟩,⟨_,_,Tryz.func176,rfl,rfl⟩,⟨_,_,Tryz.func177,rfl,rfl⟩,⟨_,_,Tryz.func178,rfl,rfl⟩,⟨_,_,Tryz.func179,rfl,rfl⟩,⟨_,_,Tryz.func180,rfl,rfl⟩,⟨_,_,Tryz.func181,rfl,rfl⟩,⟨_,_,Tryz.func182,rfl,rfl⟩,⟨_,_,Tryz.func183,rfl,rfl⟩,⟨_,_,Tryz.func184,rfl,rfl⟩,⟨_,_,Tryz.func185,rfl,rfl⟩,⟨_,_,Tryz.func186,rfl,rfl⟩,⟨_,_,Tryz.func187,rfl,rfl⟩,⟨_,_,Tryz.func188,rfl,rfl⟩,⟨_,_,Tryz.func189,rfl,rfl⟩,⟨_,_,Tryz.func190,rfl,rfl⟩,⟨_,_,Tryz.func191,rfl,rfl⟩,⟨_,_,Tryz.func192,rfl,rfl⟩,⟨_,_,Tryz.func193,rfl,rfl⟩,⟨_,_,Tryz.func194,rfl,rfl⟩,⟨_,_,Tryz.func195,rfl,rfl⟩,⟨_,_,Tryz.func196,rfl,rfl⟩,⟨_,_,Tryz.func197,rfl,rfl⟩,⟨_,_,Tryz.func198,rfl,rfl⟩,⟨_,_,Tryz.func200,rfl,rfl⟩,⟨_,_,Tryz.func201,rfl,rfl⟩,⟨_,_,Tryz.func202,rfl,rfl⟩,⟨_,_,Tryz.func203,rfl,rfl⟩,⟨_,_,Tryz.func204,rfl,rfl⟩,⟨_,_,Tryz.func205,rfl,rfl⟩,⟨_,_,Tryz.func206,rfl,rfl⟩,⟨_,_,Tryz.func207,rfl,rfl⟩,⟨_,_,Tryz.func208,rfl,rfl⟩,⟨_,_,Tryz.func209,rfl,rfl⟩,⟨_,_,Tryz.func210,rfl,rfl⟩,⟨_,_,Tryz.func211,rfl,rfl⟩,⟨_,_,Tryz.func212,rfl,rfl⟩,⟨_,_,Tryz.func213,rfl,rfl⟩,⟨_,_,Tryz.func214,rfl,rfl⟩,⟨_,_,Tryz.func215,rfl,rfl⟩,⟨_,_,Tryz.func216,rfl,rfl⟩,⟨_,_,Tryz.func217,rfl,rfl⟩,⟨_,_,Tryz.func218,rfl,rfl⟩,⟨_,_,Tryz.func219,rfl,rfl⟩,⟨_,_,Tryz.func220,rfl,rfl⟩,⟨_,_,Tryz.func221,rfl,rfl⟩,⟨_,_,Tryz.func222,rfl,rfl⟩,⟨_,_,Tryz.func223,rfl,rfl⟩,⟨_,_,Tryz.func224,rfl,rfl⟩,⟨_,_,Tryz.func225,rfl,rfl⟩,⟨_,_,Tryz.func227,rfl,rfl⟩,⟨_,_,Tryz.func228,rfl,rfl⟩,⟨_,_,Tryz.func229,rfl,rfl⟩,⟨_,_,Tryz.func230,rfl,rfl⟩,⟨_,_,Tryz.func232,rfl,rfl⟩,⟨_,_,Tryz.func233,rfl,rfl⟩,⟨_,_,Tryz.func234,rfl,rfl⟩,⟨_,_,Tryz.func235,rfl,rfl⟩,⟨_,_,Tryz.func236,rfl,rfl⟩,⟨_,_,Tryz.func237,rfl,rfl⟩,⟨_,_,Tryz.func238,rfl,rfl⟩,⟨_,_,Tryz.func239,rfl,rfl⟩,⟨_,_,Tryz.func240,rfl,rfl⟩,⟨_,_,Tryz.func241,rfl,rfl⟩,trivial⟩)
end Go.Ev
namespace Go.Ev
def TT:CI:=⟨[0,1,2,3,4,5,6],[([true,true,true,true,true,true,true,false,false,false,false,false,false,false],[(7,0)]),([true,true,true,true,true,true,true,true,false,false,false,false,false,false],[(8,0)]),([true,true,true,true,true,true,true,true,true,false,false,false,false,false],[(9,0)]),([true,true,true,true,true,true,true,true,true,true,false,false,false,false],[(10,0)]),([true,true,true,true,true,true,true,true,true,true,true,false,false,false],[(11,0)]),([true,true,true,true,true,true,true,true,true,true,true,true,false,false],[(12,0)]),([true,true,true,true,true,true,true,true,true,true,true,true,true,false],[(13,0)]),([true,true,true,true,true,true,true,true,true,true,true,true,true,true],[])]⟩
def Wz:CI:=⟨[0,1,2,3,4,6],[([true,true,true,true,true,false,true,false,false,false,false,false,false,false],[(5,0)]),([true,true,true,true,true,true,true,false,false,false,false,false,false,false],[(7,0)]),([true,true,true,true,true,true,true,true,false,false,false,false,false,false],[(8,0)]),([true,true,true,true,true,true,true,true,true,false,false,false,false,false],[(9,0)]),([true,true,true,true,true,true,true,true,true,true,false,false,false,false],[(10,0)]),([true,true,true,true,true,true,true,true,true,true,true,false,false,false],[(11,0)]),([true,true,true,true,true,true,true,true,true,true,true,true,false,false],[(12,0)]),([true,true,true,true,true,true,true,true,true,true,true,true,true,false],[(13,0)]),([true,true,true,true,true,true,true,true,true,true,true,true,true,true],[])]⟩
def TU:CI:=⟨[0,1,3,4,5,6,7],[([true,true,false,true,true,true,true,true,false,false],[(2,0)]),([true,true,true,true,true,true,true,true,false,false],[(8,0)]),([true,true,true,true,true,true,true,true,true,false],[(9,0)]),([true,true,true,true,true,true,true,true,true,true],[])]⟩
def TV:CI:=⟨[0,1],[([true,true,false,false,false,false,false,false,false,false,false],[(2,0)]),([true,true,true,false,false,false,false,false,false,false,false],[(3,0)]),([true,true,true,true,false,false,false,false,false,false,false],[(6,0)]),([true,true,true,true,false,false,true,false,false,false,false],[(4,0)]),([true,true,true,true,true,false,true,false,false,false,false],[(5,0)]),([true,true,true,true,true,true,true,false,false,false,false],[(7,0)]),([true,true,true,true,true,true,true,true,false,false,false],[(8,0)]),([true,true,true,true,true,true,true,true,true,false,false],[(9,0)]),([true,true,true,true,true,true,true,true,true,true,false],[(10,0)]),([true,true,true,true,true,true,true,true,true,true,true],[])]⟩
def W5:CI:=⟨[0,3,4],[([true,false,false,true,true,false,false],[(1,0)]),([true,true,false,true,true,false,false],[(2,0)]),([true,true,true,true,true,false,false],[(5,0)]),([true,true,true,true,true,true,false],[(6,0)]),([true,true,true,true,true,true,true],[])]⟩
def TW:CI:=⟨[0,1,2],[([true,true,true,false,false,false,false],[(3,0)]),([true,true,true,true,false,false,false],[(4,0)]),([true,true,true,true,true,false,false],[(5,0)]),([true,true,true,true,true,true,false],[(6,0)]),([true,true,true,true,true,true,true],[])]⟩
def W6:CI:=⟨[0,1,2,5,6,7],[([true,true,true,false,false,true,true,true,false,false,false,false],[(3,0),(8,1)]),([true,true,true,true,false,true,true,true,false,false,false,false],[(4,1),(8,2)]),([true,true,true,false,false,true,true,true,true,false,false,false],[(9,2)]),([true,true,true,true,true,true,true,true,false,false,false,false],[(8,2)]),([true,true,true,true,false,true,true,true,true,false,false,false],[(9,2)]),([true,true,true,false,false,true,true,true,true,true,false,false],[(3,1)]),([true,true,true,true,true,true,true,true,true,false,false,false],[(9,1)]),([true,true,true,true,false,true,true,true,true,true,false,false],[(4,0)]),([true,true,true,true,true,true,true,true,true,true,false,false],[(10,0)]),([true,true,true,true,true,true,true,true,true,true,true,false],[(11,0)]),([true,true,true,true,true,true,true,true,true,true,true,true],[])]⟩
def W7:CI:=⟨[0,1,2,4,5,6],[([true,true,true,false,true,true,true,false,false,false],[(3,0),(7,1)]),([true,true,true,true,true,true,true,false,false,false],[(7,1),(8,2)]),([true,true,true,false,true,true,true,true,false,false],[(3,0)]),([true,true,true,true,true,true,true,true,false,false],[(8,1)]),([true,true,true,true,true,true,true,false,true,false],[(7,0)]),([true,true,true,true,true,true,true,true,true,false],[(9,0)]),([true,true,true,true,true,true,true,true,true,true],[])]⟩
def W8:CI:=⟨[0,1,2,3,4,5],[([true,true,true,true,true,true,false],[(6,0)]),([true,true,true,true,true,true,true],[])]⟩
def W9:CI:=⟨[1,2,3,8],[([false,true,true,true,false,false,false,false,true],[(0,0)]),([true,true,true,true,false,false,false,false,true],[(4,0)]),([true,true,true,true,true,false,false,false,true],[(5,0)]),([true,true,true,true,true,true,false,false,true],[(6,0)]),([true,true,true,true,true,true,true,false,true],[(7,0)]),([true,true,true,true,true,true,true,true,true],[])]⟩
def XA:CI:=⟨[1,2,3],[([false,true,true,true,false,false,false,false],[(0,0),(6,1)]),([true,true,true,true,false,false,false,false],[(4,1)]),([false,true,true,true,false,false,true,false],[(0,1)]),([true,true,true,true,true,false,false,false],[(5,1),(6,2)]),([true,true,true,true,false,false,true,false],[(4,1)]),([true,true,true,true,true,true,false,false],[(6,1)]),([true,true,true,true,true,false,true,false],[(5,0)]),([true,true,true,true,true,true,true,false],[(7,0)]),([true,true,true,true,true,true,true,true],[])]⟩
def XB:CI:=⟨[0,3,4,5],[([true,false,false,true,true,true,false,false,false,false],[(1,0),(6,1)]),([true,true,false,true,true,true,false,false,false,false],[(2,1),(6,2)]),([true,false,false,true,true,true,true,false,false,false],[(1,1)]),([true,true,true,true,true,true,false,false,false,false],[(6,1)]),([true,true,false,true,true,true,true,false,false,false],[(2,0)]),([true,true,true,true,true,true,true,false,false,false],[(7,0)]),([true,true,true,true,true,true,true,true,false,false],[(8,0)]),([true,true,true,true,true,true,true,true,true,false],[(9,0)]),([true,true,true,true,true,true,true,true,true,true],[])]⟩
def XC:CI:=⟨[0,3,4,5],[([true,false,false,true,true,true,false,false,false,false],[(1,0),(6,1)]),([true,true,false,true,true,true,false,false,false,false],[(2,1),(6,2)]),([true,false,false,true,true,true,true,false,false,false],[(1,1)]),([true,true,true,true,true,true,false,false,false,false],[(6,1)]),([true,true,false,true,true,true,true,false,false,false],[(2,0)]),([true,true,true,true,true,true,true,false,false,false],[(7,0)]),([true,true,true,true,true,true,true,true,false,false],[(8,0)]),([true,true,true,true,true,true,true,true,true,false],[(9,0)]),([true,true,true,true,true,true,true,true,true,true],[])]⟩
def TX:CI:=⟨[0,1,2,3,4,5,6,7,8,9],[([true,true,true,true,true,true,true,true,true,true],[])]⟩
def Rb:CI:=⟨[0,1,2,3,4,5,6,7,8,9],[([true,true,true,true,true,true,true,true,true,true],[])]⟩
def TY:CI:=⟨[0,1,2,3,5,6,7,8,9,10,11,12,13,14],[([true,true,true,true,false,true,true,true,true,true,true,true,true,true,true,false,false,false,false,false,false,false],[(4,0),(15,1)]),([true,true,true,true,true,true,true,true,true,true,true,true,true,true,true,false,false,false,false,false,false,false],[(15,1)]),([true,true,true,true,false,true,true,true,true,true,true,true,true,true,true,true,false,false,false,false,false,false],[(16,1)]),([true,true,true,true,true,true,true,true,true,true,true,true,true,true,true,true,false,false,false,false,false,false],[(16,1)]),([true,true,true,true,false,true,true,true,true,true,true,true,true,true,true,true,true,false,false,false,false,false],[(4,0),(17,1)]),([true,true,true,true,true,true,true,true,true,true,true,true,true,true,true,true,true,false,false,false,false,false],[(17,1)]),([true,true,true,true,false,true,true,true,true,true,true,true,true,true,true,true,true,true,false,false,false,false],[(4,0)]),([true,true,true,true,true,true,true,true,true,true,true,true,true,true,true,true,true,true,false,false,false,false],[(18,0)]),([true,true,true,true,true,true,true,true,true,true,true,true,true,true,true,true,true,true,true,false,false,false],[(19,0)]),([true,true,true,true,true,true,true,true,true,true,true,true,true,true,true,true,true,true,true,true,false,false],[(20,0)]),([true,true,true,true,true,true,true,true,true,true,true,true,true,true,true,true,true,true,true,true,true,false],[(21,0)]),([true,true,true,true,true,true,true,true,true,true,true,true,true,true,true,true,true,true,true,true,true,true],[])]⟩
def TZ:CI:=⟨[0,1,2,3,5,6,7,8,9,10,11,12,13,14],[([true,true,true,true,false,true,true,true,true,true,true,true,true,true,true,false,false,false,false,false],[(4,0),(15,1)]),([true,true,true,true,true,true,true,true,true,true,true,true,true,true,true,false,false,false,false,false],[(15,1)]),([true,true,true,true,false,true,true,true,true,true,true,true,true,true,true,true,false,false,false,false],[(4,0)]),([true,true,true,true,true,true,true,true,true,true,true,true,true,true,true,true,false,false,false,false],[(16,0)]),([true,true,true,true,true,true,true,true,true,true,true,true,true,true,true,true,true,false,false,false],[(17,0)]),([true,true,true,true,true,true,true,true,true,true,true,true,true,true,true,true,true,true,false,false],[(18,0)]),([true,true,true,true,true,true,true,true,true,true,true,true,true,true,true,true,true,true,true,false],[(19,0)]),([true,true,true,true,true,true,true,true,true,true,true,true,true,true,true,true,true,true,true,true],[])]⟩
def Rc:CI:=⟨[0,1,2,3,5,6,7,8,9,10,11],[([true,true,true,true,false,true,true,true,true,true,true,true,false,false,false,false,false],[(4,0),(12,1)]),([true,true,true,true,true,true,true,true,true,true,true,true,false,false,false,false,false],[(12,1)]),([true,true,true,true,false,true,true,true,true,true,true,true,true,false,false,false,false],[(4,0)]),([true,true,true,true,true,true,true,true,true,true,true,true,true,false,false,false,false],[(13,0)]),([true,true,true,true,true,true,true,true,true,true,true,true,true,true,false,false,false],[(14,0)]),([true,true,true,true,true,true,true,true,true,true,true,true,true,true,true,false,false],[(15,0)]),([true,true,true,true,true,true,true,true,true,true,true,true,true,true,true,true,false],[(16,0)]),([true,true,true,true,true,true,true,true,true,true,true,true,true,true,true,true,true],[])]⟩
def Re:CI:=⟨[0,1,2,3,5,6,7,8,9,10,11],[([true,true,true,true,false,true,true,true,true,true,true,true,false,false,false,false,false],[(4,0),(12,1)]),([true,true,true,true,true,true,true,true,true,true,true,true,false,false,false,false,false],[(12,1)]),([true,true,true,true,false,true,true,true,true,true,true,true,true,false,false,false,false],[(4,0)]),([true,true,true,true,true,true,true,true,true,true,true,true,true,false,false,false,false],[(13,0)]),([true,true,true,true,true,true,true,true,true,true,true,true,true,true,false,false,false],[(14,0)]),([true,true,true,true,true,true,true,true,true,true,true,true,true,true,true,false,false],[(15,0)]),([true,true,true,true,true,true,true,true,true,true,true,true,true,true,true,true,false],[(16,0)]),([true,true,true,true,true,true,true,true,true,true,true,true,true,true,true,true,true],[])]⟩
def Rf:CI:=⟨[0,1,2,3,5,6,7,8,9,10,11],[([true,true,true,true,false,true,true,true,true,true,true,true,false,false,false,false,false],[(4,0),(12,1)]),([true,true,true,true,true,true,true,true,true,true,true,true,false,false,false,false,false],[(12,1)]),([true,true,true,true,false,true,true,true,true,true,true,true,true,false,false,false,false],[(4,0)]),([true,true,true,true,true,true,true,true,true,true,true,true,true,false,false,false,false],[(13,0)]),([true,true,true,true,true,true,true,true,true,true,true,true,true,true,false,false,false],[(14,0)]),([true,true,true,true,true,true,true,true,true,true,true,true,true,true,true,false,false],[(15,0)]),([true,true,true,true,true,true,true,true,true,true,true,true,true,true,true,true,false],[(16,0)]),([true,true,true,true,true,true,true,true,true,true,true,true,true,true,true,true,true],[])]⟩
def Ta:CI:=⟨[0,1,2,3,4,5,6,7,8,9,10,11],[([true,true,true,true,true,true,true,true,true,true,true,true,false],[(12,0)]),([true,true,true,true,true,true,true,true,true,true,true,true,true],[])]⟩
def Tb:CI:=⟨[0,1,2,3,5],[([true,true,true,true,false,true,false,false],[(4,0)]),([true,true,true,true,true,true,false,false],[(6,0)]),([true,true,true,true,true,true,true,false],[(7,0)]),([true,true,true,true,true,true,true,true],[])]⟩
def Tc:CI:=⟨[0,1,2,3,4,5,6,7,8,9,10,11,12],[([true,true,true,true,true,true,true,true,true,true,true,true,true,false,false],[(13,0)]),([true,true,true,true,true,true,true,true,true,true,true,true,true,true,false],[(14,0)]),([true,true,true,true,true,true,true,true,true,true,true,true,true,true,true],[])]⟩
def Rh:CI:=⟨[0,1,2,3,5],[([true,true,true,true,false,true,false,false],[(4,0)]),([true,true,true,true,true,true,false,false],[(6,0)]),([true,true,true,true,true,true,true,false],[(7,0)]),([true,true,true,true,true,true,true,true],[])]⟩
def Ri:CI:=⟨[0,1,2,3,4,13],[([true,true,true,true,true,false,false,false,false,false,false,false,false,true,false,false],[(5,0)]),([true,true,true,true,true,true,false,false,false,false,false,false,false,true,false,false],[(6,0)]),([true,true,true,true,true,true,true,false,false,false,false,false,false,true,false,false],[(7,0)]),([true,true,true,true,true,true,true,true,false,false,false,false,false,true,false,false],[(9,0)]),([true,true,true,true,true,true,true,true,false,true,false,false,false,true,false,false],[(8,0),(10,1),(14,2)]),([true,true,true,true,true,true,true,true,true,true,false,false,false,true,false,false],[(10,2),(14,3)]),([true,true,true,true,true,true,true,true,false,true,true,false,false,true,false,false],[(8,1),(14,3)]),([true,true,true,true,true,true,true,true,false,true,false,false,false,true,true,false],[(8,1),(10,2)]),([true,true,true,true,true,true,true,true,true,true,true,false,false,true,false,false],[(11,2)]),([true,true,true,true,true,true,true,true,true,true,false,false,false,true,true,false],[(10,2)]),([true,true,true,true,true,true,true,true,false,true,true,false,false,true,true,false],[(8,1)]),([true,true,true,true,true,true,true,true,true,true,true,true,false,true,false,false],[(12,1)]),([true,true,true,true,true,true,true,true,true,true,true,false,false,true,true,false],[(11,1)]),([true,true,true,true,true,true,true,true,true,true,true,true,true,true,false,false],[(14,1)]),([true,true,true,true,true,true,true,true,true,true,true,true,false,true,true,false],[(12,0)]),([true,true,true,true,true,true,true,true,true,true,true,true,true,true,true,false],[(15,0)]),([true,true,true,true,true,true,true,true,true,true,true,true,true,true,true,true],[])]⟩
def Td:CI:=⟨[0,1,2,3,5,6,7,8,9,11],[([true,true,true,true,false,true,true,true,true,true,false,true,false],[(4,0)]),([true,true,true,true,true,true,true,true,true,true,false,true,false],[(10,0)]),([true,true,true,true,true,true,true,true,true,true,true,true,false],[(12,0)]),([true,true,true,true,true,true,true,true,true,true,true,true,true],[])]⟩
def Te:CI:=⟨[0,1,2,3,4,5,6,7,8,9,10,11,12,13],[([true,true,true,true,true,true,true,true,true,true,true,true,true,true,false,false,false],[(14,0)]),([true,true,true,true,true,true,true,true,true,true,true,true,true,true,true,false,false],[(15,0)]),([true,true,true,true,true,true,true,true,true,true,true,true,true,true,true,true,false],[(16,0)]),([true,true,true,true,true,true,true,true,true,true,true,true,true,true,true,true,true],[])]⟩
def Tf:CI:=⟨[0,1,2,3,4,5,6,7,8,10,11,12],[([true,true,true,true,true,true,true,true,true,false,true,true,true,false,false,false,false,false],[(9,0),(13,1)]),([true,true,true,true,true,true,true,true,true,true,true,true,true,false,false,false,false,false],[(13,1)]),([true,true,true,true,true,true,true,true,true,false,true,true,true,true,false,false,false,false],[(9,0)]),([true,true,true,true,true,true,true,true,true,true,true,true,true,true,false,false,false,false],[(14,0)]),([true,true,true,true,true,true,true,true,true,true,true,true,true,true,true,false,false,false],[(15,0)]),([true,true,true,true,true,true,true,true,true,true,true,true,true,true,true,true,false,false],[(16,0)]),([true,true,true,true,true,true,true,true,true,true,true,true,true,true,true,true,true,false],[(17,0)]),([true,true,true,true,true,true,true,true,true,true,true,true,true,true,true,true,true,true],[])]⟩
def Tg:CI:=⟨[0,1,2,3,6,9,10,11,12,13],[([true,true,true,true,false,false,true,false,false,true,true,true,true,true,false,false],[(4,0)]),([true,true,true,true,true,false,true,false,false,true,true,true,true,true,false,false],[(5,0)]),([true,true,true,true,true,true,true,false,false,true,true,true,true,true,false,false],[(7,0)]),([true,true,true,true,true,true,true,true,false,true,true,true,true,true,false,false],[(8,0)]),([true,true,true,true,true,true,true,true,true,true,true,true,true,true,false,false],[(14,0)]),([true,true,true,true,true,true,true,true,true,true,true,true,true,true,true,false],[(15,0)]),([true,true,true,true,true,true,true,true,true,true,true,true,true,true,true,true],[])]⟩
def plT:Tr CI:=(.node (.node (.node (.node (.node .leaf 23565 TT .leaf) 55299 Wz (.node .leaf 55306 TU .leaf)) 55312 TV (.node (.node .leaf 56329 W5 .leaf) 56349 TW (.node .leaf 62465 W6 .leaf))) 87044 W7 (.node (.node (.node .leaf 93185 W8 .leaf) 95236 W9 (.node .leaf 96257 XA .leaf)) 99334 XB (.node (.node .leaf 99336 XC .leaf) 104454 TX .leaf))) 104459 Rb (.node (.node (.node (.node .leaf 110597 TY .leaf) 110600 TZ (.node .leaf 110602 Rc .leaf)) 110604 Re (.node (.node .leaf 110606 Rf .leaf) 137223 Ta (.node .leaf 147462 Tb .leaf))) 147464 Tc (.node (.node (.node .leaf 147469 Rh .leaf) 147471 Ri (.node .leaf 176131 Td .leaf)) 178180 Te (.node (.node .leaf 178182 Tf .leaf) 208896 Tg .leaf))))
end Go.Ev
namespace Go.Ev
open Go Go.Vl Go.RowKit Go.Proofs
noncomputable def T0:Tab:=⟨tyT,fnT,[117,83,81],plT,[93,94,54,134,135,91,100,104,136,107]⟩
def Mb (T:Tab):List (Nat×(Code×Nat×List ResultVar))→Prop
 |[]=>True
 |(f,e)::l=>AD T f e.1=true∧Mb T l
theorem Gq {T:Tab}:∀{l:List (Nat×(Code×Nat×List ResultVar))},Mb T l→∀f e,(f,e)∈l→AD T f e.1=true
 |[],_,_,_,h=>by cases h
 |(f',e')::l,h,f,e,hm=>by
  rcases List.mem_cons.1 hm with q |hm
  ·cases q;exact h.1
  ·exact Gq h.2 f e hm
def Oj (P:Program):List (Nat×(Code×Nat×List ResultVar))→Prop
 |[]=>True
 |(f,_)::l=>(∀(args:Array Value) (w:World),(callFunc f args).run P w=.ok (.enter f args) w)∧Oj P l
theorem IB {P:Program}:∀{l:List (Nat×(Code×Nat×List ResultVar))},Oj P l→∀f e,(f,e)∈l→∀(args:Array Value) (w:World),(callFunc f args).run P w=.ok (.enter f args) w
 |[],_,_,_,h=>by cases h
 |(f',e')::l,h,f,e,hm=>by
  rcases List.mem_cons.1 hm with q |hm
  ·cases q;exact h.1
  ·exact IB h.2 f e hm
theorem ZF:AD T0 5 (fnE Tryz.f5).1=true:=by kernel_rfl
theorem ZG:AD T0 6 (fnE Tryz.f6).1=true:=by kernel_rfl
theorem ZH:AD T0 7 (fnE Tryz.f7).1=true:=by kernel_rfl
theorem ZI:AD T0 8 (fnE Tryz.f8).1=true:=by kernel_rfl
theorem ZJ:AD T0 9 (fnE Tryz.f9).1=true:=by kernel_rfl
theorem XD:AD T0 10 (fnE Tryz.f10).1=true:=by kernel_rfl
theorem XE:AD T0 11 (fnE Tryz.f11).1=true:=by kernel_rfl
theorem XF:AD T0 12 (fnE Tryz.f12).1=true:=by kernel_rfl
theorem XG:AD T0 13 (fnE Tryz.f13).1=true:=by kernel_rfl
theorem XH:AD T0 14 (fnE Tryz.f14).1=true:=by kernel_rfl
theorem XI:AD T0 15 (fnE Tryz.f15).1=true:=by kernel_rfl
theorem XJ:AD T0 16 (fnE Tryz.f16).1=true:=by kernel_rfl
theorem XK:AD T0 17 (fnE Tryz.f17).1=true:=by kernel_rfl
theorem XL:AD T0 18 (fnE Tryz.f18).1=true:=by kernel_rfl
theorem XM:AD T0 19 (fnE Tryz.f19).1=true:=by kernel_rfl
theorem XN:AD T0 20 (fnE Tryz.f20).1=true:=by kernel_rfl
theorem XO:AD T0 21 (fnE Tryz.f21).1=true:=by kernel_rfl
theorem XP:AD T0 22 (fnE Tryz.f22).1=true:=by kernel_rfl
theorem XQ:AD T0 23 (fnE Tryz.f23).1=true:=by kernel_rfl
theorem XR:AD T0 24 (fnE Tryz.f24).1=true:=by kernel_rfl
theorem XT:AD T0 25 (fnE Tryz.f25).1=true:=by kernel_rfl
theorem XU:AD T0 26 (fnE Tryz.f26).1=true:=by kernel_rfl
theorem XV:AD T0 27 (fnE Tryz.f27).1=true:=by kernel_rfl
theorem XW:AD T0 28 (fnE Tryz.f28).1=true:=by kernel_rfl
theorem XX:AD T0 29 (fnE Tryz.f29).1=true:=by kernel_rfl
theorem XY:AD T0 30 (fnE Tryz.f30).1=true:=by kernel_rfl
theorem XZ:AD T0 31 (fnE Tryz.f31).1=true:=by kernel_rfl
theorem Xa:AD T0 32 (fnE Tryz.f32).1=true:=by kernel_rfl
theorem Xb:AD T0 33 (fnE Tryz.f33).1=true:=by kernel_rfl
theorem Xc:AD T0 34 (fnE Tryz.f34).1=true:=by kernel_rfl
theorem Xd:AD T0 35 (fnE Tryz.f35).1=true:=by kernel_rfl
theorem Xe:AD T0 36 (fnE Tryz.f36).1=true:=by kernel_rfl
theorem Xf:AD T0 37 (fnE Tryz.f37).1=true:=by kernel_rfl
theorem Xg:AD T0 38 (fnE Tryz.f38).1=true:=by kernel_rfl
theorem Xh:AD T0 39 (fnE Tryz.f39).1=true:=by kernel_rfl
theorem Xi:AD T0 40 (fnE Tryz.f40).1=true:=by kernel_rfl
theorem Xj:AD T0 41 (fnE Tryz.f41).1=true:=by kernel_rfl
theorem Xk:AD T0 42 (fnE Tryz.f42).1=true:=by kernel_rfl
theorem Xl:AD T0 43 (fnE Tryz.f43).1=true:=by kernel_rfl
theorem Xm:AD T0 44 (fnE Tryz.f44).1=true:=by kernel_rfl
theorem Xn:AD T0 45 (fnE Tryz.f45).1=true:=by kernel_rfl
theorem Xo:AD T0 46 (fnE Tryz.f46).1=true:=by kernel_rfl
theorem Xp:AD T0 47 (fnE Tryz.f47).1=true:=by kernel_rfl
theorem Xq:AD T0 48 (fnE Tryz.f48).1=true:=by kernel_rfl
theorem Xr:AD T0 49 (fnE Tryz.f49).1=true:=by kernel_rfl
theorem Xs:AD T0 50 (fnE Tryz.f50).1=true:=by kernel_rfl
theorem Xt:AD T0 51 (fnE Tryz.f51).1=true:=by kernel_rfl
theorem Xu:AD T0 52 (fnE Tryz.f52).1=true:=by kernel_rfl
theorem Xv:AD T0 53 (fnE Tryz.f53).1=true:=by kernel_rfl
theorem Xw:AD T0 54 (fnE Tryz.f54).1=true:=by kernel_rfl
theorem Xx:AD T0 55 (fnE Tryz.f55).1=true:=by kernel_rfl
theorem Xy:AD T0 56 (fnE Tryz.f56).1=true:=by kernel_rfl
theorem Xz:AD T0 57 (fnE Tryz.f57).1=true:=by kernel_rfl
theorem X1:AD T0 58 (fnE Tryz.f58).1=true:=by kernel_rfl
theorem X2:AD T0 59 (fnE Tryz.f59).1=true:=by kernel_rfl
theorem X3:AD T0 60 (fnE Tryz.f60).1=true:=by kernel_rfl
theorem X4:AD T0 61 (fnE Tryz.f61).1=true:=by kernel_rfl
theorem X5:AD T0 62 (fnE Tryz.f62).1=true:=by kernel_rfl
theorem X6:AD T0 63 (fnE Tryz.f63).1=true:=by kernel_rfl
theorem X7:AD T0 64 (fnE Tryz.f64).1=true:=by kernel_rfl
theorem X8:AD T0 65 (fnE Tryz.f65).1=true:=by kernel_rfl
theorem X9:AD T0 66 (fnE Tryz.f66).1=true:=by kernel_rfl
theorem YA:AD T0 67 (fnE Tryz.f67).1=true:=by kernel_rfl
theorem YB:AD T0 68 (fnE Tryz.f68).1=true:=by kernel_rfl
theorem YC:AD T0 69 (fnE Tryz.f69).1=true:=by kernel_rfl
theorem YD:AD T0 70 (fnE Tryz.f70).1=true:=by kernel_rfl
theorem YE:AD T0 71 (fnE Tryz.f71).1=true:=by kernel_rfl
theorem YF:AD T0 72 (fnE Tryz.f72).1=true:=by kernel_rfl
theorem YG:AD T0 73 (fnE Tryz.f73).1=true:=by kernel_rfl
theorem YH:AD T0 74 (fnE Tryz.f74).1=true:=by kernel_rfl
theorem YI:AD T0 75 (fnE Tryz.f75).1=true:=by kernel_rfl
theorem YJ:AD T0 76 (fnE Tryz.f76).1=true:=by kernel_rfl
theorem YK:AD T0 77 (fnE Tryz.f77).1=true:=by kernel_rfl
theorem YL:AD T0 78 (fnE Tryz.f78).1=true:=by kernel_rfl
theorem YM:AD T0 79 (fnE Tryz.f79).1=true:=by kernel_rfl
theorem YN:AD T0 80 (fnE Tryz.f80).1=true:=by kernel_rfl
theorem YO:AD T0 81 (fnE Tryz.f81).1=true:=by kernel_rfl
theorem YP:AD T0 82 (fnE Tryz.f82).1=true:=by kernel_rfl
theorem YQ:AD T0 83 (fnE Tryz.f83).1=true:=by kernel_rfl
theorem YR:AD T0 84 (fnE Tryz.f84).1=true:=by kernel_rfl
theorem YS:AD T0 85 (fnE Tryz.f85).1=true:=by kernel_rfl
theorem YT:AD T0 86 (fnE Tryz.f86).1=true:=by kernel_rfl
theorem YU:AD T0 87 (fnE Tryz.f87).1=true:=by kernel_rfl
theorem YV:AD T0 88 (fnE Tryz.f88).1=true:=by kernel_rfl
theorem YW:AD T0 89 (fnE Tryz.f89).1=true:=by kernel_rfl
theorem YX:AD T0 90 (fnE Tryz.f90).1=true:=by kernel_rfl
theorem YY:AD T0 91 (fnE Tryz.f91).1=true:=by kernel_rfl
theorem YZ:AD T0 92 (fnE Tryz.f92).1=true:=by kernel_rfl
theorem Ya:AD T0 93 (fnE Tryz.f93).1=true:=by kernel_rfl
theorem Yb:AD T0 94 (fnE Tryz.f94).1=true:=by kernel_rfl
theorem Yc:AD T0 95 (fnE Tryz.f95).1=true:=by kernel_rfl
theorem Yd:AD T0 96 (fnE Tryz.f96).1=true:=by kernel_rfl
theorem Ye:AD T0 97 (fnE Tryz.f97).1=true:=by kernel_rfl
theorem Yf:AD T0 98 (fnE Tryz.f98).1=true:=by kernel_rfl
theorem Yg:AD T0 99 (fnE Tryz.f99).1=true:=by kernel_rfl
theorem Ti:AD T0 100 (fnE Tryz.f100).1=true:=by kernel_rfl
theorem Tj:AD T0 101 (fnE Tryz.f101).1=true:=by kernel_rfl
theorem Tk:AD T0 102 (fnE Tryz.f102).1=true:=by kernel_rfl
theorem Tl:AD T0 103 (fnE Tryz.f103).1=true:=by kernel_rfl
theorem Tm:AD T0 104 (fnE Tryz.f104).1=true:=by kernel_rfl
theorem Tn:AD T0 105 (fnE Tryz.f105).1=true:=by kernel_rfl
theorem To:AD T0 106 (fnE Tryz.f106).1=true:=by kernel_rfl
theorem Tp:AD T0 107 (fnE Tryz.f107).1=true:=by kernel_rfl
theorem Tq:AD T0 108 (fnE Tryz.f108).1=true:=by kernel_rfl
theorem Ts:AD T0 109 (fnE Tryz.f109).1=true:=by kernel_rfl
theorem Tt:AD T0 110 (fnE Tryz.f110).1=true:=by kernel_rfl
theorem Tu:AD T0 111 (fnE Tryz.f111).1=true:=by kernel_rfl
theorem Tv:AD T0 112 (fnE Tryz.f112).1=true:=by kernel_rfl
theorem Tw:AD T0 113 (fnE Tryz.f113).1=true:=by kernel_rfl
theorem Tx:AD T0 114 (fnE Tryz.f114).1=true:=by kernel_rfl
theorem Ty:AD T0 115 (fnE Tryz.f115).1=true:=by kernel_rfl
theorem Tz:AD T0 116 (fnE Tryz.f116).1=true:=by kernel_rfl
theorem T1:AD T0 117 (fnE Tryz.f117).1=true:=by kernel_rfl
theorem T2:AD T0 118 (fnE Tryz.f118).1=true:=by kernel_rfl
theorem T3:AD T0 119 (fnE Tryz.f119).1=true:=by kernel_rfl
theorem T4:AD T0 120 (fnE Tryz.f120).1=true:=by kernel_rfl
theorem T5:AD T0 121 (fnE Tryz.f121).1=true:=by kernel_rfl
theorem T6:AD T0 122 (fnE Tryz.f122).1=true:=by kernel_rfl
theorem T7:AD T0 123 (fnE Tryz.f123).1=true:=by kernel_rfl
theorem T8:AD T0 124 (fnE Tryz.f124).1=true:=by kernel_rfl
theorem T9:AD T0 125 (fnE Tryz.f125).1=true:=by kernel_rfl
theorem UA:AD T0 126 (fnE Tryz.f126).1=true:=by kernel_rfl
theorem UB:AD T0 127 (fnE Tryz.f127).1=true:=by kernel_rfl
theorem UC:AD T0 128 (fnE Tryz.f128).1=true:=by kernel_rfl
theorem UD:AD T0 129 (fnE Tryz.f129).1=true:=by kernel_rfl
theorem UE:AD T0 130 (fnE Tryz.f130).1=true:=by kernel_rfl
theorem UF:AD T0 131 (fnE Tryz.f131).1=true:=by kernel_rfl
theorem UG:AD T0 132 (fnE Tryz.f132).1=true:=by kernel_rfl
theorem UH:AD T0 133 (fnE Tryz.f133).1=true:=by kernel_rfl
theorem UI:AD T0 134 (fnE Tryz.f134).1=true:=by kernel_rfl
theorem UJ:AD T0 135 (fnE Tryz.f135).1=true:=by kernel_rfl
theorem UK:AD T0 136 (fnE Tryz.f136).1=true:=by kernel_rfl
theorem UL:AD T0 137 (fnE Tryz.f137).1=true:=by kernel_rfl
theorem UM:AD T0 138 (fnE Tryz.f138).1=true:=by kernel_rfl
theorem UN:AD T0 139 (fnE Tryz.f139).1=true:=by kernel_rfl
theorem UO:AD T0 140 (fnE Tryz.f140).1=true:=by kernel_rfl
theorem UP:AD T0 141 (fnE Tryz.f141).1=true:=by kernel_rfl
theorem UQ:AD T0 142 (fnE Tryz.f142).1=true:=by kernel_rfl
theorem UR:AD T0 143 (fnE Tryz.f143).1=true:=by kernel_rfl
theorem US:AD T0 144 (fnE Tryz.f144).1=true:=by kernel_rfl
theorem UT:AD T0 146 (fnE Tryz.f146).1=true:=by kernel_rfl
theorem UU:AD T0 147 (fnE Tryz.f147).1=true:=by kernel_rfl
theorem UV:AD T0 148 (fnE Tryz.f148).1=true:=by kernel_rfl
theorem UW:AD T0 149 (fnE Tryz.f149).1=true:=by kernel_rfl
theorem UX:AD T0 150 (fnE Tryz.f150).1=true:=by kernel_rfl
theorem UY:AD T0 151 (fnE Tryz.f151).1=true:=by kernel_rfl
theorem UZ:AD T0 152 (fnE Tryz.f152).1=true:=by kernel_rfl
theorem Ua:AD T0 153 (fnE Tryz.f153).1=true:=by kernel_rfl
theorem Ub:AD T0 154 (fnE Tryz.f154).1=true:=by kernel_rfl
theorem Uc:AD T0 155 (fnE Tryz.f155).1=true:=by kernel_rfl
theorem Ud:AD T0 157 (fnE Tryz.f157).1=true:=by kernel_rfl
theorem Ue:AD T0 158 (fnE Tryz.f158).1=true:=by kernel_rfl
theorem Uf:AD T0 159 (fnE Tryz.f159).1=true:=by kernel_rfl
theorem Ug:AD T0 160 (fnE Tryz.f160).1=true:=by kernel_rfl
theorem Uh:AD T0 161 (fnE Tryz.f161).1=true:=by kernel_rfl
theorem Ui:AD T0 162 (fnE Tryz.f162).1=true:=by kernel_rfl
theorem Uj:AD T0 163 (fnE Tryz.f163).1=true:=by kernel_rfl
theorem Uk:AD T0 164 (fnE Tryz.f164).1=true:=by kernel_rfl
theorem Ul:AD T0 165 (fnE Tryz.f165).1=true:=by kernel_rfl
theorem Um:AD T0 166 (fnE Tryz.f166).1=true:=by kernel_rfl
theorem Un:AD T0 167 (fnE Tryz.f167).1=true:=by kernel_rfl
theorem Uo:AD T0 168 (fnE Tryz.f168).1=true:=by kernel_rfl
theorem Up:AD T0 169 (fnE Tryz.f169).1=true:=by kernel_rfl
theorem Uq:AD T0 170 (fnE Tryz.f170).1=true:=by kernel_rfl
theorem Ur:AD T0 171 (fnE Tryz.f171).1=true:=by kernel_rfl
theorem Us:AD T0 172 (fnE Tryz.f172).1=true:=by kernel_rfl
theorem Ut:AD T0 173 (fnE Tryz.f173).1=true:=by kernel_rfl
theorem Uu:AD T0 174 (fnE Tryz.f174).1=true:=by kernel_rfl
theorem Uv:AD T0 175 (fnE Tryz.f175).1=true:=by kernel_rfl
theorem Uw:AD T0 176 (fnE Tryz.f176).1=true:=by kernel_rfl
theorem Ux:AD T0 177 (fnE Tryz.f177).1=true:=by kernel_rfl
theorem Uy:AD T0 178 (fnE Tryz.f178).1=true:=by kernel_rfl
theorem Uz:AD T0 179 (fnE Tryz.f179).1=true:=by kernel_rfl
theorem U0:AD T0 180 (fnE Tryz.f180).1=true:=by kernel_rfl
theorem U1:AD T0 181 (fnE Tryz.f181).1=true:=by kernel_rfl
theorem U2:AD T0 182 (fnE Tryz.f182).1=true:=by kernel_rfl
theorem U3:AD T0 183 (fnE Tryz.f183).1=true:=by kernel_rfl
theorem U4:AD T0 184 (fnE Tryz.f184).1=true:=by kernel_rfl
theorem U5:AD T0 185 (fnE Tryz.f185).1=true:=by kernel_rfl
theorem U6:AD T0 186 (fnE Tryz.f186).1=true:=by kernel_rfl
theorem U7:AD T0 187 (fnE Tryz.f187).1=true:=by kernel_rfl
theorem U8:AD T0 188 (fnE Tryz.f188).1=true:=by kernel_rfl
theorem U9:AD T0 189 (fnE Tryz.f189).1=true:=by kernel_rfl
theorem VA:AD T0 190 (fnE Tryz.f190).1=true:=by kernel_rfl
theorem VB:AD T0 191 (fnE Tryz.f191).1=true:=by kernel_rfl
theorem VD:AD T0 192 (fnE Tryz.f192).1=true:=by kernel_rfl
theorem VE:AD T0 193 (fnE Tryz.f193).1=true:=by kernel_rfl
theorem VF:AD T0 194 (fnE Tryz.f194).1=true:=by kernel_rfl
theorem VG:AD T0 195 (fnE Tryz.f195).1=true:=by kernel_rfl
theorem VH:AD T0 196 (fnE Tryz.f196).1=true:=by kernel_rfl
theorem VI:AD T0 197 (fnE Tryz.f197).1=true:=by kernel_rfl
theorem VJ:AD T0 198 (fnE Tryz.f198).1=true:=by kernel_rfl
theorem VK:AD T0 200 (fnE Tryz.f200).1=true:=by kernel_rfl
theorem VL:AD T0 201 (fnE Tryz.f201).1=true:=by kernel_rfl
theorem VM:AD T0 202 (fnE Tryz.f202).1=true:=by kernel_rfl
theorem VN:AD T0 203 (fnE Tryz.f203).1=true:=by kernel_rfl
theorem VO:AD T0 204 (fnE Tryz.f204).1=true:=by kernel_rfl
theorem VP:AD T0 205 (fnE Tryz.f205).1=true:=by kernel_rfl
theorem VQ:AD T0 206 (fnE Tryz.f206).1=true:=by kernel_rfl
theorem VR:AD T0 207 (fnE Tryz.f207).1=true:=by kernel_rfl
theorem VT:AD T0 208 (fnE Tryz.f208).1=true:=by kernel_rfl
theorem VU:AD T0 209 (fnE Tryz.f209).1=true:=by kernel_rfl
theorem VV:AD T0 210 (fnE Tryz.f210).1=true:=by kernel_rfl
theorem VW:AD T0 211 (fnE Tryz.f211).1=true:=by kernel_rfl
theorem VX:AD T0 212 (fnE Tryz.f212).1=true:=by kernel_rfl
theorem VY:AD T0 213 (fnE Tryz.f213).1=true:=by kernel_rfl
theorem VZ:AD T0 214 (fnE Tryz.f214).1=true:=by kernel_rfl
theorem Va:AD T0 215 (fnE Tryz.f215).1=true:=by kernel_rfl
theorem Vb:AD T0 216 (fnE Tryz.f216).1=true:=by kernel_rfl
theorem Vd:AD T0 217 (fnE Tryz.f217).1=true:=by kernel_rfl
theorem Ve:AD T0 218 (fnE Tryz.f218).1=true:=by kernel_rfl
theorem Vf:AD T0 219 (fnE Tryz.f219).1=true:=by kernel_rfl
theorem Vg:AD T0 220 (fnE Tryz.f220).1=true:=by kernel_rfl
theorem Vh:AD T0 221 (fnE Tryz.f221).1=true:=by kernel_rfl
theorem Vi:AD T0 222 (fnE Tryz.f222).1=true:=by kernel_rfl
theorem Vj:AD T0 223 (fnE Tryz.f223).1=true:=by kernel_rfl
theorem Vk:AD T0 224 (fnE Tryz.f224).1=true:=by kernel_rfl
theorem Vm:AD T0 225 (fnE Tryz.f225).1=true:=by kernel_rfl
theorem Vn:AD T0 227 (fnE Tryz.f227).1=true:=by kernel_rfl
theorem Vo:AD T0 228 (fnE Tryz.f228).1=true:=by kernel_rfl
theorem Vp:AD T0 229 (fnE Tryz.f229).1=true:=by kernel_rfl
theorem Vq:AD T0 230 (fnE Tryz.f230).1=true:=by kernel_rfl
theorem Vr:AD T0 232 (fnE Tryz.f232).1=true:=by kernel_rfl
theorem Vs:AD T0 233 (fnE Tryz.f233).1=true:=by kernel_rfl
theorem Vt:AD T0 234 (fnE Tryz.f234).1=true:=by kernel_rfl
theorem Vu:AD T0 235 (fnE Tryz.f235).1=true:=by kernel_rfl
theorem Vv:AD T0 236 (fnE Tryz.f236).1=true:=by kernel_rfl
theorem Vw:AD T0 237 (fnE Tryz.f237).1=true:=by kernel_rfl
theorem Vx:AD T0 238 (fnE Tryz.f238).1=true:=by kernel_rfl
theorem Vy:AD T0 239 (fnE Tryz.f239).1=true:=by kernel_rfl
theorem Vz:AD T0 240 (fnE Tryz.f240).1=true:=by kernel_rfl
theorem V0:AD T0 241 (fnE Tryz.f241).1=true:=by kernel_rfl
theorem V1:Oi T0:=fun f c nt rs h=>Gq (l:=fnT.list) (by
 simp only[fnT,Tr.list,List.nil_append,List.cons_append,List.append_assoc]
 exact⟨ZF,ZG,ZH,ZI,ZJ,XD,XE,XF,XG,XH,XI,XJ,XK,XL,XM,XN,XO,XP,XQ,XR,XT,XU,XV,XW,XX,XY,XZ,Xa,Xb,Xc,Xd,Xe,Xf,Xg,Xh,Xi,Xj,Xk,Xl,Xm,Xn,Xo,Xp,Xq,Xr,Xs,Xt,Xu,Xv,Xw,Xx,Xy,Xz,X1,X2,X3,X4,X5,X6,X7,X8,X9,YA,YB,YC,YD,YE,YF,YG,YH,YI,YJ,YK,YL,YM,YN,YO,YP,YQ,YR,YS,YT,YU,YV,YW,YX,YY,YZ,Ya,Yb,Yc,Yd,Ye,Yf,Yg,Ti,Tj,Tk,Tl,Tm,Tn,To,Tp,Tq,Ts,Tt,Tu,Tv,Tw,Tx,Ty,Tz,T1,T2,T3,T4,T5,T6,T7,T8,T9,UA,UB,UC,UD,UE,UF,UG,UH,UI,UJ,UK,UL,UM,UN,UO,UP,UQ,UR,US,UT,UU,UV,UW,UX,UY,UZ,Ua,Ub,Uc,Ud,Ue,Uf,Ug,Uh,Ui,Uj,Uk,Ul,Um,Un,Uo,Up,Uq,Ur,Us,Ut,Uu,Uv,Uw,Ux,Uy,Uz,U0,U1,U2,U3,U4,U5,U6,U7,U8,U9,VA,VB,VD,VE,VF,VG,VH,VI,VJ,VK,VL,VM,VN,VO,VP,VQ,VR,VT,VU,VV,VW,VX,VY,VZ,Va,Vb,Vd,Ve,Vf,Vg,Vh,Vi,Vj,Vk,Vm,Vn,Vo,Vp,Vq,Vr,Vs,Vt,Vu,Vv,Vw,Vx,Vy,Vz,V0,trivial⟩) f _ (Tr.mem h)
theorem V2:RY Tryz.prog T0:=fun f h=>by
 obtain⟨e,he⟩:=Option.isSome_iff_exists.1 h
 exact IB (l:=fnT.list) (by
  simp only[fnT,Tr.list,List.nil_append,List.cons_append,List.append_assoc]
  exact⟨Tryz.call5,Tryz.call6,Tryz.call7,Tryz.call8,Tryz.call9,Tryz.call10,Tryz.call11,Tryz.call12,Tryz.call13,Tryz.call14,Tryz.call15,Tryz.call16,Tryz.call17,Tryz.call18,Tryz.call19,Tryz.call20,Tryz.call21,Tryz.call22,Tryz.call23,Tryz.call24,Tryz.call25,Tryz.call26,Tryz.call27,Tryz.call28,Tryz.call29,Tryz.call30,Tryz.call31,Tryz.call32,Tryz.call33,Tryz.call34,Tryz.call35,Tryz.call36,Tryz.call37,Tryz.call38,Tryz.call39,Tryz.call40,Tryz.call41,Tryz.call42,Tryz.call43,Tryz.call44,Tryz.call45,Tryz.call46,Tryz.call47,Tryz.call48,Tryz.call49,Tryz.call50,Tryz.call51,Tryz.call52,Tryz.call53,Tryz.call54,Tryz.call55,Tryz.call56,Tryz.call57,Tryz.call58,Tryz.call59,Tryz.call60,Tryz.call61,Tryz.call62,Tryz.call63,Tryz.call64,Tryz.call65,Tryz.call66,Tryz.call67,Tryz.call68,Tryz.call69,Tryz.call70,Tryz.call71,Tryz.call72,Tryz.call73,Tryz.call74,Tryz.call75,Tryz.call76,Tryz.call77,Tryz.call78,Tryz.call79,Tryz.call80,Tryz.call81,Tryz.call82,Tryz.call83,Tryz.call84,Tryz.call85,Tryz.call86,Tryz.call87,Tryz.call88,Tryz.call89,Tryz.call90,Tryz.call91,Tryz.call92,Tryz.call93,Tryz.call94,Tryz.call95,Tryz.call96,Tryz.call97,Tryz.call98,Tryz.call99,Tryz.call100,Tryz.call101,Tryz.call102,Tryz.call103,Tryz.call104,Tryz.call105,Tryz.call106,Tryz.call107,Tryz.call108,Tryz.call109,Tryz.call110,Tryz.call111,Tryz.call112,Tryz.call113,Tryz.call114,Tryz.call115,Tryz.call116,Tryz.call117,Tryz.call118,Tryz.call119,Tryz.call120,Tryz.call121,Tryz.call122,Tryz.call123,Tryz.call124,Tryz.call125,Tryz.call126,Tryz.call127,Tryz.call128,Tryz.call129,Tryz.call130,Tryz.call131,Tryz.call132,Tryz.call133,Tryz.call134,Tryz.call135,Tryz.call136,Tryz.call137,Tryz.call138,Tryz.call139,Tryz.call140,Tryz.call141,Tryz.call142,Tryz.call143,Tryz.call144,Tryz.call146,Tryz.call147,Tryz.call148,Tryz.call149,Tryz.call150,Tryz.call151,Tryz.call152,Tryz.call153,Tryz.call154,Tryz.call155,Tryz.call157,Tryz.call158,Tryz.call159,Tryz.call160,Tryz.call161,Tryz.call162,Tryz.call163,Tryz.call164,Tryz.call165,Tryz.call166,Tryz.call167,Tryz.call168,Tryz.call169,Tryz.call170,Tryz.call171,Tryz.call172,Tryz.call173,Tryz.call174,Tryz.call175,Tryz.call176,Tryz.call177,Tryz.call178,Tryz.call179,Tryz.call180,Tryz.call181,Tryz.call182,Tryz.call183,Tryz.call184,Tryz.call185,Tryz.call186,Tryz.call187,Tryz.call188,Tryz.call189,Tryz.call190,Tryz.call191,Tryz.call192,Tryz.call193,Tryz.call194,Tryz.call195,Tryz.call196,Tryz.call197,Tryz.call198,Tryz.call200,Tryz.call201,Tryz.call202,Tryz.call203,Tryz.call204,Tryz.call205,Tryz.call206,Tryz.call207,Tryz.call208,Tryz.call209,Tryz.call210,Tryz.call211,Tryz.call212,Tryz.call213,Tryz.call214,Tryz.call215,Tryz.call216,Tryz.call217,Tryz.call218,Tryz.call219,Tryz.call220,Tryz.call221,Tryz.call222,Tryz.call223,Tryz.call224,Tryz.call225,Tryz.call227,Tryz.call228,Tryz.call229,Tryz.call230,Tryz.call232,Tryz.call233,Tryz.call234,Tryz.call235,Tryz.call236,Tryz.call237,Tryz.call238,Tryz.call239,Tryz.call240,Tryz.call241,trivial⟩) f e (Tr.mem he)
theorem ZK:Di Tryz.prog T0:=by
 have h:∀t∈[117,83,81],((II T0 t).map fun z=>RO Tryz.prog t z)=some true:=by
  intro t ht
  simp only[List.mem_cons,List.not_mem_nil,or_false] at ht
  rcases ht with rfl |rfl |rfl <;> kernel_rfl
 intro t ht
 obtain⟨z,hz,he⟩:=Option.map_eq_some_iff.1 (h t ht)
 exact⟨z,hz,he⟩
end Go.Ev
