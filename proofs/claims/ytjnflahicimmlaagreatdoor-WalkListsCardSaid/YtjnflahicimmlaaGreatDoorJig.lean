/- Contracts of library functions, laid for this translation. Conditions: none. -/
import Derived.Shelf.Small.Bits
import Derived.Shelf.Small.Wraps
import Derived.Shelf.Strconv.Itoa0
import Derived.Shelf.Strconv.Itoa1
import Derived.Shelf.LaysM
import Derived.Shelf.Strconv.Itoa2
import Derived.Shelf.Strconv.Itoa3
import Derived.Shelf.Slices.Turned
import Derived.Shelf.Slices.Clone
import Derived.Shelf.Slices.SearchI
import Derived.Shelf.SlicesE.Clone
import Derived.Test.YtjnflahicimmlaaGreatDoorProg
import Derived.Test.YtjnflahicimmlaaGreatDoorTyJ
import Derived.Test.YtjnflahicimmlaaGreatDoorVmZz
import Derived.Lib.LaidTab
set_option linter.unusedSimpArgs false
set_option linter.unusedVariables false
namespace Go.Proofs
open Go.Shelf
def Tryz.Iu:Go.Shelf.Ren:=⟨λ|171=>62 |243=>95 |246=>116 |283=>138 |284=>139 |285=>140 |286=>141 |129=>126 |317=>151 |318=>152 |319=>153 |320=>154 |337=>157 |338=>158 |n=>n,λ|3=>3 |9=>9 |2=>2 |4=>4 |171=>168 |0=>0 |53=>161 |37=>47 |5=>5 |173=>170 |212=>182 |51=>159 |20=>20 |213=>183 |46=>140 |232=>188 |233=>189 |n=>n,λ|17=>0 |18=>1 |19=>2 |n=>n⟩
theorem Tryz.Sl:Go.Proofs.LaysM.n171 Tryz.prog Tryz.Iu:={
 mixed:=by kernel_rfl
 f129:=Tryz.func126.trans (congrArg some (by kernel_rfl))
 f171:=Tryz.func62.trans (congrArg some (by kernel_rfl))
 f243:=Tryz.func95.trans (congrArg some (by kernel_rfl))
 f246:=Tryz.func116.trans (congrArg some (by kernel_rfl))
 f283:=Tryz.func138.trans (congrArg some (by kernel_rfl))
 f284:=Tryz.func139.trans (congrArg some (by kernel_rfl))
 f285:=Tryz.func140.trans (congrArg some (by kernel_rfl))
 f286:=Tryz.func141.trans (congrArg some (by kernel_rfl))
 f317:=Tryz.func151.trans (congrArg some (by kernel_rfl))
 f318:=Tryz.func152.trans (congrArg some (by kernel_rfl))
 f319:=Tryz.func153.trans (congrArg some (by kernel_rfl))
 f320:=Tryz.func154.trans (congrArg some (by kernel_rfl))
 f337:=Tryz.func157.trans (congrArg some (by kernel_rfl))
 f338:=Tryz.func158.trans (congrArg some (by kernel_rfl))
 t0:=Tryz.underlying0
 a0:=Tryz.isAgg0
 z0:=Tryz.sizeOf0
 v0:=Tryz.zeroValue0
 t2:=Tryz.underlying2
 a2:=Tryz.isAgg2
 z2:=Tryz.sizeOf2
 v2:=Tryz.zeroValue2
 t3:=Tryz.underlying3
 a3:=Tryz.isAgg3
 z3:=Tryz.sizeOf3
 v3:=Tryz.zeroValue3
 t4:=Tryz.underlying4
 a4:=Tryz.isAgg4
 z4:=Tryz.sizeOf4
 v4:=Tryz.zeroValue4
 t5:=Tryz.underlying5
 a5:=Tryz.isAgg5
 z5:=Tryz.sizeOf5
 v5:=Tryz.zeroValue5
 t9:=Tryz.underlying9
 a9:=Tryz.isAgg9
 z9:=Tryz.sizeOf9
 v9:=Tryz.zeroValue9
 t20:=Tryz.underlying20
 a20:=Tryz.isAgg20
 z20:=Tryz.sizeOf20
 v20:=Tryz.zeroValue20
 t37:=Tryz.underlying47
 a37:=Tryz.isAgg47
 z37:=Tryz.sizeOf47
 v37:=Tryz.zeroValue47
 t46:=Tryz.underlying140
 a46:=Tryz.isAgg140
 z46:=Tryz.sizeOf140
 v46:=Tryz.zeroValue140
 t51:=Tryz.underlying159
 a51:=Tryz.isAgg159
 z51:=Tryz.sizeOf159
 v51:=Tryz.zeroValue159
 t53:=Tryz.underlying161
 a53:=Tryz.isAgg161
 z53:=Tryz.sizeOf161
 v53:=Tryz.zeroValue161
 t171:=Tryz.underlying168
 a171:=Tryz.isAgg168
 z171:=Tryz.sizeOf168
 v171:=Tryz.zeroValue168
 t173:=Tryz.underlying170
 a173:=Tryz.isAgg170
 z173:=Tryz.sizeOf170
 v173:=Tryz.zeroValue170
 t212:=Tryz.underlying182
 a212:=Tryz.isAgg182
 z212:=Tryz.sizeOf182
 v212:=Tryz.zeroValue182
 t213:=Tryz.underlying183
 a213:=Tryz.isAgg183
 z213:=Tryz.sizeOf183
 t232:=Tryz.underlying188
 a232:=Tryz.isAgg188
 z232:=Tryz.sizeOf188
 v232:=Tryz.zeroValue188
 t233:=Tryz.underlying189
 a233:=Tryz.isAgg189
 z233:=Tryz.sizeOf189
 v233:=Tryz.zeroValue189
 g17:=by kernel_rfl
 g18:=by kernel_rfl
 g19:=by kernel_rfl
 i0:=by kernel_rfl
 i2:=by kernel_rfl
 i3:=by kernel_rfl
 i4:=by kernel_rfl
 i5:=by kernel_rfl
 i9:=by kernel_rfl
 i20:=by kernel_rfl
 i37:=by kernel_rfl
 i46:=by kernel_rfl
 i51:=by kernel_rfl
 i53:=by kernel_rfl
 i171:=by kernel_rfl
 i173:=by kernel_rfl
 i212:=by kernel_rfl
 i232:=by kernel_rfl
 i233:=by kernel_rfl
 m17:=by kernel_rfl
 m18:=by kernel_rfl
 m19:=by kernel_rfl }
open Go.RowKit Go.Sort Go.Lib in
theorem Tryz.strconv_Itoa (n:Int) (h0: -9223372036854775808≤n) (h1:n≤9223372036854775807) (w:World) (afz:Lib.TabIs Tryz.prog w "internal/strconv.uint64pow10" .u64 Lib.pow10Tab):
  Calls Tryz.prog 62 #[.int .i64 n] w λe w'=>e=.returned (.string ⟨(Lib.itoa n).toArray⟩)∧∃k os,w'=grow (w.drewN k) os:=Any.strconv_Itoa Tryz.Sl n h0 h1 w afz
end Go.Proofs
namespace Go.Vl
open Go Go.Proofs Go.RowKit Go.Sort
theorem Tm {w:World} {ok:Nat→Prop} (h:mB Tryz.prog w ok):Lib.TabIs Tryz.prog w "internal/strconv.uint64pow10" .u64 Lib.pow10Tab:=by
 have hg:Tryz.prog.globalNamed "internal/strconv.uint64pow10" =some 0:=by kernel_rfl
 have ho:wQ Tryz.prog 0=Lib.pow10Tab:=by kernel_rfl
 have hk:KP Tryz.prog 0=.u64:=by kernel_rfl
 have hl:(Lib.pow10Tab).length=20:=by kernel_rfl
 have h0:=h 0 0 1 (by rw[ho];rfl);unfold Lib.TabIs World.var?;rw[hg];simp only[aa];have hc:∀(i:Nat) (x:Int),Lib.pow10Tab[i]? =some x→w.cell? ⟨0,i,none⟩=some (.int .u64 x):=λi x hx=>by
  have:=(h 0 i x (by rw[ho];exact hx)).2.1;rw[hk] at this;exact this
 have he:w.cell? ⟨0,20,none⟩=none:=by
  have:=h0.2.2;rw[ho,hl] at this;exact this
 have XH:=hc 0 1 rfl;unfold World.cell? at hc he XH;cases hb:w.heap[0]? with
 |none=>simp[hb] at XH
 |some o=>
  cases o with
  |cells cs t fz=>
   simp only[hb] at hc he XH ⊢
   congr 1
   refine Array.ext_getElem? λi=>?_
   simp only[hD,aA];cases hx:Lib.pow10Tab[i]? with
   |some x=>
    have:=hc i x hx;simpa using this
   |none=>
    have h20:20≤i:=by rw[List.getElem?_eq_none_iff,hl] at hx;exact hx
    have hs:cs.size≤20:=by
     have:cs[20]? =none:=by simpa using he
     exact Array.getElem?_eq_none_iff.1 this
    simp only[Option.map_none];exact tj (by omega)
  |_=>simp[hb] at XH
def xB (n:Int):ByteArray:=⟨(Lib.itoa n).toArray⟩
noncomputable def strconv_Itoa (a0:Int):Option ByteArray:=(ck (-9223372036854775808≤a0∧a0≤9223372036854775807)).bind λ_=>some (xB a0)
theorem De {a0:Int} {r:ByteArray} (h0:strconv_Itoa a0=some r):dY Tryz.prog 62 [] [.d (.int .i64 a0)] (.d (.str r)) []:=by
 unfold strconv_Itoa at h0;obtain⟨_,h1,h0⟩:=bI h0;obtain⟨h1,h2⟩:=bT h1;cases h0;intro w ok io iv vs dN zw eZ xh;have xg:io=[]:=aI (by simpa using dN.len);have Hv:iv=[]:=aI (by simpa using dN.xj);subst xg;subst Hv;have FU:vs.size=1:=by simpa using zw
 have N':vs[0]? =some vs[0]:=bp (by omega);have tV:=eZ 0 _ _ rfl N';have SH:vs= #[vs[0]]:=by
  refine sw (by simp[FU]) λi h1 h2=>?_
  have:i=0:=by simp at h2;omega
  subst this;rfl
 generalize vs[0]=v0 at tV SH;cases tV with
 |d rD=>
  cases rD with
  |int=>
   rw[SH];refine(Tryz.strconv_Itoa a0 h1 h2 w (Tm xh)).mono λe w' ⟨he,k,os,hw⟩=>?_
   have hh:w'.heap=w.heap++os:=by rw[hw];simp[grow,World.drewN]
   have gS:w.heap.size≤w'.heap.size:=by rw[hh];simp
   refine⟨_,[],he,.d .str,⟨rfl,dL,λb hb=>⟨hb.2.1,by simp,λv hv=>by simp at hv⟩,λi b cs hi=>by simp at hi,rfl,λi v s hi=>by simp at hi,λi j v u hi=>by simp at hi,λv hv=>by simp at hv⟩,λu hu=>by simp at hu,⟨gS,?_,?_,aM _,?_,λb hb _ _=>?_⟩⟩
   ·rw[hw];simp[grow,World.drewN]
   ·rw[hw];simp[grow,World.drewN]
   ·rw[hw];simp[grow,World.drewN]
   ·rw[hh,Array.getElem?_append_left hb]
end Go.Vl
