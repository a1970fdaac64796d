/- Plain functions that mirror functions of the given program. Conditions: none. -/
import Derived.Test.YtjnflahicimmlaaGreatDoorJAx
import Derived.Test.YtjnflahicimmlaaGreatDoorJso
import Derived.Test.YtjnflahicimmlaaGreatDoorJig
set_option maxHeartbeats 1000000
set_option linter.unusedSimpArgs false
set_option linter.unusedVariables false
namespace Go.Vl
open Go
noncomputable def bK (a0:cw) (a2:Int) (a1:ByteArray) (f0:cw→ByteArray→Int→Option (Bool×cw)) (s2:Int×(List (Int×ab))×Int×(List aB)):Option (Lp (Int×(List (Int×ab))×Int×(List aB)) (((List (Int×ab))×Int×(List aB)) ⊕ (Bool×cw))):=
 if(decide (s2.1 < ((((br cK a0.objects a2).getD (⟨0,0,[],[],0,[],ByteArray.empty,0⟩:ab)).bd).length:Int)))=true then
  (idx (((br cK a0.objects a2).getD (⟨0,0,[],[],0,[],ByteArray.empty,0⟩:ab)).bd) s2.1).bind λx3=>
  (ck ((a1).size+(x3.Name).size≤9223372036854775807)).bind λ_=>
  if((((br cK s2.2.1 x3.ID).getD (⟨0,0,[],[],0,[],ByteArray.empty,0⟩:ab)).Kind)==2)=true then
   (ck (((a1++x3.Name)).size+((⟨#[47]⟩:ByteArray)).size≤9223372036854775807)).bind λ_=>
   (f0 (⟨s2.2.1,s2.2.2.1,s2.2.2.2⟩:cw) ((a1++x3.Name)++(⟨#[47]⟩:ByteArray)) x3.ID).bind λy4=>
   if(!y4.1)=true then
    some (.out (.inr (false,y4.2)))
   else
    some (.go (IntKind.i64.wrap (s2.1+1),y4.2.objects,y4.2.left,y4.2.out))
  else
  if(decide ((IntKind.i64.wrap (s2.2.2.1 - 1)) < 0))=true then
   some (.out (.inr (false,(⟨s2.2.1,IntKind.i64.wrap (s2.2.2.1 - 1),s2.2.2.2⟩:cw))))
  else
  (ck ((s2.2.2.2).length+([(⟨(a1++x3.Name),x3.ID⟩:aB)]).length≤268435456)).bind λ_=>
  some (.go (IntKind.i64.wrap (s2.1+1),s2.2.1,IntKind.i64.wrap (s2.2.2.1 - 1),(s2.2.2.2++[(⟨(a1++x3.Name),x3.ID⟩:aB)])))
 else
  some (.out (.inl (s2.2.1,s2.2.2.1,s2.2.2.2)))
noncomputable def dD (f0:cw→ByteArray→Int→Option (Bool×cw)) (a0:cw) (a1:ByteArray) (a2:Int):Option (Bool×cw):=
 (iter (bK a0 a2 a1 f0) (0,a0.objects,a0.left,a0.out)).bind λq6=>
 match q6 with
 | .inl v1=>
  some (true,(⟨v1.1,v1.2.1,v1.2.2⟩:cw))
 | .inr r5=>
  some r5
noncomputable def bH:Nat→cw→ByteArray→Int→Option (Bool×cw)
 |0=>λ_ _ _=>none
 |n+1=>dD (bH n)
noncomputable def gw (a0:cw) (a1:ByteArray) (a2:Int):Option (Bool×cw):=
 @dite _ (∃n r,bH n a0 a1 a2=some r) (Classical.propDecidable _) (λh=>bH (Classical.choose h) a0 a1 a2) (λ_=>none)
noncomputable def iH (a0:List (Int×ab)) (a1:Int) (a2:Int):Option ((List aB)×Bool):=
 (strconv_Itoa a1).bind λy1=>
 (ck ((y1).size+((⟨#[58]⟩:ByteArray)).size≤9223372036854775807)).bind λ_=>
 (gw (⟨a0,a2,[]⟩:cw) (y1++(⟨#[58]⟩:ByteArray)) (((br cK a0 a1).getD (⟨0,0,[],[],0,[],ByteArray.empty,0⟩:ab)).Tree)).bind λy2=>
 if(!y2.1)=true then
  some ([],false)
 else
 (dH y2.2.out).bind λy3=>
 some (y3,true)
noncomputable def mZ (a0:List Int):Option (List Int):=
 (ck ((a0).length≤268435456)).bind λ_=>
 some a0
end Go.Vl
namespace Go.Vl
open Go Go.Proofs
theorem uk {f0:cw→ByteArray→Int→Option (Bool×cw)} (Fv:∀{a0:cw} {a1:ByteArray} {a2:Int} {r:Bool×cw},f0 a0 a1 a2=some r→nV Tryz.prog 61 [[.d (.mp (bL 71 1 false true) 9 (ak (bB (aH .i64) au) a0.objects)),.d (.int .i64 a0.left),.vec (wa 0)]] [⟨62,2,ak aw a0.out⟩] [.ptr (sq 0) 0,.d (.str a1),.d (.int .i64 a2)] (.d (.bool r.1)) [[.d (.mp (bL 71 1 false true) 9 (ak (bB (aH .i64) au) r.2.objects)),.d (.int .i64 r.2.left),.vec (wa 0)]] [⟨62,2,ak aw r.2.out⟩]) {a0:cw} {a1:ByteArray} {a2:Int} {r:Bool×cw} (h0:dD f0 a0 a1 a2=some r):nV Tryz.prog 61 [[.d (.mp (bL 71 1 false true) 9 (ak (bB (aH .i64) au) a0.objects)),.d (.int .i64 a0.left),.vec (wa 0)]] [⟨62,2,ak aw a0.out⟩] [.ptr (sq 0) 0,.d (.str a1),.d (.int .i64 a2)] (.d (.bool r.1)) [[.d (.mp (bL 71 1 false true) 9 (ak (bB (aH .i64) au) r.2.objects)),.d (.int .i64 r.2.left),.vec (wa 0)]] [⟨62,2,ak aw r.2.out⟩]:=by
 unfold dD at h0;refine yr (nt:=68) (rs:=[.tmp 6]) Tryz.func61 rfl Tryz.ntmps61 rfl (by simp) (by decide) rfl λK=>?_
 refine kR [0,1,2] ?_;refine aF ?_;refine kR [0,1,16,17,18] ?_;obtain⟨e1,jR,h0⟩:=bI h0;refine oa (λv1:(List (Int×ab))×Int×(List aB)=>(⟨68,[],[(1000000,[.d (.mp (bL 71 1 false true) 9 (ak (bB (aH .i64) au) v1.1)),.d (.int .i64 v1.2.1),.vec 2000000])],[(2000000,⟨62,2,ak aw v1.2.2⟩)]⟩:St)) (λv1=>.inl v1=e1) (λv1 eP _ W1=>?_) ?_
 ·subst eP
  dsimp only at h0;refine dp W1 ?_;refine kR [6] ?_;cases h0;exact fo ⟨[],[2000000],by simp,by simp,by simp,by simp,by simp⟩
 ·refine aO (cA (λs2:Int×(List (Int×ab))×Int×(List aB)=>(⟨68,[(0,.ptr 1000000 0),(1,.d (.str a1)),(16,.d (.slice (ak aw (((br cK a0.objects a2).getD (⟨0,0,[],[],0,[],ByteArray.empty,0⟩:ab)).bd)))),(17,.d (.int .i64 ((((br cK a0.objects a2).getD (⟨0,0,[],[],0,[],ByteArray.empty,0⟩:ab)).bd).length:Int))),(18,.d (.int .i64 s2.1))],[(1000000,[.d (.mp (bL 71 1 false true) 9 (ak (bB (aH .i64) au) s2.2.1)),.d (.int .i64 s2.2.2.1),.vec 2000000])],[(2000000,⟨62,2,ak aw s2.2.2.2⟩)]⟩:St)) jR cq λG1 s2 o1 h1 gY iq=>?_)
  unfold bK at h1;refine kR [0,1,16,17,18,19] ?_;refine aF ?_;refine cF (b:=(decide (s2.1 < ((((br cK a0.objects a2).getD (⟨0,0,[],[],0,[],ByteArray.empty,0⟩:ab)).bd).length:Int)))) (by simp) (λc9=>?_) (λc9=>?_)
  ·rw[ai c9] at h1
   refine aN ?_;refine aF ?_;refine aO ?_;obtain⟨x3,My,h1⟩:=bI h1;replace My:=bD My;have J7:=My;try simp at J7
   refine kr [0,1,8,16,17,18] (by simp[My,J7];rfl) ?_;obtain⟨_,Hd,h1⟩:=bI h1;replace Hd:=bT Hd;have EC:=Hd;try simp at EC
   refine kr [0,1,8,9,16,17,18] (by simp[Hd,EC];rfl) ?_;refine aF ?_;refine kd [[],[0],[1],[2],[],[4],[3,5],[6],[7]] [] [] none [] 9 sZ (by decide +kernel) (by simp) ?_;refine bj 0 2 rfl (by simp (maxSteps:=1000000);rfl) ?_;refine bj 2 2 rfl (by simp (maxSteps:=1000000);rfl) ?_;refine bj 4 2 rfl (by simp (maxSteps:=1000000);rfl) ?_;refine bj 6 2 rfl (by simp (maxSteps:=1000000);rfl) ?_;refine bj 8 1 rfl (by simp (maxSteps:=1000000);rfl) ?_;refine fu rfl (ar ?_);refine cF (b:=((((br cK s2.2.1 x3.ID).getD (⟨0,0,[],[],0,[],ByteArray.empty,0⟩:ab)).Kind)==2)) (by simp) (λFI=>?_) (λFI=>?_)
   ·rw[ai FI] at h1
    refine aF ?_;refine kc ?_;obtain⟨_,AR,h1⟩:=bI h1;replace AR:=bT AR;have ze:=AR;try simp at ze
    refine ko [0,1,16,17,18,35,37,39] 5 (by simp[AR,ze];rfl) ?_;obtain⟨y4,zh,h1⟩:=bI h1;refine jQ [0,1,16,17,18,40] [1000000] [2000000] [2000000] (Fv zh) rfl rfl rfl Tryz.call61 (by simp) (by simp;rfl) ?_;refine kO [0,1,16,17,18,41] 1 ?_;refine ar ?_;refine gJ ((!y4.1)) (λCy=>?_) (λCy=>?_)
    ·rw[ai Cy] at h1
     refine kR [6] ?_;have k1:=iq _ (af h1);subst k1;dsimp only at h0;cases h0;exact fo ⟨[],[2000000],by simp,by simp,by simp,by simp,by simp⟩
    ·rw[ah (by rw[Cy];decide)] at h1
     refine aN ?_;refine bZ ?_;refine lr (by simp;rfl) ?_;exact⟨_,gY _ (af h1),cq⟩
   ·rw[ah (by rw[FI];decide)] at h1
    refine aN ?_;refine aF ?_;refine kR [0,1,8,9,16,17,18] ?_;refine kR [0,1,8,9,16,17,18,53] ?_;refine cF (b:=(decide ((IntKind.i64.wrap (s2.2.2.1 - 1)) < 0))) (by simp) (λCx=>?_) (λCx=>?_)
    ·rw[ai Cx] at h1
     refine kR [6] ?_;have k1:=iq _ (af h1);subst k1;dsimp only at h0;cases h0;exact fo ⟨[],[2000000],by simp,by simp,by simp,by simp,by simp⟩
    ·rw[ah (by rw[Cx];decide)] at h1
     refine aN ?_;refine Sx [[],[],[1],[2],[3],[],[],[6],[5,7],[8],[4,9],[0,10],[10,11],[4,10,12]] [10,13] [(1000000,[10,13])] (some (10,2000000)) [58] 14 sZ (by decide +kernel) (by simp) ?_;obtain⟨_,oh,h1⟩:=bI h1;replace oh:=bT oh;have jb:=oh;try simp at jb
     refine bj 0 2 rfl (by simp (maxSteps:=1000000) [oh,jb];rfl) ?_;refine bj 2 2 rfl (by simp (maxSteps:=1000000) [oh,jb];rfl) ?_;refine bj 4 2 rfl (by simp (maxSteps:=1000000) [oh,jb];rfl) ?_;refine bj 6 2 rfl (by simp (maxSteps:=1000000) [oh,jb];rfl) ?_;refine bj 8 2 rfl (by simp (maxSteps:=1000000) [oh,jb];rfl) ?_;refine bj 10 2 rfl (by simp (maxSteps:=1000000) [oh,jb];rfl) ?_;refine bj 12 2 rfl (by simp (maxSteps:=1000000) [oh,jb];rfl) ?_;refine fu rfl (ar ?_);refine lr (by simp;rfl) ?_;exact⟨_,gY _ (af h1),Wk.trans (sx 64 2000000) cq⟩
  ·rw[ah (by rw[c9];decide)] at h1
   refine bZ ?_;exact⟨_,iq _ (af h1),cq⟩
theorem um (n:Nat):∀{a0:cw} {a1:ByteArray} {a2:Int} {r:Bool×cw},bH n a0 a1 a2=some r→nV Tryz.prog 61 [[.d (.mp (bL 71 1 false true) 9 (ak (bB (aH .i64) au) a0.objects)),.d (.int .i64 a0.left),.vec (wa 0)]] [⟨62,2,ak aw a0.out⟩] [.ptr (sq 0) 0,.d (.str a1),.d (.int .i64 a2)] (.d (.bool r.1)) [[.d (.mp (bL 71 1 false true) 9 (ak (bB (aH .i64) au) r.2.objects)),.d (.int .i64 r.2.left),.vec (wa 0)]] [⟨62,2,ak aw r.2.out⟩]:=by
 induction n with
 |zero=>intro _ _ _ _ h;cases h
 |succ n ih=>intro _ _ _ _ h;exact uk ih h
theorem uT {a0:cw} {a1:ByteArray} {a2:Int} {r:Bool×cw} (h0:gw a0 a1 a2=some r):nV Tryz.prog 61 [[.d (.mp (bL 71 1 false true) 9 (ak (bB (aH .i64) au) a0.objects)),.d (.int .i64 a0.left),.vec (wa 0)]] [⟨62,2,ak aw a0.out⟩] [.ptr (sq 0) 0,.d (.str a1),.d (.int .i64 a2)] (.d (.bool r.1)) [[.d (.mp (bL 71 1 false true) 9 (ak (bB (aH .i64) au) r.2.objects)),.d (.int .i64 r.2.left),.vec (wa 0)]] [⟨62,2,ak aw r.2.out⟩]:=by
 unfold gw at h0;split at h0
 ·exact um _ h0
 ·cases h0
theorem zn {a0:List (Int×ab)} {a1:Int} {a2:Int} {r:(List aB)×Bool} (h0:iH a0 a1 a2=some r):dY Tryz.prog 29 [] [.d (.mp (bL 71 1 false true) 9 (ak (bB (aH .i64) au) a0)),.d (.int .i64 a1),.d (.int .i64 a2)] (.ia [.d (.slice (ak aw r.1)),.d (.bool r.2)]) []:=by
 unfold iH at h0;refine dS (nt:=32) (rs:=[.tmp 6,.tmp 7]) Tryz.func29 rfl Tryz.ntmps29 rfl (by simp) (by decide) rfl λK=>?_
 refine kR [0,1,2] ?_;refine kR [0,1,8] ?_;refine aF ?_;refine dp (yH 12 2 400482 62 2 (by simp;rfl) (by simp) (by simp)) ?_;refine kd [[],[],[1],[1,2],[],[],[4,5],[4,5,6],[0,1,2,3,4,5,6,7],[0,1,2,3,4,5,6,7]] [] [] none [] 8 sZ (by decide +kernel) (by simp) ?_;refine bj 0 2 rfl (by simp (maxSteps:=1000000);rfl) ?_;obtain⟨y1,oC,h0⟩:=bI h0;refine iu 2 [] (De oC) rfl rfl rfl rfl rfl Tryz.call62 (by simp) ?_;obtain⟨_,p4,h0⟩:=bI h0;replace p4:=bT p4;have Yn:=p4;try simp at Yn
 refine bj 3 2 rfl (by simp (maxSteps:=1000000) [p4,Yn];rfl) ?_;refine bj 5 2 rfl (by simp (maxSteps:=1000000) [p4,Yn];rfl) ?_;refine bj 7 1 rfl (by simp (maxSteps:=1000000) [p4,Yn];rfl) ?_;refine fu rfl ?_;obtain⟨y2,DM,h0⟩:=bI h0;refine jQ [8,21] [12] [400482] [400482] (uT DM) rfl rfl rfl Tryz.call61 (by simp) (by simp;rfl) ?_;refine kO [8,22] 1 ?_;refine ar ?_;refine gJ ((!y2.1)) (λc1=>?_) (λc1=>?_)
 ·rw[ai c1] at h0
  refine kR [6,7] ?_;cases h0;exact fM
 ·rw[ah (by rw[c1];decide)] at h0
  refine aN ?_;refine kc ?_;refine kO [8,26] 4 ?_;obtain⟨y3,Ce,h0⟩:=bI h0;refine YH [8] [] [400482] [(26,400482)] [(12,2,400482)] (km Ce) rfl rfl rfl Tryz.call63 (by simp) (by simp) (by simp;rfl) ?_;refine ar ?_;refine kR [6,7] ?_;cases h0;exact fo ⟨[400482],by simp,rfl,by simp⟩
theorem xN {a0:List Int} {r:List Int} (h0:mZ a0=some r):dY Tryz.prog 30 [] [.d (.slice (ak (aH .u8) a0))] (.d (.slice (ak (aH .u8) r))) []:=by
 unfold mZ at h0;obtain⟨_,p1,h0⟩:=bI h0;replace p1:=bT p1;cases h0;refine dS (nt:=8) (rs:=[.tmp 2]) Tryz.func30 rfl Tryz.ntmps30 rfl (by simp) (by decide) rfl λK=>?_
 refine kR [0,2] ?_;cases a0 with
 |nil=>
  refine aF ?_;refine kc ?_;refine kO [0,3] 1 ?_;refine DV (by simp) rfl rfl (by simp) Tryz.underlying47 (by simp) (by simp) λb=>?_
  refine ar ?_;refine gJ (b) (λcb=>?_) (λcb=>?_)
  ·refine kR [2] ?_
   exact fM
  ·refine aN ?_
   refine kR [2] ?_;exact fo ⟨[7],by simp,rfl,by simp⟩
 |cons x l=>
  refine aF ?_;refine kR [0,4] ?_;refine gJ (false) (λh=>by cases h) (λ_=>?_);refine aN ?_;have p2:=p1;simp at p2;refine kr [2] (by simp[p1,p2];rfl) ?_;exact fo ⟨[7],by simp,rfl,by simp⟩
end Go.Vl
