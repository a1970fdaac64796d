/- Plain functions that mirror functions of the given program. Conditions: none. -/
import Derived.Test.YtjnflahicimmlaaGreatDoorJhs
import Derived.Test.YtjnflahicimmlaaGreatDoorVmBs
import Derived.Test.YtjnflahicimmlaaGreatDoorVmHg
set_option maxHeartbeats 2000000
set_option linter.unusedSimpArgs false
set_option linter.unusedVariables false
namespace Go.Vl
open Go
noncomputable def qZ (a0:ao):Option (Bool):=
 (some ((decide (((a0.aq).length:Int)≤20))&&(decide (((a0.aC).length:Int)≤40)))).bind λv1=>
 some v1
noncomputable def tJ (a0:Int):Option (Bool):=
 (some ((decide (1≤a0))&&(decide (a0≤1073741824)))).bind λv1=>
 some v1
noncomputable def tI (a0:ab):Option (Bool):=
 (some ((((a0.bd).length:Int)==0)&&((a0.Tree==0)&&((((a0.bf).length:Int)==0)&&(((a0.fJ).toList==((⟨#[]⟩:ByteArray)).toList)&&(a0.Time==0)))))).bind λv1=>
 some v1
noncomputable def rB (a0:ByteArray) (s3:Int):Option (Lp Int (Unit ⊕ Bool)):=
 if(decide (s3 < ((a0).size:Int)))=true then
  Option.bind (
   (Df a0 s3).bind λx5=>
   if(decide (x5 < 33))=true then
    some true
   else
   (Df a0 s3).bind λx6=>
   if(decide (126 < x6))=true then
    some true
   else
   (Df a0 s3).bind λx7=>
   some (x7==47)) λv4=>
  if v4=true then
   some (.out (.inr false))
  else
   some (.go (IntKind.i64.wrap (s3+1)))
 else
  some (.out (.inl ()))
noncomputable def nI (a0:ByteArray):Option (Bool):=
 (iter (rB a0) 0).bind λq9=>
 match q9 with
 | .inl v1=>
  (some ((decide (1≤((a0).size:Int)))&&(decide (((a0).size:Int)≤40)))).bind λv2=>
  some v2
 | .inr r8=>
  some r8
noncomputable def rz (a0:ab) (s3:Int):Option (Lp Int (Unit ⊕ Bool)):=
 if(decide (s3 < ((a0.bd).length:Int)))=true then
  Option.bind (
   (idx a0.bd s3).bind λx5=>
   (nI x5.Name).bind λy6=>
   if(!y6)=true then
    some true
   else
   (tJ x5.ID).bind λy7=>
   if(!y7)=true then
    some true
   else
   if(decide (0 < s3))=true then
    (idx a0.bd (IntKind.i64.wrap (s3 - 1))).bind λx8=>
    some (Op.bytesLess (x5.Name).toList (x8.Name).toList||(x5.Name).toList==(x8.Name).toList)
   else
    some false) λv4=>
  if v4=true then
   some (.out (.inr false))
  else
   some (.go (IntKind.i64.wrap (s3+1)))
 else
  some (.out (.inl ()))
noncomputable def tH (a0:ab):Option (Bool):=
 (iter (rz a0) 0).bind λq10=>
 match q10 with
 | .inl v1=>
  (some ((((a0.Data).length:Int)==0)&&((a0.Tree==0)&&((((a0.bf).length:Int)==0)&&(((a0.fJ).toList==((⟨#[]⟩:ByteArray)).toList)&&(a0.Time==0)))))).bind λv2=>
  some v2
 | .inr r9=>
  some r9
noncomputable def kJ (s5:Int) (a0:ab) (x6:Int) (s9:Int):Option (Lp Int (Unit ⊕ Bool)):=
 if(decide (s9 < s5))=true then
  (idx a0.bf s9).bind λwo=>
  if(wo==x6)=true then
   some (.out (.inr false))
  else
   some (.go (IntKind.i64.wrap (s9+1)))
 else
  some (.out (.inl ()))
noncomputable def oZ (a0:ab) (s5:Int):Option (Lp Int (Unit ⊕ Bool)):=
 if(decide (s5 < ((a0.bf).length:Int)))=true then
  (idx a0.bf s5).bind λx6=>
  (tJ x6).bind λy7=>
  if(!y7)=true then
   some (.out (.inr false))
  else
  (iter (kJ s5 a0 x6) 0).bind λq12=>
  match q12 with
  | .inl v8=>
   some (.go (IntKind.i64.wrap (s5+1)))
  | .inr r11=>
   some (.out (.inr r11))
 else
  some (.out (.inl ()))
noncomputable def qj (a0:ab):Option (Bool):=
 (iter (oZ a0) 0).bind λq14=>
 match q14 with
 | .inl v1=>
  Option.bind (
   if(((a0.Data).length:Int)==0)=true then
    if(((a0.bd).length:Int)==0)=true then
     (tJ a0.Tree).bind λy3=>
     if y3=true then
      (nI a0.fJ).bind λy4=>
      if y4=true then
       if(decide (0≤a0.Time))=true then
        some (decide (a0.Time≤1099511627776))
       else
        some false
      else
       some false
     else
      some false
    else
     some false
   else
    some false) λv2=>
  some v2
 | .inr r13=>
  some r13
noncomputable def lP (v3:Bool):Option Int:=
 if v3=true then
  some 0
 else
  some 1
noncomputable def rP (a0:ab):Option (Int):=
 (tJ a0.ID).bind λy1=>
 if(!y1)=true then
  some 2
 else
 (some ((decide (65536 < ((a0.Data).length:Int)))||((decide (64 < ((a0.bd).length:Int)))||(decide (8 < ((a0.bf).length:Int)))))).bind λv2=>
 if v2=true then
  some 3
 else
 Option.bind (
  if(a0.Kind==1)=true then
   (tI a0).bind λy9=>
   some y9
  else
   some false) λv4=>
 if v4=true then
  lP v4
 else
 Option.bind (
  if(a0.Kind==2)=true then
   (tH a0).bind λy8=>
   some y8
  else
   some false) λv5=>
 if v5=true then
  lP v5
 else
 Option.bind (
  if(a0.Kind==3)=true then
   (qj a0).bind λy7=>
   some y7
  else
   some false) λv6=>
 lP v6
noncomputable def oY (a0:ao) (s2:Int):Option (Lp Int (Unit ⊕ Int)):=
 if(decide (s2 < ((a0.aC).length:Int)))=true then
  (idx a0.aC s2).bind λx3=>
  Option.bind (
   if(x3.Kind != 1)=true then
    if(x3.Kind != 2)=true then
     some true
    else
    (nI x3.Name).bind λy5=>
    if(!y5)=true then
     some true
    else
    if(x3.Kind==2)=true then
     some (x3.dI != 0)
    else
     some false
   else
   (nI x3.Name).bind λy6=>
   if(!y6)=true then
    some true
   else
   if(x3.Kind==2)=true then
    some (x3.dI != 0)
   else
    some false) λv4=>
  if v4=true then
   some (.out (.inr 1))
  else
   some (.go (IntKind.i64.wrap (s2+1)))
 else
  some (.out (.inl ()))
noncomputable def qf (a0:ao):Option (Int):=
 (iter (oY a0) 0).bind λq8=>
 match q8 with
 | .inl v1=>
  some 0
 | .inr r7=>
  some r7
noncomputable def lf (a0:List ab) (a1:Int) (s2:Int):Option (Lp Int (Unit ⊕ (ab×Bool))):=
 if(decide (s2 < ((a0).length:Int)))=true then
  (idx a0 s2).bind λx3=>
  if(x3.ID==a1)=true then
   some (.out (.inr (x3,true)))
  else
   some (.go (IntKind.i64.wrap (s2+1)))
 else
  some (.out (.inl ()))
noncomputable def pt (a0:List ab) (a1:Int):Option (ab×Bool):=
 (iter (lf a0 a1) 0).bind λq5=>
 match q5 with
 | .inl v1=>
  some ((⟨0,0,[],[],0,[],ByteArray.empty,0⟩:ab),false)
 | .inr r4=>
  some r4
noncomputable def nF (a0:ao) (a1:Int):Option (Int):=
 (pt a0.aq a1).bind λy1=>
 some y1.1.Kind
noncomputable def qd (a1:ab) (a0:ao) (s5:Int):Option (Lp Int (Unit ⊕ Bool)):=
 if(decide (s5 < ((a1.bf).length:Int)))=true then
  (idx a1.bf s5).bind λx6=>
  (nF a0 x6).bind λy7=>
  if(y7 != 3)=true then
   some (.out (.inr false))
  else
   some (.go (IntKind.i64.wrap (s5+1)))
 else
  some (.out (.inl ()))
noncomputable def qe (a1:ab) (a0:ao) (LD:Int):Option (Lp Int (Unit ⊕ Bool)):=
 if(decide (LD < ((a1.bd).length:Int)))=true then
  (idx a1.bd LD).bind λx11=>
  (nF a0 x11.ID).bind λWC=>
  (some ((WC != 1)&&(WC != 2))).bind λUT=>
  if UT=true then
   some (.out (.inr false))
  else
   some (.go (IntKind.i64.wrap (LD+1)))
 else
  some (.out (.inl ()))
noncomputable def rN (a0:ao) (a1:ab):Option (Bool):=
 (iter (qe a1 a0) 0).bind λq15=>
 match q15 with
 | .inl v1=>
  (iter (qd a1 a0) 0).bind λq9=>
  match q9 with
  | .inl v2=>
   Option.bind (
    if(a1.Kind != 3)=true then
     some true
    else
    (nF a0 a1.Tree).bind λy4=>
    some (y4==2)) λv3=>
   some v3
  | .inr r8=>
   some r8
 | .inr r14=>
  some r14
noncomputable def lL (a0:List az) (s2:Int×(List az)):Option (Lp (Int×(List az)) (List az)):=
 if(decide (s2.1 < ((a0).length:Int)))=true then
  (idx a0 s2.1).bind λx3=>
  (ck ((s2.2).length+([(⟨x3.Kind,x3.Name,x3.dI,0⟩:az)]).length≤268435456)).bind λ_=>
  some (.go (IntKind.i64.wrap (s2.1+1),(s2.2++[(⟨x3.Kind,x3.Name,x3.dI,0⟩:az)])))
 else
  some (.out s2.2)
noncomputable def oM (a0:List az):Option ((List az)):=
 (iter (lL a0) (0,[])).bind λv1=>
 some v1
noncomputable def gL (s2:Int×(List Int)) (x3:ab) (s5:Int):Option (Lp Int Int):=
 Option.bind (
  if(decide (0 < s5))=true then
   (ck (0≤IntKind.i64.wrap (s5 - 1)∧(Int.toNat (IntKind.i64.wrap (s5 - 1))) < (s2.2).length)).bind λ_=>
   (idx s2.2 (IntKind.i64.wrap (s5 - 1))).bind λx7=>
   some (decide (x3.ID < x7))
  else
   some false) λv6=>
 if v6=true then
  some (.go (IntKind.i64.wrap (s5 - 1)))
 else
  some (.out s5)
noncomputable def gM (a0:ao) (a1:List (Int×Bool)) (s2:Int×(List Int)):Option (Lp (Int×(List Int)) (List Int)):=
 if(decide (s2.1 < ((a0.aq).length:Int)))=true then
  (idx a0.aq s2.1).bind λx3=>
  if(!((br cK a1 x3.ID).getD false))=true then
   some (.go (IntKind.i64.wrap (s2.1+1),s2.2))
  else
  (iter (gL s2 x3) ((s2.2).length:Int)).bind λv4=>
  (ck (0≤v4∧v4≤(((s2.2).length:Nat):Int)∧(((s2.2).length:Nat):Int)≤(((s2.2).length:Nat):Int))).bind λ_=>
  (ck ((Int.toNat v4)+((s2.2).length - (Int.toNat v4))≤(s2.2).length)).bind λ_=>
  (ck (([x3.ID]).length+(((((s2.2).drop (Int.toNat v4))).take ((s2.2).length - (Int.toNat v4)))).length≤268435456)).bind λ_=>
  (ck (0≤0∧0≤v4∧v4≤((s2.2).length:Int))).bind λ_=>
  (ck ((((s2.2).take (Int.toNat v4))).length+(([x3.ID]++((((s2.2).drop (Int.toNat v4))).take ((s2.2).length - (Int.toNat v4))))).length≤268435456∧0 < (([x3.ID]++((((s2.2).drop (Int.toNat v4))).take ((s2.2).length - (Int.toNat v4))))).length)).bind λ_=>
  some (.go (IntKind.i64.wrap (s2.1+1),(((s2.2).take (Int.toNat v4))++([x3.ID]++((((s2.2).drop (Int.toNat v4))).take ((s2.2).length - (Int.toNat v4)))))))
 else
  some (.out s2.2)
noncomputable def kH (a0:ao) (a1:List (Int×Bool)):Option ((List Int)):=
 (iter (gM a0 a1) (0,[])).bind λv1=>
 some v1
noncomputable def ij (a0:ao) (a1:Int):Option (ab):=
 (pt a0.aq a1).bind λy1=>
 some y1.1
noncomputable def pG (a1:List Int) (a0:ao) (a2:Int) (s2:Int×(List Int)):Option (Lp (Int×(List Int)) (List Int)):=
 if(decide (s2.1 < ((a1).length:Int)))=true then
  (idx a1 s2.1).bind λx3=>
  (ij a0 x3).bind λy4=>
  if(y4.Kind==a2)=true then
   (ck ((s2.2).length+([x3]).length≤268435456)).bind λ_=>
   some (.go (IntKind.i64.wrap (s2.1+1),(s2.2++[x3])))
  else
   some (.go (IntKind.i64.wrap (s2.1+1),s2.2))
 else
  some (.out s2.2)
noncomputable def rL (a0:ao) (a1:List Int) (a2:Int):Option ((List Int)):=
 (iter (pG a1 a0 a2) (0,[])).bind λv1=>
 some v1
noncomputable def oX (a0:List dG) (a1:List dG) (s2:Int):Option (Lp Int (Unit ⊕ Bool)):=
 if(decide (s2 < ((a0).length:Int)))=true then
  (idx a0 s2).bind λx3=>
  (idx a1 s2).bind λx4=>
  if(!((x3.Source==x4.Source)&&(((x3.Path).toList==(x4.Path).toList)&&(x3.Time==x4.Time))))=true then
   some (.out (.inr false))
  else
   some (.go (IntKind.i64.wrap (s2+1)))
 else
  some (.out (.inl ()))
noncomputable def pZ (a0:List dG) (a1:List dG):Option (Bool):=
 if(((a0).length:Int) != ((a1).length:Int))=true then
  some false
 else
 (iter (oX a0 a1) 0).bind λq6=>
 match q6 with
 | .inl v1=>
  some true
 | .inr r5=>
  some r5
noncomputable def ru (a0:List bU) (a1:List bU) (s2:Int):Option (Lp Int (Unit ⊕ Bool)):=
 if(decide (s2 < ((a0).length:Int)))=true then
  Option.bind (
   (idx a0 s2).bind λx4=>
   (idx a1 s2).bind λx5=>
   if(!(((Gz x4.Data)).toList==((Gz x5.Data)).toList))=true then
    some true
   else
   (pZ x4.vu x5.vu).bind λy6=>
   some (!y6)) λv3=>
  if v3=true then
   some (.out (.inr false))
  else
   some (.go (IntKind.i64.wrap (s2+1)))
 else
  some (.out (.inl ()))
noncomputable def qV (a0:List bU) (a1:List bU):Option (Bool):=
 if(((a0).length:Int) != ((a1).length:Int))=true then
  some false
 else
 (iter (ru a0 a1) 0).bind λq8=>
 match q8 with
 | .inl v1=>
  some true
 | .inr r7=>
  some r7
noncomputable def ry (a0:List Int) (a1:List Int) (s2:Int):Option (Lp Int (Unit ⊕ Bool)):=
 if(decide (s2 < ((a0).length:Int)))=true then
  (idx a0 s2).bind λx3=>
  (idx a1 s2).bind λx4=>
  if(x3 != x4)=true then
   some (.out (.inr false))
  else
   some (.go (IntKind.i64.wrap (s2+1)))
 else
  some (.out (.inl ()))
noncomputable def qW (a0:List Int) (a1:List Int):Option (Bool):=
 if(((a0).length:Int) != ((a1).length:Int))=true then
  some false
 else
 (iter (ry a0 a1) 0).bind λq6=>
 match q6 with
 | .inl v1=>
  some true
 | .inr r5=>
  some r5
noncomputable def kZ (a0:ao) (a1:Int):Option ((List aB)×Int):=
 (jy a0).bind λy1=>
 if(y1 != 0)=true then
  some ([],y1)
 else
 (po a0).bind λy2=>
 if((((br cK y2 a1).getD (⟨0,0,[],[],0,[],ByteArray.empty,0⟩:ab)).Kind) != 3)=true then
  some ([],6)
 else
 (iH y2 a1 2000).bind λy3=>
 if(!y3.2)=true then
  some ([],3)
 else
  some (y3.1,0)
noncomputable def qi (a0:List aB) (a1:List aB) (s2:Int):Option (Lp Int (Unit ⊕ Bool)):=
 if(decide (s2 < ((a0).length:Int)))=true then
  (idx a0 s2).bind λx3=>
  (idx a1 s2).bind λx4=>
  if(!(((x3.Name).toList==(x4.Name).toList)&&(x3.ID==x4.ID)))=true then
   some (.out (.inr false))
  else
   some (.go (IntKind.i64.wrap (s2+1)))
 else
  some (.out (.inl ()))
noncomputable def pH (a0:List aB) (a1:List aB):Option (Bool):=
 if(((a0).length:Int) != ((a1).length:Int))=true then
  some false
 else
 (iter (qi a0 a1) 0).bind λq6=>
 match q6 with
 | .inl v1=>
  some true
 | .inr r5=>
  some r5
noncomputable def rU:Option (Bool):=
 (kZ (⟨[(⟨3,1,[],[],0,[],ByteArray.empty,0⟩:ab),(⟨4,2,[],[(⟨(⟨#[97]⟩:ByteArray),3⟩:aB)],0,[],ByteArray.empty,0⟩:ab),(⟨5,2,[],[(⟨(⟨#[100]⟩:ByteArray),4⟩:aB)],0,[],ByteArray.empty,0⟩:ab),(⟨7,3,[],[],5,[],(⟨#[120]⟩:ByteArray),0⟩:ab)],[]⟩:ao) 7).bind λy1=>
 Option.bind (
  if(y1.2==0)=true then
   if(((y1.1).length:Int)==1)=true then
    (idx y1.1 0).bind λx3=>
    some (((x3.Name).toList==((⟨#[55,58,100,47,97]⟩:ByteArray)).toList)&&(x3.ID==3))
   else
    some false
  else
   some false) λv2=>
 some v2
end Go.Vl
namespace Go.Vl
open Go Go.Proofs Go.RowKit
theorem abN:(Tryz.prog.info? 52).bind (·.zero)=some (.slice none 0 0):=by kernel_rfl
theorem VG (w:World):(zeroValue 52).run Tryz.prog w=.ok (.slice none 0 0) w:=by
 have h:=abN;cases hi:Tryz.prog.info? 52 with
 |none=>rw[hi] at h;cases h
 |some i=>
  rw[hi] at h;have h:i.zero=some (.slice none 0 0):=h;simp[zeroValue,typeInfo,hi,h]
theorem W9:fZ Tryz.prog 56=some [.d (.int .i64 0),.d (.str ByteArray.empty),.d (.int .i64 0)]:=by kernel_rfl
theorem XB:wV Tryz.prog 56=true:=by kernel_rfl
theorem Xz:∀x,∀d∈cP x,qC d:=λx d hd=>by
 simp only[cP,aZ,fE,td] at hd;rcases hd with rfl |rfl |rfl <;> trivial
theorem A6 {x:Int} {l:List (Int×List dG)}:vH Tryz.prog 52 false false ((eJ cK x l).map λq=>(q.1,[D.slice (ak cP q.2)]))=some (.d (.slice (ak cP ((br cK l x).getD [])))):=by
 have:=A5 (P:=Tryz.prog) (et:=52) (va:=false) (ok:=false) (g:=uE cP) (av:=λv:List dG=>(.d (.slice (ak cP v)):AV)) (z:=[]) (λv=>by simp[ml]) (by kernel_rfl) (e:=cK) (x:=x) (l:=l);simpa using this
open Classical in
theorem BK {a0:ao} {a1:Int} {r:(List bU)×Int} (h0:la a0 a1=some r):dY Tryz.prog 9 [] [.agg (ay a0),.d (.int .i64 a1)] (.ia [.d (.slice (ak eL r.1)),.d (.int .i64 r.2)]) []:=by
 unfold la at h0;refine tY (nt:=98) (rs:=[.tmp 4,.tmp 5]) Tryz.func9 rfl Tryz.ntmps9 rfl (by simp) (by decide) rfl λK hK=>?_
 refine kR [1,2] ?_;refine aF ?_;refine kc ?_;refine kO [1,2,20] 1 ?_;obtain⟨y1,oC,h0⟩:=bI h0;refine ku [1,2,21] (rf oC) Tryz.call25 ?_;refine kO [1,2,6] 1 ?_;refine ar ?_;refine kR [1,2,6,23] ?_;refine gJ ((y1 != 0)) (λc1=>?_) (λc1=>?_)
 ·rw[ai c1] at h0
  refine kR [4,5] ?_;cases h0;exact fM
 ·rw[ah (by rw[c1];decide)] at h0
  refine aN ?_;obtain⟨y2,DM,h0⟩:=bI h0;replace h0:=bI h0;obtain⟨⟨all,sg⟩,hp,h0⟩:=h0;obtain⟨_,gD,h0⟩:=bI h0;replace gD:=bT gD;obtain⟨okh,Qy⟩:=gD;dsimp only at h0 okh Qy;refine rp 2 (ay a0) (aK a0) (by simp) (by simp) hK (by decide) (λi hi=>absurd hi (fR i)) ?_;refine Sn (S0:=λm:List (Int×Int)=>(⟨98,[(1,.d (.int .i64 a1)),(7,.d (.mp (bL 71 1 false true) 9 (ak (bB (aH .i64) au) y2))),(8,.d (.mp (bL 73 1 false false) 2 (ak (bB (aH .i64) (aH .i64)) m)))],[],[]⟩:St)) (G:=λm=>sb a0 all a0.aC.length m) [0,2] 4 (by simpa using hK) sZ (by decide +kernel) rfl rfl rfl (by simp[gX,iZ,gB,gZ];rfl) (λK' S F C=>?_) (λm hm=>?_)
  ·refine vk C [1] ?_
   refine bW rfl (ku [1,26,27] (uU DM) Tryz.call26 (ar ?_)) trivial;refine vk C [3] ?_;refine bW rfl (Ix [1,26,28] [] (ND hp okh) rfl rfl rfl Tryz.call27 (by simp) (λ_=>rfl) (λm=>by simp;rfl) λm hm=>ar ?_) trivial;refine vk C [4] ?_;refine bW rfl (sL ?_) trivial;refine vk C [5] ?_;refine bW rfl (sL ?_) trivial;exact kx C (by decide +kernel) ⟨rfl,m,hm,bw.2 (by simp)⟩
  have zh:=Ng (objs:=y2) hm Qy 3 a1;have IB:=Ng (objs:=y2) hm Qy 1 a1;have ajY:(yB a0 all y2 3 a1).length≤1000000:=by unfold yB;exact bO (fX _ _) Qy
  generalize yB a0 all y2 3 a1=y4 at *;generalize yB a0 all y2 1 a1=y5 at *;obtain⟨o,ho,h0⟩:=bI h0;refine kR [1,7,8,9] ?_;refine kR [1,7,8,9,10] ?_;refine aF ?_;refine kc ?_;refine kO [1,7,8,9,10,30,31,32] 3 ?_;refine ku [1,7,8,9,10,33] (tA zh) Tryz.call28 ?_;refine kO [1,7,8,9,10,33,34,35] 2 ?_;refine ar ?_;refine oa (λPL:List (Int×List dG)=>(⟨98,[(1,.d (.int .i64 a1)),(7,.d (.mp (bL 71 1 false true) 9 (ak (bB (aH .i64) au) y2))),(8,.d (.mp (bL 73 1 false false) 2 (ak (bB (aH .i64) (aH .i64)) m))),(9,.d (.mp (bL 75 1 false false) 2 (ak (bB (aH .i64) (uE cP)) PL)))],[],[]⟩:St)) (λPL=>o=some PL) (λPL hPL _ W1=>?_) ?_
  ·subst hPL
   dsimp only at h0;refine dp W1 ?_;refine kR [1,7,8,9,17] ?_;refine aF ?_;refine kc ?_;refine kO [7,9,17,75,76,77] 3 ?_;refine ku [7,9,17,78] (tA IB) Tryz.call28 ?_;refine kO [7,9,17,78,79,80] 2 ?_;refine ar ?_;refine dp (pX 17 95 54 2 (by simp) (by simp)) ?_;obtain⟨e1,jR,h0⟩:=bI h0;refine oa (λv6:(List bU)=>(⟨98,[(17,.vec 95)],[],[(95,⟨54,2,ak eL v6⟩)]⟩:St)) (λv6=>v6=e1) (λv6 eP _ W1=>?_) ?_
   ·subst eP
    refine dp W1 ?_;refine kR [4,5] ?_;cases h0;exact fo ⟨[95],by simp,rfl,by simp⟩
   ·refine aO (cA (λs7:Int×(List bU)=>(⟨98,[(7,.d (.mp (bL 71 1 false true) 9 (ak (bB (aH .i64) au) y2))),(9,.d (.mp (bL 75 1 false false) 2 (ak (bB (aH .i64) (uE cP)) PL))),(17,.vec 95),(78,.d (.slice (ak (aH .i64) y5))),(79,.d (.int .i64 ((y5).length:Int))),(80,.d (.int .i64 s7.1))],[],[(95,⟨54,2,ak eL s7.2⟩)]⟩:St)) jR cq λG1 s7 o1 h1 gY iq=>?_)
    unfold lK at h1;refine kR [7,9,17,78,79,80,81] ?_;refine aF ?_;refine cF (b:=(decide (s7.1 < ((y5).length:Int)))) (by simp) (λc5=>?_) (λc5=>?_)
    ·rw[ai c5] at h1
     refine aN ?_;refine aF ?_;refine aO ?_;obtain⟨x8,qG,h1⟩:=bI h1;replace qG:=bD qG;have kQ:=qG;try simp at kQ
     refine kr [7,9,17,19,78,79,80] (by simp[qG,kQ];rfl) ?_;refine dp (sx 95 700095) ?_;refine Sx [[],[],[],[1,2],[3],[4],[],[],[6,7],[5,8],[9],[0,10],[0,11]] [] [] (some (11,700095)) [17,84] 13 sZ (by decide +kernel) (by simp) ?_;refine bj 0 2 rfl (by simp (maxSteps:=1000000);rfl) ?_;refine bj 2 2 rfl (by simp (maxSteps:=1000000);rfl) ?_;refine bj 4 1 rfl (by simp (maxSteps:=1000000);rfl) ?_;obtain⟨y9,SC,h1⟩:=bI h1;refine iu 5 [] (xN SC) rfl rfl rfl rfl rfl Tryz.call30 (by simp) ?_;obtain⟨_,Dq,h1⟩:=bI h1;replace Dq:=bT Dq;have xY:=Dq;try simp at xY
     refine bj 6 2 rfl (by simp (maxSteps:=1000000) [Dq,xY,A6];rfl) ?_;refine bj 8 2 rfl (by simp (maxSteps:=1000000) [Dq,xY,A6];rfl) ?_;refine bj 10 2 rfl (by simp (maxSteps:=1000000) [Dq,xY,A6];rfl) ?_;refine bj 12 1 rfl (by simp (maxSteps:=1000000) [Dq,xY,A6];rfl) ?_;refine fu rfl (ar ?_);refine lr (by simp;rfl) ?_;exact⟨_,gY _ (af h1),cq⟩
    ·rw[ah (by rw[c5];decide)] at h1
     refine bZ ?_;exact⟨_,iq _ (af h1),cq⟩
  ·intro a w p R
   have Cm:K.lx=[]:=aI hK;obtain⟨b,H⟩:=HI.start (α:=dG) (f:=cP) (kd:=.i64) (e:=56) (z:=3) (t:=9) (cM:=(⟨98,[(1,.d (.int .i64 a1)),(7,.d (.mp (bL 71 1 false true) 9 (ak (bB (aH .i64) au) y2))),(8,.d (.mp (bL 73 1 false false) 2 (ak (bB (aH .i64) (aH .i64)) m))),(10,.d (.int .i64 2000)),(33,.d (.slice (ak (aH .i64) y4))),(34,.d (.int .i64 (y4.length:Int))),(35,.d (.int .i64 0))],[],[]⟩:St)) R Cm (n:=29) (tm:=75) (by simp[get]) (by simp[get]) (by simp[bw]) (by simp[St.lv,get]);refine gn (gG (λn a w=>∃(i:Nat) (left:Int) (uV:Nat) (PL:List (Int×List dG)),HI K .i64 cP 56 3 9 b PL (⟨98,[(1,.d (.int .i64 a1)),(7,.d (.mp (bL 71 1 false true) 9 (ak (bB (aH .i64) au) y2))),(8,.d (.mp (bL 73 1 false false) 2 (ak (bB (aH .i64) (aH .i64)) m))),(10,.d (.int .i64 left)),(33,.d (.slice (ak (aH .i64) y4))),(34,.d (.int .i64 (y4.length:Int))),(35,.d (.int .i64 (i:Int)))],[],[]⟩:St) a w∧nU y2 (λc=>(iP a0 all a0.aC.length c).getD 0) (y4.drop i) left uV PL=some o∧(∀id l,br cK PL id=some l→l.length≤uV)∧i≤y4.length∧n=y4.length - i) y4.length ⟨0,2000,0,[],H,ho,λid l h=>by simp[br,eJ] at h,cE _,rfl⟩ λn a w ⟨i,left,uV,PL,H,hc,hlen,hi,hn⟩=>?_);refine H.xc (λK'=>ko [1,7,8,10,33,34,35,36] 1 (by simp;rfl) ct) (by simp) λa w H=>?_
   have h36:=H.bool (s:=36) (c:=decide ((i:Int) < (y4.length:Int))) (by simp[St.look,get]);refine eU (dz h36 (λyq=>oJ (dB ?_)) λyq=>qQ ?_)
   case refine_2=>
    have ph:i=y4.length:=by have:=iB yq;omega
    subst ph;rw[cx (aM _)] at hc;have FW:o=some PL:=(af hc).symm;obtain⟨p',R'⟩:=H.show (tm:=75) (λ_=>rfl);refine eR (eR (ot ?_));exact⟨_,p',R',PL,FW,wk (by simp[bw,St.put])⟩
   have ph:i < y4.length:=by have:=gf yq;omega
   obtain⟨c,V1⟩:∃c,y4[i]? =some c:=⟨_,ae ph⟩;have Oh:y4.drop i=c::y4.drop (i+1):=by
    rw[ae ph] at V1;rw[bN ph,af V1]
   rw[Oh] at hc;unfold nU at hc;obtain⟨rr,hrr,hc⟩:=bI hc;refine eU (gn ?_);refine H.xc (λK'=>ko [1,7,8,10,12,33,34,35] 3 (by simp[V1];rfl) ct) (by simp) λa w H=>?_
   refine H.xc (λK'=>ko [1,7,8,10,12,33,34,35,40,41,42] 3 (by simp;rfl) (jg [1,7,8,10,12,33,34,35,43] [] (zn hrr) rfl rfl rfl Tryz.call29 (by simp) (by simp;rfl) (ko [1,7,8,10,12,13,14,33,34,35] 5 (by simp;rfl) ct))) (by simp) λa w H=>?_
   refine eU (H.xc (λK'=>ko [1,7,8,10,12,13,33,34,35,47] 2 (by simp;rfl) ct) (by simp) λa w H=>?_);have h47:=H.bool (s:=47) (c:=!rr.2) (by simp[St.look,get]);refine dz h47 (λIP=>?_) λIP=>oJ (dB ?_)
   ·rw[ai (by simpa using IP)] at hc
    have FW:o=none:=(af hc).symm;subst FW;cases h0;obtain⟨p',R'⟩:=H.back;refine QN (Q:=λe s=>e=.ret∧Ub Tryz.prog [ResultVar.tmp 4,ResultVar.tmp 5] (AV.ia [AV.d (D.slice (ak eL [])),AV.d (D.int IntKind.i64 3)]) [] .ret s) R' (kr [4,5] (by simp;rfl) (fo ⟨rfl,[],by simp,rfl,by simp⟩)) λe s a' w' p' R' ⟨he,hq⟩=>?_
    subst he;exact⟨s,p',R',hq⟩
   rw[ah (by simpa using IP)] at hc;obtain⟨_,tv,hc⟩:=bI hc;replace tv:=bT tv;have hsf:(iP a0 all a0.aC.length c).getD 0=(br cK m c).getD 0:=by rw[hm.eq]
   rw[hsf] at hc;refine H.xc (λK'=>ko [1,7,8,10,12,13,33,34,35] 5 (by simp;rfl) ct) (by simp) λa w H=>?_
   refine H.xc (λK'=>ko [1,7,8,10,12,33,34,35,52,53,54] 3 (by simp;rfl) ct) (by simp) λa w H=>?_
   refine gn (gG (λn a w=>∃(j:Nat) (WB:List (Int×List dG)),HI K .i64 cP 56 3 9 b WB (⟨98,[(1,.d (.int .i64 a1)),(7,.d (.mp (bL 71 1 false true) 9 (ak (bB (aH .i64) au) y2))),(8,.d (.mp (bL 73 1 false false) 2 (ak (bB (aH .i64) (aH .i64)) m))),(10,.d (.int .i64 (IntKind.i64.wrap (left - (rr.1.length:Int))))),(12,.d (.int .i64 c)),(33,.d (.slice (ak (aH .i64) y4))),(34,.d (.int .i64 (y4.length:Int))),(35,.d (.int .i64 (i:Int))),(52,.d (.slice (ak aw rr.1))),(53,.d (.int .i64 (rr.1.length:Int))),(54,.d (.int .i64 (j:Int)))],[],[]⟩:St) a w∧(rr.1.drop j).foldl (pb ((br cK m c).getD 0)) WB=rr.1.foldl (pb ((br cK m c).getD 0)) PL∧(∀id l,br cK WB id=some l→l.length≤uV+j)∧j≤rr.1.length∧n=rr.1.length - j) rr.1.length ⟨0,PL,H,rfl,hlen,cE _,rfl⟩ λn2 a w ⟨j,WB,H,lU,CZ,hj,II⟩=>?_);refine H.xc (λK'=>ko [1,7,8,10,12,33,34,35,52,53,54,55] 1 (by simp;rfl) ct) (by simp) λa w H=>?_
   have h55:=H.bool (s:=55) (c:=decide ((j:Int) < (rr.1.length:Int))) (by simp[St.look,get]);refine eU (dz h55 (λyq=>oJ (dB ?_)) λyq=>qQ ?_)
   case refine_2=>
    have wj:j=rr.1.length:=by have:=iB yq;omega
    subst wj;rw[cx (aM _),List.foldl_nil] at lU;subst lU;have hw:IntKind.i64.wrap ((i:Int)+1)=(i:Int)+1:=iI (by omega) (by omega);refine eR (eR (ot (lC (dB ?_))));refine H.zM (λK'=>ko [1,7,8,10,33,34,35] 2 (by simp;rfl) ct) (by simp) λa w H=>?_
    exact⟨y4.length - (i+1),by omega,i+1,_,_,_,H.qR (by simp[bw,hw]),hc,CZ,by omega,rfl⟩
   have wj:j < rr.1.length:=by have:=gf yq;omega
   obtain⟨x,Um⟩:∃x,rr.1[j]? =some x:=⟨_,ae wj⟩;have ago:rr.1.drop j=x::rr.1.drop (j+1):=by
    rw[ae wj] at Um;rw[bN wj,af Um]
   rw[ago,ea] at lU;refine eU (gn ?_);refine H.xc (λK'=>ko [1,7,8,10,12,16,33,34,35,52,53,54] 4 (by simp[Um];rfl) ct) (by simp) λa w H=>?_
   have H:=H.kh (n:=16) (cs:=Db x) (row:=aw x) (by simp[get]) (by simp) (by decide);have H:=H.qR (cM:=(⟨98,[(1,.d (.int .i64 a1)),(7,.d (.mp (bL 71 1 false true) 9 (ak (bB (aH .i64) au) y2))),(8,.d (.mp (bL 73 1 false false) 2 (ak (bB (aH .i64) (aH .i64)) m))),(10,.d (.int .i64 (IntKind.i64.wrap (left - (rr.1.length:Int))))),(12,.d (.int .i64 c)),(16,.cN (aw x) 0),(33,.d (.slice (ak (aH .i64) y4))),(34,.d (.int .i64 (y4.length:Int))),(35,.d (.int .i64 (i:Int))),(52,.d (.slice (ak aw rr.1))),(53,.d (.int .i64 (rr.1.length:Int))),(54,.d (.int .i64 (j:Int)))],[],[]⟩:St)) (by simp[bw,St.kh]);refine hU (Q:=λe a w=>e=.normal∧HI K .i64 cP 56 3 9 b (pb ((br cK m c).getD 0) WB x) (⟨98,[(1,.d (.int .i64 a1)),(7,.d (.mp (bL 71 1 false true) 9 (ak (bB (aH .i64) au) y2))),(8,.d (.mp (bL 73 1 false false) 2 (ak (bB (aH .i64) (aH .i64)) m))),(10,.d (.int .i64 (IntKind.i64.wrap (left - (rr.1.length:Int))))),(12,.d (.int .i64 c)),(33,.d (.slice (ak (aH .i64) y4))),(34,.d (.int .i64 (y4.length:Int))),(35,.d (.int .i64 (i:Int))),(52,.d (.slice (ak aw rr.1))),(53,.d (.int .i64 (rr.1.length:Int))),(54,.d (.int .i64 (j:Int)))],[],[]⟩:St) a w) (H.draw (cM:=(⟨98,[(1,.d (.int .i64 a1)),(7,.d (.mp (bL 71 1 false true) 9 (ak (bB (aH .i64) au) y2))),(8,.d (.mp (bL 73 1 false false) 2 (ak (bB (aH .i64) (aH .i64)) m))),(10,.d (.int .i64 (IntKind.i64.wrap (left - (rr.1.length:Int))))),(12,.d (.int .i64 c)),(16,.cN (aw x) 0),(33,.d (.slice (ak (aH .i64) y4))),(34,.d (.int .i64 (y4.length:Int))),(35,.d (.int .i64 (i:Int))),(52,.d (.slice (ak aw rr.1))),(53,.d (.int .i64 (rr.1.length:Int))),(54,.d (.int .i64 (j:Int)))],[],[]⟩:St)) (by simp[bw]) Cm sZ λK' p' es clock w' k1 k2 k3 R H6 Ba sW=>?_) λe a w ⟨he,H⟩=>?_
   case refine_2=>
    subst he;have hw:IntKind.i64.wrap ((j:Int)+1)=(j:Int)+1:=iI (by omega) (by omega);refine lC (dB ?_);refine H.zM (λK'=>ko [1,7,8,10,12,33,34,35,52,53,54] 2 (by simp;rfl) ct) (by simp) λa w H=>?_
    refine⟨rr.1.length - (j+1),by omega,j+1,_,H.qR (by simp[bw,hw]),lU,λid l hl=>?_,by omega,rfl⟩;unfold pb at hl;obtain⟨g1,g2⟩:=iK eB WB x.ID ((br cK WB x.ID).getD []++[⟨0,x.Name,(br cK m c).getD 0⟩]) id;by_cases hid:id=x.ID
    ·rw[g1 hid] at hl
     cases hl;cases hq:br cK WB x.ID with
     |none=>simp;omega
     |some q=>have:=CZ _ _ hq;simp;omega
    ·rw[g2 hid] at hl
     have:=CZ _ _ hl;omega
   have e9:=Ba;refine(?_:wpAnyH Tryz.prog .any _ _ _ (15+1) _ a w');refine yL (i:=0) rfl (by decide +kernel) (by decide +kernel) (by decide +kernel) (λc a w q=>absurd q.1 (by simp)) rfl rfl rfl e9 (ng.of k1 R) ?_;have Jo:(a.put (some 58) (.map (some b))).eval (.tmp 58)=.map (some b):=dm (by rw[R.nt];simp);have e9:(a.put (some 58) (.map (some b))).eval (.tmp 9)=.map (some b):=(aX (by simp)).trans e9;have R2:=R.put (d:=58) (x:=.undef) (v:=.map (some b)) .undef (by simp);generalize a.put (some 58) (.map (some b))=a at *;refine(?_:wpAnyH Tryz.prog .any _ _ _ (14+1) _ a w');refine yL (i:=3) rfl (by decide +kernel) (by decide +kernel) (by decide +kernel) (λc a w q=>absurd q.1 (by simp)) rfl rfl rfl e9 (ng.of k1 R) ?_;have UC:(a.put (some 61) (.map (some b))).eval (.tmp 61)=.map (some b):=dm (by rw[R2.nt];simp[St.put]);have e9:(a.put (some 61) (.map (some b))).eval (.tmp 9)=.map (some b):=(aX (by simp)).trans e9;have Jo:(a.put (some 61) (.map (some b))).eval (.tmp 58)=.map (some b):=(aX (by simp)).trans Jo;have R3:=R2.put (d:=61) (x:=.undef) (v:=.map (some b)) .undef (by simp[St.put]);generalize a.put (some 61) (.map (some b))=a at *;clear R2;refine pD [9,58,61] (by decide +kernel) (λc a w q=>absurd q.1 (by simp)) (λw2 h q hq=>cT (h.agree k1 R sW _ hq)) (ng.of k1 R) (n:=6) [1,2,4,5,7,8,9,10] _ _ _ (by decide +kernel) (yb (by decide +kernel)) R3 (tE rfl rfl rfl (by simp[gX,iZ,gB,gZ,St.put];rfl)) λa4 R4 hk=>?_
   have e9:a4.eval (.tmp 9)=.map (some b):=(hk 9 (by simp)).trans e9;have Jo:a4.eval (.tmp 58)=.map (some b):=(hk 58 (by simp)).trans Jo;have UC:a4.eval (.tmp 61)=.map (some b):=(hk 61 (by simp)).trans UC;clear hk R3;refine(?_:wpAnyH Tryz.prog .any _ _ _ (5+1) _ a4 w');refine GL (i:=11) R4 rfl (by decide +kernel) (by decide +kernel) (by decide +kernel) (λc a w q=>absurd q.1 (by simp)) rfl rfl rfl Tryz.underlying73 rfl (by simp[rT];rfl) (λw2 h=>h.agree k1 R sW) (ng.of k1 R) (by simp) λu5 R5=>?_
   have e9:(a4.put (some 69) u5).eval (.tmp 9)=.map (some b):=(aX (by simp)).trans e9;have Jo:(a4.put (some 69) u5).eval (.tmp 58)=.map (some b):=(aX (by simp)).trans Jo;have UC:(a4.put (some 69) u5).eval (.tmp 61)=.map (some b):=(aX (by simp)).trans UC;generalize a4.put (some 69) u5=a5 at *;clear R4;refine(?_:wpAnyH Tryz.prog .any _ _ _ (4+1) _ a5 w');refine DY (i:=12) R5 rfl (by decide +kernel) (by decide +kernel) (by decide +kernel) (λc a w q=>absurd q.1 (by simp)) rfl rfl rfl (by simp[vt,St.put];rfl) (ng.of k1 R) (by simp[St.put]) λu6 R6=>?_
   have e9:(a5.put (some 70) u6).eval (.tmp 9)=.map (some b):=(aX (by simp)).trans e9;have Jo:(a5.put (some 70) u6).eval (.tmp 58)=.map (some b):=(aX (by simp)).trans Jo;have UC:(a5.put (some 70) u6).eval (.tmp 61)=.map (some b):=(aX (by simp)).trans UC;generalize a5.put (some 70) u6=a6 at *;have UD:a6.eval (.tmp 60)=.int .i64 x.ID:=xG R6 (by simp[St.look,get,St.put]);have e63:a6.eval (.tmp 63)=.int .i64 x.ID:=xG R6 (by simp[St.look,get,St.put]);clear R5;have gS:∀l,br cK WB x.ID=some l→l.length+1≤268435456:=λl hl=>by have:=CZ _ _ hl;omega
   refine fv (rs:=[6,13]) (by decide +kernel) (by simp) λi hi=>?_
   simp only[aZ,fE,td] at hi;rcases hi with rfl |rfl
   ·obtain⟨v,gT,hv,_⟩:=H6.find (P:=Tryz.prog) Tryz.underlying75 Tryz.underlying3 VG x.ID
    refine mF (v:=v) (w':=w') rfl rfl (by simp[execOp,UC,e63,gT]) ⟨ng.of k1 R,?_⟩;have R7:=R6.put (d:=64) (x:=.undef) (v:=v) .undef (by simp[St.put]);have e64:(a6.put (some 64) v).eval (.tmp 64)=v:=dm (by rw[R6.nt];simp[St.put]);have e9:(a6.put (some 64) v).eval (.tmp 9)=_:=(aX (by simp)).trans e9;have Jo:(a6.put (some 64) v).eval (.tmp 58)=_:=(aX (by simp)).trans Jo;have UD:(a6.put (some 64) v).eval (.tmp 60)=_:=(aX (by simp)).trans UD;refine(?_:wpAnyH Tryz.prog .any _ _ _ (2+1) _ (a6.put (some 64) v) w');generalize a6.put (some 64) v=a7 at *;refine fv (rs:=[13]) (by decide +kernel) (by simp) λi hi=>?_
    rw[aD.1 hi];refine wpOp_step R7 rfl rfl rfl (by simp[St.put];rfl) λu w8 p8 R8=>⟨ng.of k1 R8,?_⟩
    have e64:(a7.put (some 71) u).eval (.tmp 64)=_:=(aX (by simp)).trans e64;have e9:(a7.put (some 71) u).eval (.tmp 9)=_:=(aX (by simp)).trans e9;have Jo:(a7.put (some 71) u).eval (.tmp 58)=_:=(aX (by simp)).trans Jo;have UD:(a7.put (some 71) u).eval (.tmp 60)=_:=(aX (by simp)).trans UD;exact Eu (x:=(⟨0,x.Name,(br cK m c).getD 0⟩:dG)) k1 Cm k2 k3 R8 (H6.keep k1 R R8) Tryz.underlying75 Tryz.underlying3 VG Tryz.underlying52 W9 rfl (by decide) XB Xz (λ_=>rfl) x.ID hv (i1:=14) (i2:=15) rfl rfl rfl rfl rfl rfl rfl rfl (by decide +kernel) (by decide +kernel) (by decide +kernel) Jo UD e64 e9 (by decide) (by decide) (by decide) (by simp[St.put]) (by simp[St.put]) gS (by simp[bw,St.put])
   ·refine wpOp_step R6 rfl rfl rfl (by simp[St.put];rfl) λu w7 p7 R7=>⟨ng.of k1 R7,?_⟩
    have e9:(a6.put (some 71) u).eval (.tmp 9)=_:=(aX (by simp)).trans e9;have Jo:(a6.put (some 71) u).eval (.tmp 58)=_:=(aX (by simp)).trans Jo;have UD:(a6.put (some 71) u).eval (.tmp 60)=_:=(aX (by simp)).trans UD;have UC:(a6.put (some 71) u).eval (.tmp 61)=_:=(aX (by simp)).trans UC;have e63:(a6.put (some 71) u).eval (.tmp 63)=_:=(aX (by simp)).trans e63;refine(?_:wpAnyH Tryz.prog .any _ _ _ (2+1) _ (a6.put (some 71) u) w7);generalize a6.put (some 71) u=a7 at *;refine fv (rs:=[6]) (by decide +kernel) (by simp) λi hi=>?_
    rw[aD.1 hi];have H7:=H6.keep k1 R R7;obtain⟨v,gT,hv,_⟩:=H7.find (P:=Tryz.prog) Tryz.underlying75 Tryz.underlying3 VG x.ID;refine mF (v:=v) (w':=w7) rfl rfl (by simp[execOp,UC,e63,gT]) ⟨ng.of k1 R7,?_⟩;have R8:=R7.put (d:=64) (x:=.undef) (v:=v) .undef (by simp[St.put]);have e64:(a7.put (some 64) v).eval (.tmp 64)=v:=dm (by rw[R7.nt];simp[St.put]);have e9:(a7.put (some 64) v).eval (.tmp 9)=_:=(aX (by simp)).trans e9;have Jo:(a7.put (some 64) v).eval (.tmp 58)=_:=(aX (by simp)).trans Jo;have UD:(a7.put (some 64) v).eval (.tmp 60)=_:=(aX (by simp)).trans UD;exact Eu (x:=(⟨0,x.Name,(br cK m c).getD 0⟩:dG)) k1 Cm k2 k3 R8 (H6.keep k1 R R8) Tryz.underlying75 Tryz.underlying3 VG Tryz.underlying52 W9 rfl (by decide) XB Xz (λ_=>rfl) x.ID hv (i1:=14) (i2:=15) rfl rfl rfl rfl rfl rfl rfl rfl (by decide +kernel) (by decide +kernel) (by decide +kernel) Jo UD e64 e9 (by decide) (by decide) (by decide) (by simp[St.put]) (by simp[St.put]) gS (by simp[bw,St.put])
open Classical in
theorem F2 {a0:ao} {a1:Int} {r:List Int} (h0:pq a0 a1=some r):dY Tryz.prog 13 [] [.agg (ay a0),.d (.int .i64 a1)] (.d (.slice (ak (aH .i64) r))) []:=by
 unfold pq at h0;refine tY (nt:=14) (rs:=[.tmp 4]) Tryz.func13 rfl Tryz.ntmps13 rfl (by simp) (by decide) rfl λK hK=>?_
 refine kR [1,2] ?_;refine aF ?_;refine kc ?_;refine kO [1,2,5] 1 ?_;obtain⟨y1,oC,h0⟩:=bI h0;refine ku [1,2,6] (rf oC) Tryz.call25 ?_;refine kO [1,2,7] 1 ?_;refine ar ?_;refine gJ ((y1 != 0)) (λc1=>?_) (λc1=>?_)
 ·rw[ai c1] at h0
  refine kR [4] ?_;cases h0;exact fM
 ·rw[ah (by rw[c1];decide)] at h0
  refine aN ?_;obtain⟨y2,DM,h0⟩:=bI h0;replace h0:=bI h0;obtain⟨⟨all,sg⟩,hp,h0⟩:=h0;obtain⟨_,gD,h0⟩:=bI h0;replace gD:=bT gD;obtain⟨okh,Qy⟩:=gD;dsimp only at h0 okh Qy;refine rp 2 (ay a0) (aK a0) (by simp) (by simp) hK (by decide) (λi hi=>absurd hi (fR i)) ?_;refine Sn (S0:=λ_:Unit=>(⟨14,[(4,.d (.slice (ak (aH .i64) (yB a0 all y2 1 a1))))],[],[]⟩:St)) (G:=λ_=>True) [0,2,4] 4 (by simpa using hK) sZ (by decide +kernel) rfl rfl rfl (by simp[gX,iZ,gB,gZ];rfl) (λK' S F C=>?_) (λ_ _=>?_)
  ·refine vk C [1] ?_
   refine bW rfl (Ix [9,10,12] [] (ND hp okh) rfl rfl rfl Tryz.call27 (by simp) (λ_=>rfl) (λm=>by simp;rfl) λm hm=>ar ?_) trivial;refine vk C [3] ?_;refine bW rfl (ku [9,11,12] (uU DM) Tryz.call26 (ar ?_)) trivial;refine vk C [5] ?_;refine bW rfl (jg [13] [] (tA (Ng (objs:=y2) hm Qy 1 a1)) rfl rfl rfl Tryz.call28 (by simp) (by simp;rfl) (ar ?_)) trivial;refine vk C [6] ?_;refine bW rfl (sL ?_) trivial;exact kx C (by decide +kernel) ⟨rfl,(),trivial,bw.2 (by simp)⟩
  ·cases h0
   exact fM
end Go.Vl
namespace Go.Vl
open Go Go.Proofs
theorem zo {a0:ao} {a1:Int} {r:(List aB)×Int} (h0:kZ a0 a1=some r):dY Tryz.prog 15 [] [.agg (ay a0),.d (.int .i64 a1)] (.ia [.d (.slice (ak aw r.1)),.d (.int .i64 r.2)]) []:=by
 unfold kZ at h0;refine dS (nt:=31) (rs:=[.tmp 4,.tmp 5]) Tryz.func15 rfl Tryz.ntmps15 rfl (by simp) (by decide) rfl λK=>?_
 refine kR [1,2] ?_;refine aF ?_;refine kc ?_;refine kO [1,2,10] 1 ?_;obtain⟨y1,oC,h0⟩:=bI h0;refine ku [1,2,11] (rf oC) Tryz.call25 ?_;refine kO [1,2,6] 1 ?_;refine ar ?_;refine kR [1,2,6,13] ?_;refine gJ ((y1 != 0)) (λc1=>?_) (λc1=>?_)
 ·rw[ai c1] at h0
  refine kR [4,5] ?_;cases h0;exact fM
 ·rw[ah (by rw[c1];decide)] at h0
  refine aN ?_;refine kc ?_;refine kO [1,15] 1 ?_;obtain⟨y2,DM,h0⟩:=bI h0;refine ku [1,16] (uU DM) Tryz.call26 ?_;refine kO [1,7] 1 ?_;refine ar ?_;refine aF ?_;refine kR [1,7,21] ?_;refine cF (b:=((((br cK y2 a1).getD (⟨0,0,[],[],0,[],ByteArray.empty,0⟩:ab)).Kind) != 3)) (by simp) (λc2=>?_) (λc2=>?_)
  ·rw[ai c2] at h0
   refine kR [4,5] ?_;cases h0;exact fM
  ·rw[ah (by rw[c2];decide)] at h0
   refine aN ?_;refine kc ?_;refine kO [23,24] 2 ?_;obtain⟨y3,Ce,h0⟩:=bI h0;refine ku [25] (zn Ce) Tryz.call29 ?_;refine kO [8,9] 5 ?_;refine ar ?_;refine aF ?_;refine kR [8,29] ?_;refine gJ ((!y3.2)) (λc3=>?_) (λc3=>?_)
   ·rw[ai c3] at h0
    refine kR [4,5] ?_;cases h0;exact fM
   ·rw[ah (by rw[c3];decide)] at h0
    refine aN ?_;refine kR [4,5] ?_;cases h0;exact fM
theorem EW {r:Bool} (h0:rU=some r):dY Tryz.prog 18 [] [] (.d (.bool r)) []:=by
 unfold rU at h0;refine dS (nt:=33) (rs:=[.tmp 0]) Tryz.func18 rfl Tryz.ntmps18 rfl (by simp) (by decide) rfl λK=>?_
 refine kR [] ?_;refine kc ?_;refine kO [4,7,10,11] 8 ?_;refine tD 6 ?_;refine tD 9 ?_;refine kO [1] 4 ?_;refine ar ?_;refine kc ?_;refine kO [15] 1 ?_;refine lA (BJ 12) ?_;obtain⟨y1,oC,h0⟩:=bI h0;refine ku [16] (zo oC) Tryz.call15 ?_;refine kO [2,3] 5 ?_;refine ar ?_;obtain⟨v2,eE,h0⟩:=bI h0;refine qF (λsR:Bool=>(⟨33,[(0,.d (.bool sR))],[],[]⟩:St)) (λsR=>v2=sR) (λsR e=>?_) ?_
 ·subst e
  cases h0;exact fM
 ·refine qH ?_
  refine kO [2,21] 3 ?_;refine bh 21 (y1.2==0) (by simp) (λc5=>?_) (λc5=>?_)
  ·rw[ai c5] at eE
   refine kO [2,26] 5 ?_;refine bh 26 (((y1.1).length:Int)==1) (by simp) (λc6=>?_) (λc6=>?_)
   ·rw[ai c6] at eE
    obtain⟨x3,p3,eE⟩:=bI eE;replace p3:=bD p3;have og:=p3;try simp at og
    refine ko [0] 7 (by simp[p3,og];rfl) ?_;refine ar ?_;cases eE;exact⟨_,rfl,cq⟩
   ·rw[ah (by rw[c6];decide)] at eE
    refine cU 5 [] (by kernel_rfl) ?_;refine kO [0] 2 ?_;refine ar ?_;cases eE;exact⟨_,rfl,cq⟩
  ·rw[ah (by rw[c5];decide)] at eE
   refine cU 3 [] (by kernel_rfl) ?_;refine kO [2,26] 2 ?_;refine cU 5 [] (by kernel_rfl) ?_;refine kO [0] 2 ?_;refine ar ?_;cases eE;exact⟨_,rfl,cq⟩
end Go.Vl
