/- Plain functions that mirror functions of the given program. Conditions: none. -/
import Derived.Test.YtjnflahicimmlaaGreatDoorJf
import Derived.Test.YtjnflahicimmlaaGreatDoorVmCc
set_option maxHeartbeats 1000000
set_option linter.unusedSimpArgs false
set_option linter.unusedVariables false
namespace Go.Vl
open Go
noncomputable def cJ (a0:bQ) (a1:Int):Option (Int×bQ):=
 if(decide (((a0.L).length:Int)≤a0.at_))=true then
  some (0,a0)
 else
 (idx a0.L a0.at_).bind λx1=>
 (ck (a1≠0)).bind λ_=>
 some (((ZX .i64 x1 65535)).tmod a1,(⟨a0.L,IntKind.i64.wrap (a0.at_+1)⟩:bQ))
noncomputable def ik (a0:bQ) (a1:Int) (a2:Int):Option (Int×bQ):=
 (cJ a0 (IntKind.i64.wrap ((IntKind.i64.wrap (a2 - a1))+1))).bind λy1=>
 some (IntKind.i64.wrap (a1+y1.1),y1.2)
noncomputable def mO (y3:Int×bQ) (s2:Int×(List Int)×Int×(List Int)) (v7:Bool):Option (Lp (Int×(List Int)×Int×(List Int)) ((List Int)×Int×(List Int))):=
 if v7=true then
  (cJ y3.2 10).bind λy8=>
  (ck ((s2.2.2.2).length+([IntKind.u8.wrap (IntKind.i64.wrap (48+y8.1))]).length≤268435456)).bind λ_=>
  some (.go (IntKind.i64.wrap (s2.1+1),y8.2.L,y8.2.at_,(s2.2.2.2++[IntKind.u8.wrap (IntKind.i64.wrap (48+y8.1))])))
 else
 (cJ y3.2 8).bind λy9=>
 (Df (⟨#[97,98,99,100,101,102,116,107]⟩:ByteArray) y9.1).bind λwo=>
 (ck ((s2.2.2.2).length+([wo]).length≤268435456)).bind λ_=>
 some (.go (IntKind.i64.wrap (s2.1+1),y9.2.L,y9.2.at_,(s2.2.2.2++[wo])))
noncomputable def oQ (a1:Int) (s2:Int×(List Int)×Int×(List Int)):Option (Lp (Int×(List Int)×Int×(List Int)) ((List Int)×Int×(List Int))):=
 if(decide (s2.1 < a1))=true then
  (cJ (⟨s2.2.1,s2.2.2.1⟩:bQ) 8).bind λy3=>
  if(y3.1==0)=true then
   (cJ y3.2 8).bind λy4=>
   (Df (⟨#[32,10,61,37,43,47,45,46]⟩:ByteArray) y4.1).bind λx5=>
   (ck ((s2.2.2.2).length+([x5]).length≤268435456)).bind λ_=>
   some (.go (IntKind.i64.wrap (s2.1+1),y4.2.L,y4.2.at_,(s2.2.2.2++[x5])))
  else
  if(y3.1==1)=true then
   (cJ y3.2 256).bind λy6=>
   (ck ((s2.2.2.2).length+([IntKind.u8.wrap y6.1]).length≤268435456)).bind λ_=>
   some (.go (IntKind.i64.wrap (s2.1+1),y6.2.L,y6.2.at_,(s2.2.2.2++[IntKind.u8.wrap y6.1])))
  else
  if(y3.1==2)=true then
   mO y3 s2 (y3.1==2)
  else
   mO y3 s2 (y3.1==3)
 else
  some (.out (s2.2.1,s2.2.2.1,s2.2.2.2))
noncomputable def tQ (a0:bQ) (a1:Int):Option ((List Int)×bQ):=
 (iter (oQ a1) (0,a0.L,a0.at_,[])).bind λv1=>
 some (v1.2.2,(⟨v1.1,v1.2.1⟩:bQ))
noncomputable def nP (a1:List Int) (s4:Int×Int×(List Int)×Int×(List (ByteArray×Bool))×(List az)):Option (Lp (Int×Int×(List Int)×Int×(List (ByteArray×Bool))×(List az)) ((List Int)×Int×(List az))):=
 if(decide (0 < s4.2.1))=true then
  (cJ (⟨s4.2.2.1,s4.2.2.2.1⟩:bQ) 3).bind λy5=>
  (cJ y5.2 3).bind λy6=>
  (ck (0≤y6.1∧(Int.toNat y6.1) < ([(⟨#[109,97,105,110]⟩:ByteArray),(⟨#[111,108,100]⟩:ByteArray),(⟨#[120]⟩:ByteArray)]).length)).bind λ_=>
  (idx [(⟨#[109,97,105,110]⟩:ByteArray),(⟨#[111,108,100]⟩:ByteArray),(⟨#[120]⟩:ByteArray)] y6.1).bind λx7=>
  Option.bind (
   if((br pE s4.2.2.2.2.1 x7).getD false)=true then
    (cJ y6.2 3).bind λAz=>
    some ((Az.1==0),Az.2.L,Az.2.at_)
   else
    some (false,y6.2.L,y6.2.at_)) λv8=>
  if v8.1=true then
   (ck ((s4.2.2.2.2.2).length+([(⟨2,x7,0,IntKind.i64.wrap (s4.1+y5.1)⟩:az)]).length≤268435456)).bind λ_=>
   some (.go (IntKind.i64.wrap (s4.1+y5.1),IntKind.i64.wrap (s4.2.1 - 1),v8.2.1,v8.2.2,(eD pE s4.2.2.2.2.1 x7 false),(s4.2.2.2.2.2++[(⟨2,x7,0,IntKind.i64.wrap (s4.1+y5.1)⟩:az)])))
  else
  (cJ (⟨v8.2.1,v8.2.2⟩:bQ) ((a1).length:Int)).bind λy9=>
  (idx a1 y9.1).bind λwo=>
  (ck ((s4.2.2.2.2.2).length+([(⟨1,x7,wo,IntKind.i64.wrap (s4.1+y5.1)⟩:az)]).length≤268435456)).bind λ_=>
  some (.go (IntKind.i64.wrap (s4.1+y5.1),IntKind.i64.wrap (s4.2.1 - 1),y9.2.L,y9.2.at_,(eD pE s4.2.2.2.2.1 x7 true),(s4.2.2.2.2.2++[(⟨1,x7,wo,IntKind.i64.wrap (s4.1+y5.1)⟩:az)])))
 else
  some (.out (s4.2.2.1,s4.2.2.2.1,s4.2.2.2.2.2))
noncomputable def rS (a0:bQ) (a1:List Int):Option ((List az)×bQ):=
 (cJ a0 4).bind λy1=>
 (cJ y1.2 8).bind λy2=>
 (iter (nP a1) (y1.1,y2.1,y2.2.L,y2.2.at_,[],[])).bind λv3=>
 some (v3.2.2,(⟨v3.1,v3.2.1⟩:bQ))
noncomputable def fq (a0:ab) (a1:Int) (a2:ao):Option (Int×Int×ao):=
 (ck ((a2.aq).length+([(⟨IntKind.i64.wrap (a1+1),a0.Kind,a0.Data,a0.bd,a0.Tree,a0.bf,a0.fJ,a0.Time⟩:ab)]).length≤268435456)).bind λ_=>
 some (IntKind.i64.wrap (a1+1),IntKind.i64.wrap (a1+1),(⟨(a2.aq++[(⟨IntKind.i64.wrap (a1+1),a0.Kind,a0.Data,a0.bd,a0.Tree,a0.bf,a0.fJ,a0.Time⟩:ab)]),a2.aC⟩:ao))
noncomputable def jI (s8:Int×(List Int)×Int×(List az)×Int×(List ab)×(List Int)) (wD:Int×(List Int)×Int×(List Int)):Option (Lp (Int×(List Int)×Int×(List Int)) ((List Int)×Int×(List Int))):=
 (some ((decide (0≤wD.1))&&(decide (((wD.2.2.2).length:Int) < 2)))).bind λv15=>
 if v15=true then
  (cJ (⟨wD.2.1,wD.2.2.1⟩:bQ) 2).bind λLA=>
  if(LA.1==0)=true then
   (ck (0≤wD.1∧(Int.toNat wD.1) < (s8.2.2.2.2.2.2).length)).bind λ_=>
   (idx s8.2.2.2.2.2.2 wD.1).bind λx17=>
   (ck ((wD.2.2.2).length+([x17]).length≤268435456)).bind λ_=>
   some (.go (IntKind.i64.wrap (wD.1 - 1),LA.2.L,LA.2.at_,(wD.2.2.2++[x17])))
  else
   some (.go (IntKind.i64.wrap (wD.1 - 1),LA.2.L,LA.2.at_,wD.2.2.2))
 else
  some (.out (wD.2.1,wD.2.2.1,wD.2.2.2))
noncomputable def jJ (v4:(List Int)×Int×(List az)×Int×(List ab)×(List Int)) (s8:Int×(List Int)×Int×(List az)×Int×(List ab)×(List Int)):Option (Lp (Int×(List Int)×Int×(List az)×Int×(List ab)×(List Int)) ((List Int)×Int×(List az)×(List ab)×(List Int))):=
 if(decide (0 < s8.1))=true then
  (cJ (⟨s8.2.1,s8.2.2.1⟩:bQ) ((v4.2.2.2.2.2).length:Int)).bind λy9=>
  (ck (0≤y9.1∧(Int.toNat y9.1) < (v4.2.2.2.2.2).length)).bind λ_=>
  (idx v4.2.2.2.2.2 y9.1).bind λwo=>
  (cJ y9.2 20).bind λAz=>
  (iter (jI s8) (IntKind.i64.wrap (((s8.2.2.2.2.2.2).length:Int) - 1),Az.2.L,Az.2.at_,[])).bind λv12=>
  (fq (⟨0,3,[],[],wo,v12.2.2,(⟨#[97,110,110]⟩:ByteArray),Az.1⟩:ab) s8.2.2.2.2.1 (⟨s8.2.2.2.2.2.1,s8.2.2.2.1⟩:ao)).bind λZ9=>
  (ck ((s8.2.2.2.2.2.2).length+([Z9.1]).length≤268435456)).bind λ_=>
  some (.go (IntKind.i64.wrap (s8.1 - 1),v12.1,v12.2.1,Z9.2.2.aC,Z9.2.1,Z9.2.2.aq,(s8.2.2.2.2.2.2++[Z9.1])))
 else
  some (.out (s8.2.1,s8.2.2.1,s8.2.2.2.1,s8.2.2.2.2.2.1,s8.2.2.2.2.2.2))
noncomputable def iM (YD:List ByteArray) (v2:(List Int)×Int×(List az)×Int×(List Int)×(List ab)) (s18:Int×(List Int)×Int×(List az)×Int×(List ab)×(List Int)) (wC:Int×(List Int)×Int×(List aB)):Option (Lp (Int×(List Int)×Int×(List aB)) ((List Int)×Int×(List aB))):=
 if(decide (wC.1 < (([(⟨#[97]⟩:ByteArray),(⟨#[98]⟩:ByteArray),(⟨#[100]⟩:ByteArray)]).length:Int)))=true then
  (ck (0≤wC.1∧(Int.toNat wC.1) < (YD).length)).bind λ_=>
  (idx YD wC.1).bind λQH=>
  (cJ (⟨wC.2.1,wC.2.2.1⟩:bQ) 3).bind λLz=>
  if(Lz.1==0)=true then
   (cJ Lz.2 ((v2.2.2.2.2.1).length:Int)).bind λQr=>
   (ck (0≤Qr.1∧(Int.toNat Qr.1) < (v2.2.2.2.2.1).length)).bind λ_=>
   (idx v2.2.2.2.2.1 Qr.1).bind λx26=>
   (ck ((wC.2.2.2).length+([(⟨QH,x26⟩:aB)]).length≤268435456)).bind λ_=>
   some (.go (IntKind.i64.wrap (wC.1+1),Qr.2.L,Qr.2.at_,(wC.2.2.2++[(⟨QH,x26⟩:aB)])))
  else
  if(Lz.1==1)=true then
   if(decide (0 < ((s18.2.2.2.2.2.2).length:Int)))=true then
    (cJ Lz.2 ((s18.2.2.2.2.2.2).length:Int)).bind λQG=>
    (ck (0≤QG.1∧(Int.toNat QG.1) < (s18.2.2.2.2.2.2).length)).bind λ_=>
    (idx s18.2.2.2.2.2.2 QG.1).bind λx28=>
    (ck ((wC.2.2.2).length+([(⟨QH,x28⟩:aB)]).length≤268435456)).bind λ_=>
    some (.go (IntKind.i64.wrap (wC.1+1),QG.2.L,QG.2.at_,(wC.2.2.2++[(⟨QH,x28⟩:aB)])))
   else
    some (.go (IntKind.i64.wrap (wC.1+1),Lz.2.L,Lz.2.at_,wC.2.2.2))
  else
   some (.go (IntKind.i64.wrap (wC.1+1),Lz.2.L,Lz.2.at_,wC.2.2.2))
 else
  some (.out (wC.2.1,wC.2.2.1,wC.2.2.2))
noncomputable def jK (v2:(List Int)×Int×(List az)×Int×(List Int)×(List ab)) (s18:Int×(List Int)×Int×(List az)×Int×(List ab)×(List Int)):Option (Lp (Int×(List Int)×Int×(List az)×Int×(List ab)×(List Int)) ((List Int)×Int×(List az)×Int×(List ab)×(List Int))):=
 if(decide (0 < s18.1))=true then
  (some ([(⟨#[97]⟩:ByteArray),(⟨#[98]⟩:ByteArray),(⟨#[100]⟩:ByteArray)]:List ByteArray)).bind λYD=>
  (iter (iM YD v2 s18) (0,s18.2.1,s18.2.2.1,[])).bind λv20=>
  (fq (⟨0,2,[],v20.2.2,0,[],ByteArray.empty,0⟩:ab) s18.2.2.2.2.1 (⟨s18.2.2.2.2.2.1,s18.2.2.2.1⟩:ao)).bind λUG=>
  (ck ((s18.2.2.2.2.2.2).length+([UG.1]).length≤268435456)).bind λ_=>
  some (.go (IntKind.i64.wrap (s18.1 - 1),v20.1,v20.2.1,UG.2.2.aC,UG.2.1,UG.2.2.aq,(s18.2.2.2.2.2.2++[UG.1])))
 else
  some (.out (s18.2.1,s18.2.2.1,s18.2.2.2.1,s18.2.2.2.2.1,s18.2.2.2.2.2.1,s18.2.2.2.2.2.2))
noncomputable def jL (Dg:Int×(List Int)×Int×(List az)×Int×(List Int)×(List ab)):Option (Lp (Int×(List Int)×Int×(List az)×Int×(List Int)×(List ab)) ((List Int)×Int×(List az)×Int×(List Int)×(List ab))):=
 if(decide (0 < Dg.1))=true then
  (cJ (⟨Dg.2.1,Dg.2.2.1⟩:bQ) 12).bind λZ7=>
  (tQ Z7.2 Z7.1).bind λy31=>
  (fq (⟨0,1,y31.1,[],0,[],ByteArray.empty,0⟩:ab) Dg.2.2.2.2.1 (⟨Dg.2.2.2.2.2.2,Dg.2.2.2.1⟩:ao)).bind λZ6=>
  (ck ((Dg.2.2.2.2.2.1).length+([Z6.1]).length≤268435456)).bind λ_=>
  some (.go (IntKind.i64.wrap (Dg.1 - 1),y31.2.L,y31.2.at_,Z6.2.2.aC,Z6.2.1,(Dg.2.2.2.2.2.1++[Z6.1]),Z6.2.2.aq))
 else
  some (.out (Dg.2.1,Dg.2.2.1,Dg.2.2.2.1,Dg.2.2.2.2.1,Dg.2.2.2.2.2.1,Dg.2.2.2.2.2.2))
noncomputable def mI (a0:bQ):Option (ao×bQ):=
 (ik a0 1 4).bind λy1=>
 (iter (jL) (y1.1,y1.2.L,y1.2.at_,[],0,[],[])).bind λv2=>
 (ik (⟨v2.1,v2.2.1⟩:bQ) 1 4).bind λy3=>
 (iter (jK v2) (y3.1,y3.2.L,y3.2.at_,v2.2.2.1,v2.2.2.2.1,v2.2.2.2.2.2,[])).bind λv4=>
 (ik (⟨v4.1,v4.2.1⟩:bQ) 1 5).bind λy5=>
 (iter (jJ v4) (y5.1,y5.2.L,y5.2.at_,v4.2.2.1,v4.2.2.2.1,v4.2.2.2.2.1,[])).bind λv6=>
 (rS (⟨v6.1,v6.2.1⟩:bQ) v6.2.2.2.2).bind λy7=>
 some ((⟨v6.2.2.2.1,y7.1⟩:ao),y7.2)
noncomputable def lh (a0:Int):Option (Bool):=
 (some ((decide (1≤a0))&&(decide (a0≤1073741824)))).bind λv1=>
 some v1
noncomputable def qq (a0:ByteArray) (s3:Int):Option (Lp Int (Unit ⊕ Bool)):=
 if(decide (s3 < (((fU a0)).length:Int)))=true then
  (idx (fU a0) s3).bind λx4=>
  (some ((decide (x4 < 33))||((decide (126 < x4))||(x4==47)))).bind λv5=>
  if v5=true then
   some (.out (.inr false))
  else
   some (.go (IntKind.i64.wrap (s3+1)))
 else
  some (.out (.inl ()))
noncomputable def mi (a0:ByteArray):Option (Bool):=
 (iter (qq a0) 0).bind λq7=>
 match q7 with
 | .inl v1=>
  (some ((decide (1≤((a0).size:Int)))&&(decide (((a0).size:Int)≤40)))).bind λv2=>
  some v2
 | .inr r6=>
  some r6
noncomputable def qm (a0:ab) (s2:Int):Option (Lp Int (Unit ⊕ Bool)):=
 if(decide (s2 < ((a0.bd).length:Int)))=true then
  (idx a0.bd s2).bind λx3=>
  Option.bind (
   (mi x3.Name).bind λy5=>
   if(!y5)=true then
    some true
   else
   (lh x3.ID).bind λy6=>
   if(!y6)=true then
    some true
   else
   if(decide (0 < s2))=true then
    (idx a0.bd (IntKind.i64.wrap (s2 - 1))).bind λx7=>
    some (!(Op.bytesLess (x7.Name).toList (x3.Name).toList))
   else
    some false) λv4=>
  if v4=true then
   some (.out (.inr false))
  else
   some (.go (IntKind.i64.wrap (s2+1)))
 else
  some (.out (.inl ()))
noncomputable def rR (a0:ab):Option (Bool):=
 (iter (qm a0) 0).bind λq9=>
 match q9 with
 | .inl v1=>
  some true
 | .inr r8=>
  some r8
noncomputable def jq (a0:List Int) (a1:Int) (s2:Int):Option (Lp Int (Unit ⊕ Int)):=
 if(decide (s2 < ((a0).length:Int)))=true then
  (idx a0 s2).bind λx3=>
  if(a1==x3)=true then
   some (.out (.inr s2))
  else
   some (.go (IntKind.i64.wrap (s2+1)))
 else
  some (.out (.inl ()))
noncomputable def slices_Index_int (a0:List Int) (a1:Int):Option (Int):=
 (iter (jq a0 a1) 0).bind λq5=>
 match q5 with
 | .inl v1=>
  some (-1)
 | .inr r4=>
  some r4
noncomputable def slices_Contains_int (a0:List Int) (a1:Int):Option (Bool):=
 (slices_Index_int a0 a1).bind λy1=>
 some (decide (0≤y1))
noncomputable def oi (a0:ab) (s5:Int):Option (Lp Int (Unit ⊕ Bool)):=
 if(decide (s5 < ((a0.bf).length:Int)))=true then
  (idx a0.bf s5).bind λx6=>
  Option.bind (
   (lh x6).bind λy8=>
   if(!y8)=true then
    some true
   else
   (ck (0≤0∧0≤s5∧s5≤((a0.bf).length:Int))).bind λ_=>
   (slices_Contains_int ((a0.bf).take (Int.toNat s5)) x6).bind λy9=>
   some y9) λv7=>
  if v7=true then
   some (.out (.inr false))
  else
   some (.go (IntKind.i64.wrap (s5+1)))
 else
  some (.out (.inl ()))
noncomputable def oP (a0:ab):Option (Bool):=
 (iter (oi a0) 0).bind λq11=>
 match q11 with
 | .inl v1=>
  Option.bind (
   (lh a0.Tree).bind λy3=>
   if y3=true then
    (mi a0.fJ).bind λy4=>
    if y4=true then
     if(decide (0≤a0.Time))=true then
      some (decide (a0.Time≤1099511627776))
     else
      some false
    else
     some false
   else
    some false) λv2=>
  some v2
 | .inr r10=>
  some r10
noncomputable def qn (a0:ab):Option (Bool):=
 (some ((a0.Tree != 0)||((decide (0 < ((a0.bf).length:Int)))||((!((a0.fJ).toList==((⟨#[]⟩:ByteArray)).toList))||(a0.Time != 0))))).bind λv1=>
 if(a0.Kind==1)=true then
  (some ((((a0.bd).length:Int)==0)&&(!v1))).bind λv2=>
  some v2
 else
 if(a0.Kind==2)=true then
  Option.bind (
   if(((a0.Data).length:Int)==0)=true then
    if(!v1)=true then
     (rR a0).bind λy4=>
     some y4
    else
     some false
   else
    some false) λv3=>
  some v3
 else
 if(a0.Kind==3)=true then
  Option.bind (
   if(((a0.Data).length:Int)==0)=true then
    if(((a0.bd).length:Int)==0)=true then
     (oP a0).bind λy6=>
     some y6
    else
     some false
   else
    some false) λv5=>
  some v5
 else
  some false
noncomputable def qo (a0:ab):Option (Int):=
 (lh a0.ID).bind λy1=>
 if(!y1)=true then
  some 2
 else
 (some ((decide (65536 < ((a0.Data).length:Int)))||((decide (64 < ((a0.bd).length:Int)))||(decide (8 < ((a0.bf).length:Int)))))).bind λv2=>
 if v2=true then
  some 3
 else
 (qn a0).bind λy3=>
 if(!y3)=true then
  some 1
 else
  some 0
noncomputable def pg (a0:ab):Option (Bool):=
 (qo a0).bind λy1=>
 some (y1 != 0)
noncomputable def oS (a0:az):Option (Bool):=
 Option.bind (
  if(a0.Kind != 1)=true then
   if(a0.Kind != 2)=true then
    some true
   else
   (mi a0.Name).bind λy2=>
   if(!y2)=true then
    some true
   else
   if(a0.Kind==2)=true then
    some (a0.dI != 0)
   else
    some false
  else
  (mi a0.Name).bind λy3=>
  if(!y3)=true then
   some true
  else
  if(a0.Kind==2)=true then
   some (a0.dI != 0)
  else
   some false) λv1=>
 some v1
noncomputable def oq (a0:ao) (s2:Int×(List (Int×ab))):Option (Lp (Int×(List (Int×ab))) (List (Int×ab))):=
 if(decide (s2.1 < ((a0.aq).length:Int)))=true then
  (idx a0.aq s2.1).bind λx3=>
  some (.go (IntKind.i64.wrap (s2.1+1),(eD cK s2.2 x3.ID x3)))
 else
  some (.out s2.2)
noncomputable def ic (a0:ao):Option ((List (Int×ab))×Bool):=
 (iter (oq a0) (0,[])).bind λv1=>
 some (v1,(((v1).length:Int)==((a0.aq).length:Int)))
noncomputable def lF (a0:ao) (a1:List (Int×ab)) (s2:Int×(List (ByteArray×Bool))):Option (Lp (Int×(List (ByteArray×Bool))) (Unit ⊕ Bool)):=
 if(decide (s2.1 < ((a0.aC).length:Int)))=true then
  (idx a0.aC s2.1).bind λx3=>
  (some (bif (x3.Kind==1) then(((((br cK a1 x3.dI).getD (⟨0,0,[],[],0,[],ByteArray.empty,0⟩:ab)).Kind) != 3)||((x3.Kind==2)&&(!((br pE s2.2 x3.Name).getD false)))) else((x3.Kind==2)&&(!((br pE s2.2 x3.Name).getD false))))).bind λv4=>
  if v4=true then
   some (.out (.inr true))
  else
   some (.go (IntKind.i64.wrap (s2.1+1),(eD pE s2.2 x3.Name (x3.Kind==1))))
 else
  some (.out (.inl ()))
noncomputable def lS (a0:ao) (a1:List (Int×ab)):Option (Bool):=
 (iter (lF a0 a1) (0,[])).bind λq6=>
 match q6 with
 | .inl v1=>
  some false
 | .inr r5=>
  some r5
noncomputable def pf (a0:az):Option (Bool):=
 (some ((decide (a0.Time < 0))||(decide (1099511627776 < a0.Time)))).bind λv1=>
 some v1
noncomputable def cmp_isNaN_int (a0:Int):Option (Bool):=
 some (a0 != a0)
noncomputable def cmp_Compare_int (a0:Int) (a1:Int):Option (Int):=
 (cmp_isNaN_int a0).bind λy1=>
 (cmp_isNaN_int a1).bind λy2=>
 if y1=true then
  if y2=true then
   some 0
  else
   some (-1)
 else
 if y2=true then
  some 1
 else
 if(decide (a0 < a1))=true then
  some (-1)
 else
 if(decide (a1 < a0))=true then
  some 1
 else
  some 0
noncomputable def pe (a0:az) (a1:az):Option (Int):=
 (cmp_Compare_int a0.Time a1.Time).bind λy1=>
 some y1
noncomputable def dt (a0:List ab) (s2:Int):Option (Lp Int (Unit ⊕ Int)):=
 if(decide (s2 < ((a0).length:Int)))=true then
  (idx a0 s2).bind λx3=>
  (pg x3).bind λy4=>
  if y4=true then
   some (.out (.inr s2))
  else
   some (.go (IntKind.i64.wrap (s2+1)))
 else
  some (.out (.inl ()))
noncomputable def ef (a0:List ab):Option (Int):=
 (iter (dt a0) 0).bind λq6=>
 match q6 with
 | .inl v1=>
  some (-1)
 | .inr r5=>
  some r5
noncomputable def dv (a0:List ab):Option (Bool):=
 (ef a0).bind λy1=>
 some (decide (0≤y1))
noncomputable def dq (a0:List az) (s2:Int):Option (Lp Int (Unit ⊕ Int)):=
 if(decide (s2 < ((a0).length:Int)))=true then
  (idx a0 s2).bind λx3=>
  (oS x3).bind λy4=>
  if y4=true then
   some (.out (.inr s2))
  else
   some (.go (IntKind.i64.wrap (s2+1)))
 else
  some (.out (.inl ()))
noncomputable def ee (a0:List az):Option (Int):=
 (iter (dq a0) 0).bind λq6=>
 match q6 with
 | .inl v1=>
  some (-1)
 | .inr r5=>
  some r5
noncomputable def du (a0:List az):Option (Bool):=
 (ee a0).bind λy1=>
 some (decide (0≤y1))
noncomputable def mo (a1:ab) (a0:List (Int×ab)) (s4:Int):Option (Lp Int (Unit ⊕ Bool)):=
 if(decide (s4 < ((a1.bf).length:Int)))=true then
  (idx a1.bf s4).bind λx5=>
  if((((br cK a0 x5).getD (⟨0,0,[],[],0,[],ByteArray.empty,0⟩:ab)).Kind) != 3)=true then
   some (.out (.inr true))
  else
   some (.go (IntKind.i64.wrap (s4+1)))
 else
  some (.out (.inl ()))
noncomputable def mq (a1:ab) (a0:List (Int×ab)) (s8:Int):Option (Lp Int (Unit ⊕ Bool)):=
 if(decide (s8 < ((a1.bd).length:Int)))=true then
  (idx a1.bd s8).bind λx9=>
  (some (((((br cK a0 x9.ID).getD (⟨0,0,[],[],0,[],ByteArray.empty,0⟩:ab)).Kind) != 1)&&((((br cK a0 x9.ID).getD (⟨0,0,[],[],0,[],ByteArray.empty,0⟩:ab)).Kind) != 2))).bind λv10=>
  if v10=true then
   some (.out (.inr true))
  else
   some (.go (IntKind.i64.wrap (s8+1)))
 else
  some (.out (.inl ()))
noncomputable def mJ (a0:List (Int×ab)) (a1:ab):Option (Bool):=
 (iter (mq a1 a0) 0).bind λq12=>
 match q12 with
 | .inl v1=>
  (iter (mo a1 a0) 0).bind λq7=>
  match q7 with
  | .inl v2=>
   (some ((a1.Kind==3)&&((((br cK a0 a1.Tree).getD (⟨0,0,[],[],0,[],ByteArray.empty,0⟩:ab)).Kind) != 2))).bind λv3=>
   some v3
  | .inr r6=>
   some r6
 | .inr r11=>
  some r11
noncomputable def mu (a0:ab) (a1:List (Int×ab)):Option (Bool×(List (Int×ab))):=
 (mJ a1 a0).bind λy1=>
 some (y1,a1)
noncomputable def cz (a0:List ab) (s2:Int×(List (Int×ab))):Option (Lp (Int×(List (Int×ab))) ((List (Int×ab)) ⊕ (Int×(List (Int×ab))))):=
 if(decide (s2.1 < ((a0).length:Int)))=true then
  (idx a0 s2.1).bind λx3=>
  (mu x3 s2.2).bind λy4=>
  if y4.1=true then
   some (.out (.inr (s2.1,y4.2)))
  else
   some (.go (IntKind.i64.wrap (s2.1+1),y4.2))
 else
  some (.out (.inl s2.2))
noncomputable def dU (a0:List ab) (b10:List (Int×ab)):Option (Int×(List (Int×ab))):=
 (iter (cz a0) (0,b10)).bind λq6=>
 match q6 with
 | .inl v1=>
  some ((-1),v1)
 | .inr r5=>
  some r5
noncomputable def db (a0:List ab) (b10:List (Int×ab)):Option (Bool×(List (Int×ab))):=
 (dU a0 b10).bind λy1=>
 some ((decide (0≤y1.1)),y1.2)
noncomputable def cZ (a0:List az) (s2:Int):Option (Lp Int (Unit ⊕ Int)):=
 if(decide (s2 < ((a0).length:Int)))=true then
  (idx a0 s2).bind λx3=>
  (pf x3).bind λy4=>
  if y4=true then
   some (.out (.inr s2))
  else
   some (.go (IntKind.i64.wrap (s2+1)))
 else
  some (.out (.inl ()))
noncomputable def dT (a0:List az):Option (Int):=
 (iter (cZ a0) 0).bind λq6=>
 match q6 with
 | .inl v1=>
  some (-1)
 | .inr r5=>
  some r5
noncomputable def da (a0:List az):Option (Bool):=
 (dT a0).bind λy1=>
 some (decide (0≤y1))
noncomputable def bG (a0:List az) (s2:Int):Option (Lp Int (Unit ⊕ Bool)):=
 if(decide (0 < s2))=true then
  (idx a0 s2).bind λx3=>
  (idx a0 (IntKind.i64.wrap (s2 - 1))).bind λx4=>
  (pe x3 x4).bind λy5=>
  if(decide (y5 < 0))=true then
   some (.out (.inr false))
  else
   some (.go (IntKind.i64.wrap (s2 - 1)))
 else
  some (.out (.inl ()))
noncomputable def cY (a0:List az):Option (Bool):=
 (iter (bG a0) (IntKind.i64.wrap (((a0).length:Int) - 1))).bind λq7=>
 match q7 with
 | .inl v1=>
  some true
 | .inr r6=>
  some r6
noncomputable def jD (s9:Int×(List (ByteArray×Bool))) (v11:(List (ByteArray×Bool))):Option (Lp (Int×(List (ByteArray×Bool))) (Unit ⊕ Int)):=
 if(decide (32 < ((v11).length:Int)))=true then
  some (.out (.inr 3))
 else
  some (.go (IntKind.i64.wrap (s9.1+1),v11))
noncomputable def lT (a0:ao) (s9:Int×(List (ByteArray×Bool))):Option (Lp (Int×(List (ByteArray×Bool))) (Unit ⊕ Int)):=
 if(decide (s9.1 < ((a0.aC).length:Int)))=true then
  (idx a0.aC s9.1).bind λwo=>
  if(wo.Kind==1)=true then
   jD s9 (eD pE s9.2 wo.Name true)
  else
   jD s9 (wG pE s9.2 wo.Name)
 else
  some (.out (.inl ()))
noncomputable def jy (a0:ao):Option (Int):=
 (some ((decide (400 < ((a0.aq).length:Int)))||(decide (300 < ((a0.aC).length:Int))))).bind λv1=>
 if v1=true then
  some 3
 else
 Option.bind (
  (dv a0.aq).bind λLA=>
  if LA=true then
   some true
  else
  (du a0.aC).bind λXU=>
  some XU) λv2=>
 if v2=true then
  some 1
 else
 (ic a0).bind λy3=>
 if(!y3.2)=true then
  some 7
 else
 Option.bind (
  (db a0.aq y3.1).bind λZ8=>
  if Z8.1=true then
   some (true,Z8.2)
  else
  (lS a0 Z8.2).bind λy15=>
  some (y15,Z8.2)) λv4=>
 if v4.1=true then
  some 6
 else
 (oT v4.2).bind λy5=>
 if y5=true then
  some 8
 else
 (da a0.aC).bind λy6=>
 if y6=true then
  some 2
 else
 (cY a0.aC).bind λy7=>
 if(!y7)=true then
  some 11
 else
 (iter (lT a0) (0,[])).bind λq13=>
 match q13 with
 | .inl v8=>
  some 0
 | .inr r12=>
  some r12
noncomputable def pd (a0:ao) (a1:Int) (s2:Int×(List (ByteArray×Int))):Option (Lp (Int×(List (ByteArray×Int))) (List (ByteArray×Int))):=
 if(decide (s2.1 < ((a0.aC).length:Int)))=true then
  (idx a0.aC s2.1).bind λx3=>
  if(decide (a1 < x3.Time))=true then
   some (.out s2.2)
  else
  if(x3.Kind==1)=true then
   some (.go (IntKind.i64.wrap (s2.1+1),(eD pE s2.2 x3.Name x3.dI)))
  else
   some (.go (IntKind.i64.wrap (s2.1+1),(wG pE s2.2 x3.Name)))
 else
  some (.out s2.2)
noncomputable def qv (a0:ao) (a1:Int):Option ((List (ByteArray×Int))):=
 (iter (pd a0 a1) (0,[])).bind λv1=>
 some v1
noncomputable def lJ (a0:aB) (a1:List (Int×ab)):Option (Bool):=
 (some (((((br cK a1 a0.ID).getD (⟨0,0,[],[],0,[],ByteArray.empty,0⟩:ab)).Kind)==2)&&(((((br cK a1 a0.ID).getD (⟨0,0,[],[],0,[],ByteArray.empty,0⟩:ab)).bd).length:Int)==0))).bind λv1=>
 some v1
noncomputable def gR (a0:Int) (a1:List (Int×Int)) (a2:Int) (a3:List (Int×ab)) (a4:Int):Option (Bool):=
 (some ((decide (a2 < ((br cK a1 a0).getD 0)))||((((br cK a3 a0).getD (⟨0,0,[],[],0,[],ByteArray.empty,0⟩:ab)).Kind) != a4))).bind λv1=>
 some v1
noncomputable def dO (a0:List Int) (b10:List (Int×Int)) (LP:Int) (LO:List (Int×ab)) (LN:Int) (s2:Int):Option (Lp Int (Unit ⊕ Int)):=
 if(decide (s2 < ((a0).length:Int)))=true then
  (idx a0 s2).bind λx3=>
  (gR x3 b10 LP LO LN).bind λy4=>
  if y4=true then
   some (.out (.inr s2))
  else
   some (.go (IntKind.i64.wrap (s2+1)))
 else
  some (.out (.inl ()))
noncomputable def cR (a0:List Int) (b10:List (Int×Int)) (LP:Int) (LO:List (Int×ab)) (LN:Int):Option (Int):=
 (iter (dO a0 b10 LP LO LN) 0).bind λq6=>
 match q6 with
 | .inl v1=>
  some (-1)
 | .inr r5=>
  some r5
noncomputable def df (b10:List (Int×Int)) (LP:Int) (LO:List (Int×ab)) (LN:Int) (s4:Int×Int×(List Int)):Option (Lp (Int×Int×(List Int)) (Int×(List Int))):=
 if(decide (s4.2.1 < ((s4.2.2).length:Int)))=true then
  (ck (0≤s4.2.1∧(Int.toNat s4.2.1) < (s4.2.2).length)).bind λ_=>
  (idx s4.2.2 s4.2.1).bind λx5=>
  (gR x5 b10 LP LO LN).bind λy6=>
  if(!y6)=true then
   (ck (0≤s4.1∧(Int.toNat s4.1) < (s4.2.2).length)).bind λ_=>
   (idx s4.2.2 s4.1).bind λx7=>
   some (.go (IntKind.i64.wrap (s4.1+1),IntKind.i64.wrap (s4.2.1+1),(s4.2.2.set (Int.toNat s4.1) x5)))
  else
   some (.go (s4.1,IntKind.i64.wrap (s4.2.1+1),s4.2.2))
 else
  some (.out (s4.1,s4.2.2))
noncomputable def cG (a0:List Int) (b10:List (Int×Int)) (LP:Int) (LO:List (Int×ab)) (LN:Int):Option ((List Int)):=
 (cR a0 b10 LP LO LN).bind λy1=>
 if(y1==(-1))=true then
  some a0
 else
 (iter (df b10 LP LO LN) (y1,IntKind.i64.wrap (y1+1),a0)).bind λv2=>
 (ck (0≤v2.1∧v2.1≤(((v2.2).length:Nat):Int)∧(((v2.2).length:Nat):Int)≤(((v2.2).length:Nat):Int))).bind λ_=>
 (some ((((v2.2).take (Int.toNat v2.1))++List.replicate ((v2.2).length - (Int.toNat v2.1)) 0):List Int)).bind λl3=>
 (ck (0≤0∧0≤v2.1∧v2.1≤(((l3).length:Nat):Int))).bind λ_=>
 some ((l3).take (Int.toNat v2.1))
noncomputable def dW (a0:List aB) (b10:List (Int×ab)) (s2:Int):Option (Lp Int (Unit ⊕ Int)):=
 if(decide (s2 < ((a0).length:Int)))=true then
  (idx a0 s2).bind λx3=>
  (lJ x3 b10).bind λy4=>
  if y4=true then
   some (.out (.inr s2))
  else
   some (.go (IntKind.i64.wrap (s2+1)))
 else
  some (.out (.inl ()))
noncomputable def cD (a0:List aB) (b10:List (Int×ab)):Option (Int):=
 (iter (dW a0 b10) 0).bind λq6=>
 match q6 with
 | .inl v1=>
  some (-1)
 | .inr r5=>
  some r5
noncomputable def dw (b10:List (Int×ab)) (s4:Int×Int×(List aB)):Option (Lp (Int×Int×(List aB)) (Int×(List aB))):=
 if(decide (s4.2.1 < ((s4.2.2).length:Int)))=true then
  (ck (0≤s4.2.1∧(Int.toNat s4.2.1) < (s4.2.2).length)).bind λ_=>
  (idx s4.2.2 s4.2.1).bind λx5=>
  (lJ x5 b10).bind λy6=>
  if(!y6)=true then
   (ck (0≤s4.1∧(Int.toNat s4.1) < (s4.2.2).length)).bind λ_=>
   (idx s4.2.2 s4.1).bind λx7=>
   some (.go (IntKind.i64.wrap (s4.1+1),IntKind.i64.wrap (s4.2.1+1),(s4.2.2.set (Int.toNat s4.1) x5)))
  else
   some (.go (s4.1,IntKind.i64.wrap (s4.2.1+1),s4.2.2))
 else
  some (.out (s4.1,s4.2.2))
noncomputable def dC (a0:List aB) (b10:List (Int×ab)):Option ((List aB)):=
 (cD a0 b10).bind λy1=>
 if(y1==(-1))=true then
  some a0
 else
 (iter (dw b10) (y1,IntKind.i64.wrap (y1+1),a0)).bind λv2=>
 (ck (0≤v2.1∧v2.1≤(((v2.2).length:Nat):Int)∧(((v2.2).length:Nat):Int)≤(((v2.2).length:Nat):Int))).bind λ_=>
 (some ((((v2.2).take (Int.toNat v2.1))++List.replicate ((v2.2).length - (Int.toNat v2.1)) (⟨ByteArray.empty,0⟩:aB)):List aB)).bind λl3=>
 (ck (0≤0∧0≤v2.1∧v2.1≤(((l3).length:Nat):Int))).bind λ_=>
 some ((l3).take (Int.toNat v2.1))
end Go.Vl
namespace Go.Vl
open Go Go.Proofs
theorem cH {a0:bQ} {a1:Int} {r:Int×bQ} (h0:cJ a0 a1=some r):dY Tryz.prog 8 [iS a0] [.ptr (sq 0) 0,.d (.int .i64 a1)] (.d (.int .i64 r.1)) [iS r.2]:=by
 unfold cJ at h0;refine dS (nt:=37) (rs:=[.tmp 4]) Tryz.func8 rfl Tryz.ntmps8 rfl (by simp) (by decide) rfl λK=>?_
 refine kR [0,1] ?_;refine aF ?_;refine kd [[],[0],[1],[2],[],[4],[5],[6],[7],[3,8]] [] [] none [] 10 sZ (by decide +kernel) (by simp) ?_;refine bj 0 2 rfl (by simp (maxSteps:=1000000);rfl) ?_;refine bj 2 2 rfl (by simp (maxSteps:=1000000);rfl) ?_;refine bj 4 2 rfl (by simp (maxSteps:=1000000);rfl) ?_;refine bj 6 2 rfl (by simp (maxSteps:=1000000);rfl) ?_;refine bj 8 2 rfl (by simp (maxSteps:=1000000);rfl) ?_;refine fu rfl (ar ?_);refine cF (b:=(decide (((a0.L).length:Int)≤a0.at_))) (by simp) (λc1=>?_) (λc1=>?_)
 ·rw[ai c1] at h0
  refine kR [4] ?_;cases h0;exact fM
 ·rw[ah (by rw[c1];decide)] at h0
  refine aN ?_;refine kd [[],[0],[1],[2],[],[4],[5],[6],[3,7],[8],[9],[10]] [] [] none [] 12 sZ (by decide +kernel) (by simp) ?_;obtain⟨x1,p3,h0⟩:=bI h0;replace p3:=bD p3;have og:=p3;try simp at og
  refine bj 0 2 rfl (by simp (maxSteps:=1000000) [p3,og];rfl) ?_;refine bj 2 2 rfl (by simp (maxSteps:=1000000) [p3,og];rfl) ?_;refine bj 4 2 rfl (by simp (maxSteps:=1000000) [p3,og];rfl) ?_;refine bj 6 2 rfl (by simp (maxSteps:=1000000) [p3,og];rfl) ?_;refine bj 8 2 rfl (by simp (maxSteps:=1000000) [p3,og];rfl) ?_;refine bj 10 2 rfl (by simp (maxSteps:=1000000) [p3,og];rfl) ?_;refine fu rfl (ar ?_);refine kR [1,5] ?_;obtain⟨_,p4,h0⟩:=bI h0;replace p4:=bT p4;have Yn:=p4;try simp at Yn
  refine kr [4] (by simp[p4,Yn];rfl) ?_;cases h0;exact fM
theorem nO {a0:bQ} {a1:Int} {a2:Int} {r:Int×bQ} (h0:ik a0 a1 a2=some r):dY Tryz.prog 22 [iS a0] [.ptr (sq 0) 0,.d (.int .i64 a1),.d (.int .i64 a2)] (.d (.int .i64 r.1)) [iS r.2]:=by
 unfold ik at h0;refine dS (nt:=15) (rs:=[.tmp 6]) Tryz.func22 rfl Tryz.ntmps22 rfl (by simp) (by decide) rfl λK=>?_
 refine kR [0,1,2] ?_;refine kc ?_;refine kO [7,8,12] 6 ?_;obtain⟨y1,oC,h0⟩:=bI h0;refine jg [7,13] [1000000] (cH oC) rfl rfl rfl Tryz.call8 (by simp) (by simp;rfl) ?_;refine kO [6] 2 ?_;refine ar ?_;cases h0;exact fM
theorem Gi {a0:bQ} {a1:Int} {r:(List Int)×bQ} (h0:tQ a0 a1=some r):dY Tryz.prog 23 [iS a0] [.ptr (sq 0) 0,.d (.int .i64 a1)] (.d (.slice (ak (aH .u8) r.1))) [iS r.2]:=by
 unfold tQ at h0;refine dS (nt:=47) (rs:=[.tmp 4]) Tryz.func23 rfl Tryz.ntmps23 rfl (by simp) (by decide) rfl λK=>?_
 refine kR [0,1] ?_;refine kR [0,1,5] ?_;refine aF ?_;refine kR [0,1,5,6] ?_;refine dp (pX 5 27 5 1 (by simp) (by simp)) ?_;obtain⟨e1,jR,h0⟩:=bI h0;refine oa (λv1:(List Int)×Int×(List Int)=>(⟨47,[(5,.vec 27)],[(1000000,[.d (.slice (ak (aH .i64) v1.1)),.d (.int .i64 v1.2.1)])],[(27,⟨5,1,ak (aH .u8) v1.2.2⟩)]⟩:St)) (λv1=>v1=e1) (λv1 eP _ W1=>?_) ?_
 ·subst eP
  refine dp W1 ?_;refine kR [4] ?_;cases h0;exact fo ⟨[27],by simp,rfl,by simp⟩
 ·refine aO (cA (λs2:Int×(List Int)×Int×(List Int)=>(⟨47,[(0,.ptr 1000000 0),(1,.d (.int .i64 a1)),(5,.vec 27),(6,.d (.int .i64 s2.1))],[(1000000,[.d (.slice (ak (aH .i64) s2.2.1)),.d (.int .i64 s2.2.2.1)])],[(27,⟨5,1,ak (aH .u8) s2.2.2.2⟩)]⟩:St)) jR cq λG1 s2 o1 h1 gY iq=>?_)
  unfold oQ at h1;refine aF ?_;refine kR [0,1,5,6,9] ?_;refine gJ ((decide (s2.1 < a1))) (λAo=>?_) (λAo=>?_)
  ·rw[ai Ao] at h1
   refine aN ?_;refine aF ?_;refine aO ?_;refine kc ?_;refine kO [0,1,5,6,12] 1 ?_;obtain⟨y3,Ce,h1⟩:=bI h1;refine jg [0,1,5,6,13] [1000000] (cH Ce) rfl rfl rfl Tryz.call8 (by simp) (by simp;rfl) ?_;refine ar ?_;refine aO ?_;refine kR [0,1,5,6,13,20] ?_;refine gJ ((y3.1==0)) (λCv=>?_) (λCv=>?_)
   ·rw[ai Cv] at h1
    refine qH ?_;refine kO [0,1,6,22,23] 2 ?_;obtain⟨y4,zh,h1⟩:=bI h1;refine jg [0,1,6,22,24] [1000000] (cH zh) rfl rfl rfl Tryz.call8 (by simp) (by simp;rfl) ?_;obtain⟨x5,Gd,h1⟩:=bI h1;have ae6:mm Tryz.prog 9 (.d (.str (⟨#[32,10,61,37,43,47,45,46]⟩:ByteArray))) y4.1=some (.d (.int .u8 x5)):=vM Tryz.underlying9 Gd;obtain⟨_,p23,h1⟩:=bI h1;replace p23:=bT p23;have abk:=p23;try simp at abk
    refine ko [0,1,5,6] 4 (by simp[ae6, -mm,p23,abk];rfl) ?_;refine ar ?_;refine lr (by simp;rfl) ?_;exact⟨_,gY _ (af h1),cq⟩
   ·rw[ah (by rw[Cv];decide)] at h1
    refine kR [0,1,5,6,13,28] ?_;refine gJ ((y3.1==1)) (λFG=>?_) (λFG=>?_)
    ·rw[ai FG] at h1
     refine qH ?_;refine kO [0,1,6,30,31] 2 ?_;obtain⟨y6,Gm,h1⟩:=bI h1;refine jg [0,1,6,30,32] [1000000] (cH Gm) rfl rfl rfl Tryz.call8 (by simp) (by simp;rfl) ?_;obtain⟨_,p24,h1⟩:=bI h1;replace p24:=bT p24;have abj:=p24;try simp at abj
     refine ko [0,1,5,6] 4 (by simp[p24,abj];rfl) ?_;refine ar ?_;refine lr (by simp;rfl) ?_;exact⟨_,gY _ (af h1),Wk.trans (sx 35 27) cq⟩
    ·rw[ah (by rw[FG];decide)] at h1
     refine qF (λv7:Bool=>(⟨47,[(0,.ptr 1000000 0),(1,.d (.int .i64 a1)),(5,.vec 27),(6,.d (.int .i64 s2.1)),(36,.d (.bool v7))],[(1000000,[.d (.slice (ak (aH .i64) y3.2.L)),.d (.int .i64 y3.2.at_)])],[(27,⟨5,1,ak (aH .u8) s2.2.2.2⟩)]⟩:St)) (λv7=>mO y3 s2 v7=some o1) (λv7 h1=>?_) ?_
     ·unfold mO at h1
      refine gJ (v7) (λFF=>?_) (λFF=>?_)
      ·rw[ai FF] at h1
       refine qH ?_;refine kO [0,1,6,39,40] 2 ?_;obtain⟨y8,YL,h1⟩:=bI h1;refine jg [0,1,6,39,41] [1000000] (cH YL) rfl rfl rfl Tryz.call8 (by simp) (by simp;rfl) ?_;obtain⟨_,p25,h1⟩:=bI h1;replace p25:=bT p25;have abi:=p25;try simp at abi
       refine ko [0,1,5,6] 5 (by simp[p25,abi];rfl) ?_;refine ar ?_;refine lr (by simp;rfl) ?_;exact⟨_,gY _ (af h1),Wk.trans (sx 45 27) cq⟩
      ·rw[ah (by rw[FF];decide)] at h1
       refine qH ?_;refine kO [0,1,6,14,15] 2 ?_;obtain⟨y9,SC,h1⟩:=bI h1;refine jg [0,1,6,14,16] [1000000] (cH SC) rfl rfl rfl Tryz.call8 (by simp) (by simp;rfl) ?_;obtain⟨wo,p26,h1⟩:=bI h1;have ae4:mm Tryz.prog 9 (.d (.str (⟨#[97,98,99,100,101,102,116,107]⟩:ByteArray))) y9.1=some (.d (.int .u8 wo)):=vM Tryz.underlying9 p26;obtain⟨_,p28,h1⟩:=bI h1;replace p28:=bT p28;have abh:=p28;try simp at abh
       refine ko [0,1,5,6] 4 (by simp[ae4, -mm,p28,abh];rfl) ?_;refine ar ?_;refine lr (by simp;rfl) ?_;exact⟨_,gY _ (af h1),Wk.trans (sx 19 27) cq⟩
     ·refine kR [0,1,5,6,13,36] ?_
      refine gJ ((y3.1==2)) (λZQ=>?_) (λZQ=>?_)
      ·rw[ai ZQ] at h1
       refine aN ?_;exact⟨_,h1,cq⟩
      ·rw[ah (by rw[ZQ];decide)] at h1
       refine lr (by simp;rfl) ?_;exact⟨_,h1,cq⟩
  ·rw[ah (by rw[Ao];decide)] at h1
   refine bZ ?_;exact⟨_,iq _ (af h1),cq⟩
theorem EU {a0:bQ} {a1:List Int} {r:(List az)×bQ} (h0:rS a0 a1=some r):dY Tryz.prog 24 [iS a0] [.ptr (sq 0) 0,.d (.slice (ak (aH .i64) a1))] (.d (.slice (ak aT r.1))) [iS r.2]:=by
 unfold rS at h0;refine dS (nt:=60) (rs:=[.tmp 4]) Tryz.func24 rfl Tryz.ntmps24 rfl (by simp) (by decide) rfl λK=>?_
 refine kR [0,1] ?_;refine kR [0,1,5] ?_;refine kR [0,1,5,6] ?_;refine kc ?_;refine kO [0,1,5,6,11] 1 ?_;obtain⟨y1,oC,h0⟩:=bI h0;refine jg [0,1,5,6,12] [1000000] (cH oC) rfl rfl rfl Tryz.call8 (by simp) (by simp;rfl) ?_;refine kO [0,1,5,6,7] 1 ?_;refine ar ?_;refine aF ?_;refine kc ?_;refine kO [0,1,5,6,7,13] 1 ?_;obtain⟨y2,DM,h0⟩:=bI h0;refine jg [0,1,5,6,7,14] [1000000] (cH DM) rfl rfl rfl Tryz.call8 (by simp) (by simp;rfl) ?_;refine kO [0,1,5,6,7,8] 1 ?_;refine ar ?_;refine dp (pX 5 43 89 4 (by simp) (by simp)) ?_;obtain⟨e1,jR,h0⟩:=bI h0;refine oa (λv3:(List Int)×Int×(List az)=>(⟨60,[(5,.vec 43)],[(1000000,[.d (.slice (ak (aH .i64) v3.1)),.d (.int .i64 v3.2.1)])],[(43,⟨89,4,ak aT v3.2.2⟩)]⟩:St)) (λv3=>v3=e1) (λv3 eP _ W1=>?_) ?_
 ·subst eP
  refine dp W1 ?_;refine kR [4] ?_;cases h0;exact fo ⟨[43],by simp,rfl,by simp⟩
 ·refine aO (cA (λs4:Int×Int×(List Int)×Int×(List (ByteArray×Bool))×(List az)=>(⟨60,[(0,.ptr 1000000 0),(1,.d (.slice (ak (aH .i64) a1))),(5,.vec 43),(6,.vec 10),(7,.d (.int .i64 s4.1)),(8,.d (.int .i64 s4.2.1))],[(1000000,[.d (.slice (ak (aH .i64) s4.2.2.1)),.d (.int .i64 s4.2.2.2.1)])],[(10,⟨bL 87 1 false false,2,ak (bB mW gm) s4.2.2.2.2.1⟩),(43,⟨89,4,ak aT s4.2.2.2.2.2⟩)]⟩:St)) jR cq λG1 s4 o1 h1 gY iq=>?_)
  unfold nP at h1;refine aF ?_;refine kR [0,1,5,6,7,8,16] ?_;refine gJ ((decide (0 < s4.2.1))) (λFI=>?_) (λFI=>?_)
  ·rw[ai FI] at h1
   refine aN ?_;refine aF ?_;refine aO ?_;refine kc ?_;refine kO [0,1,5,6,8,19,20] 2 ?_;obtain⟨y5,IB,h1⟩:=bI h1;refine jg [0,1,5,6,8,19,21] [1000000] (cH IB) rfl rfl rfl Tryz.call8 (by simp) (by simp;rfl) ?_;refine kO [0,1,5,6,7,8] 2 ?_;refine ar ?_;refine kc ?_;refine kO [0,1,5,6,7,8,23,24] 2 ?_;obtain⟨y6,Gm,h1⟩:=bI h1;refine jg [0,1,5,6,7,8,23,25] [1000000] (cH Gm) rfl rfl rfl Tryz.call8 (by simp) (by simp;rfl) ?_;obtain⟨_,Dq,h1⟩:=bI h1;replace Dq:=bT Dq;have xY:=Dq;try simp at xY
   have aeO:y6.1 < ((([(⟨#[109,97,105,110]⟩:ByteArray),(⟨#[111,108,100]⟩:ByteArray),(⟨#[120]⟩:ByteArray)])).length:Int):=by omega
   obtain⟨x7,qY,h1⟩:=bI h1;replace qY:=bD qY;have oD:=qY;try simp at oD
   have abm:(ak mW [(⟨#[109,97,105,110]⟩:ByteArray),(⟨#[111,108,100]⟩:ByteArray),(⟨#[120]⟩:ByteArray)])[(Int.toNat y6.1)]? =some (mW x7):=by(first |(rw [BS,qY.2];rfl) |(have q:=qY.2;simp at q;subst q;rfl))
   try simp[-getElem?_pos] at abm
   refine ko [0,1,5,6,7,8,9] 3 (by simp[-getElem?_pos,aS,aV,Dq,aeO,qY,abm,xY,oD];rfl) ?_;refine ar ?_;refine aF ?_;obtain⟨v8,PE,h1⟩:=bI h1;refine qF (λZ':Bool×(List Int)×Int=>(⟨60,[(0,.ptr 1000000 0),(1,.d (.slice (ak (aH .i64) a1))),(5,.vec 43),(6,.vec 10),(7,.d (.int .i64 (IntKind.i64.wrap (s4.1+y5.1)))),(8,.d (.int .i64 s4.2.1)),(9,.d (.str x7)),(35,.d (.bool Z'.1))],[(1000000,[.d (.slice (ak (aH .i64) Z'.2.1)),.d (.int .i64 Z'.2.2)])],[(10,⟨bL 87 1 false false,2,ak (bB mW gm) s4.2.2.2.2.1⟩),(43,⟨89,4,ak aT s4.2.2.2.2.2⟩)]⟩:St)) (λZ'=>v8=Z') (λZ' e=>?_) ?_
   ·subst e
    refine gJ (v8.1) (λAp=>?_) (λAp=>?_)
    ·rw[ai Ap] at h1
     refine kR [0,1,5,6,7,8,9] ?_;obtain⟨_,Vn,h1⟩:=bI h1;replace Vn:=bT Vn;have RP:=Vn;try simp at RP
     refine kr [0,1,5,6,7,8] (by simp[Vn,RP];rfl) ?_;refine bZ ?_;refine lr (by simp;rfl) ?_;exact⟨_,gY _ (af h1),cq⟩
    ·rw[ah (by rw[Ap];decide)] at h1
     refine aN ?_;refine kR [0,1,5,6,7,8,9] ?_;refine qH ?_;refine kO [0,1,6,7,8,46,47,48,49,51] 6 ?_;obtain⟨y9,SC,h1⟩:=bI h1;refine jg [0,1,6,7,8,46,47,48,52] [1000000] (cH SC) rfl rfl rfl Tryz.call8 (by simp) (by simp;rfl) ?_;obtain⟨wo,p20,h1⟩:=bI h1;replace p20:=bD p20;have abl:=p20;try simp at abl
     obtain⟨_,Gd,h1⟩:=bI h1;replace Gd:=bT Gd;have BZ:=Gd;try simp at BZ
     refine ko [0,1,5,6,7,8] 7 (by simp[p20,Gd,abl,BZ];rfl) ?_;refine ar ?_;refine lr (by simp;rfl) ?_;exact⟨_,gY _ (af h1),Wk.trans (sx 58 43) cq⟩
   ·refine qH ?_
    refine kO [0,1,5,6,7,8,9,31] 4 ?_;refine bh 31 ((br pE s4.2.2.2.2.1 x7).getD false) (by simp) (λFH=>?_) (λFH=>?_)
    ·rw[ai FH] at PE
     refine kO [0,1,5,6,7,8,9,31,32] 1 ?_;obtain⟨Az,SF,PE⟩:=bI PE;refine jg [0,1,5,6,7,8,9,31,32,33] [1000000] (cH SF) rfl rfl rfl Tryz.call8 (by simp) (by simp;rfl) ?_;refine kO [0,1,5,6,7,8,9,32,33,34,35] 2 ?_;refine ar ?_;cases PE;exact⟨_,rfl,cq⟩
    ·rw[ah (by rw[FH];decide)] at PE
     refine cU 3 [] (by kernel_rfl) ?_;refine kO [0,1,5,6,7,8,9,35] 1 ?_;refine ar ?_;cases PE;exact⟨_,rfl,cq⟩
  ·rw[ah (by rw[FI];decide)] at h1
   refine bZ ?_;exact⟨_,iq _ (af h1),cq⟩
theorem jM {a0:ab} {a1:Int} {a2:ao} {r:Int×Int×ao} (h0:fq a0 a1 a2=some r):nV Tryz.prog 21 [[.d (.int .i64 a1)],[.vec (wa 0),.d (.slice (ak aT a2.aC))]] [⟨49,8,ak au a2.aq⟩] [.agg (bc a0),.ptr (sq 0) 0,.ptr (sq 1) 0] (.d (.int .i64 r.1)) [[.d (.int .i64 r.2.1)],[.vec (wa 0),.d (.slice (ak aT r.2.2.aC))]] [⟨49,8,ak au r.2.2.aq⟩]:=by
 unfold fq at h0;refine yr (nt:=16) (rs:=[.tmp 4]) Tryz.func21 rfl Tryz.ntmps21 rfl (by simp) (by decide) rfl λK=>?_
 refine kR [1,2,3] ?_;refine kR [1,2,3] ?_;refine kR [1,2,3] ?_;obtain⟨_,p2,h0⟩:=bI h0;replace p2:=bT p2;have WW:=p2;try simp at WW
 refine kr [1] (by simp[p2,WW];rfl) ?_;refine kR [4] ?_;cases h0;exact fo ⟨[],[13],by simp,by simp,by simp,by simp,by simp⟩
theorem zS {a0:bQ} {r:ao×bQ} (h0:mI a0=some r):dY Tryz.prog 6 [iS a0] [.ptr (sq 0) 0] (.agg (ay r.1)) [iS r.2]:=by
 unfold mI at h0;refine dS (nt:=143) (rs:=[.cell 2 26]) Tryz.func6 rfl Tryz.ntmps6 rfl (by simp) (by decide) rfl λK=>?_
 refine kR [0,2] ?_;refine kR [0,2,3] ?_;refine kR [0,2,3,4,5,6] ?_;refine kR [0,2,3,4,5,6,7] ?_;refine kR [0,2,3,4,5,6,8] ?_;refine aF ?_;refine kc ?_;refine kO [0,2,3,4,5,6,8,18] 1 ?_;obtain⟨y1,oC,h0⟩:=bI h0;refine jg [0,2,3,4,5,6,8,19] [1000000] (nO oC) rfl rfl rfl Tryz.call22 (by simp) (by simp;rfl) ?_;refine kO [0,2,3,4,5,6,8,9] 1 ?_;refine ar ?_;refine dp (pX 4 33 3 1 (by simp) (by simp)) ?_;refine dp (yH 3 0 400120 49 8 (by simp;rfl) (by simp) (by simp)) ?_;obtain⟨e1,jR,h0⟩:=bI h0;refine oa (λv2:(List Int)×Int×(List az)×Int×(List Int)×(List ab)=>(⟨143,[(0,.ptr 1000000 0),(2,.ptr 2 0),(3,.ptr 3 0),(4,.vec 33),(5,.dK),(6,.dK),(8,.fn 21 [.ptr 7 0,.ptr 3 0])],[(2,[.dK,.dK]),(3,[.vec 400120,.d (.slice (ak aT v2.2.2.1))]),(7,[.d (.int .i64 v2.2.2.2.1)]),(1000000,[.d (.slice (ak (aH .i64) v2.1)),.d (.int .i64 v2.2.1)])],[(33,⟨3,1,ak (aH .i64) v2.2.2.2.2.1⟩),(400120,⟨49,8,ak au v2.2.2.2.2.2⟩)]⟩:St)) (λv2=>v2=e1) (λv2 eP _ W1=>?_) ?_
 ·subst eP
  refine dp W1 ?_;refine aF ?_;refine kc ?_;refine kO [0,2,3,4,5,6,8,34] 1 ?_;obtain⟨y3,Ce,h0⟩:=bI h0;refine jg [0,2,3,4,5,6,8,35] [1000000] (nO Ce) rfl rfl rfl Tryz.call22 (by simp) (by simp;rfl) ?_;refine kO [0,2,3,4,5,6,8,10] 1 ?_;refine ar ?_;refine dp (pX 5 90 3 1 (by simp) (by simp)) ?_;obtain⟨e2,Gt,h0⟩:=bI h0;refine oa (λv4:(List Int)×Int×(List az)×Int×(List ab)×(List Int)=>(⟨143,[(0,.ptr 1000000 0),(2,.ptr 2 0),(3,.ptr 3 0),(5,.vec 90),(6,.dK),(8,.fn 21 [.ptr 7 0,.ptr 3 0])],[(2,[.dK,.dK]),(3,[.vec 400120,.d (.slice (ak aT v4.2.2.1))]),(7,[.d (.int .i64 v4.2.2.2.1)]),(1000000,[.d (.slice (ak (aH .i64) v4.1)),.d (.int .i64 v4.2.1)])],[(90,⟨3,1,ak (aH .i64) v4.2.2.2.2.2⟩),(400120,⟨49,8,ak au v4.2.2.2.2.1⟩)]⟩:St)) (λv4=>v4=e2) (λv4 vo _ W2=>?_) ?_
  ·subst vo
   refine dp W2 ?_;refine aF ?_;refine kc ?_;refine kO [0,2,3,5,6,8,91] 1 ?_;obtain⟨y5,IB,h0⟩:=bI h0;refine jg [0,2,3,5,6,8,92] [1000000] (nO IB) rfl rfl rfl Tryz.call22 (by simp) (by simp;rfl) ?_;refine kO [0,2,3,5,6,8,14] 1 ?_;refine ar ?_;refine dp (pX 6 137 3 1 (by simp) (by simp)) ?_;obtain⟨e3,Zr,h0⟩:=bI h0;refine oa (λv6:(List Int)×Int×(List az)×(List ab)×(List Int)=>(⟨143,[(0,.ptr 1000000 0),(2,.ptr 2 0),(3,.ptr 3 0),(6,.vec 137)],[(2,[.dK,.dK]),(3,[.vec 400120,.d (.slice (ak aT v6.2.2.1))]),(1000000,[.d (.slice (ak (aH .i64) v6.1)),.d (.int .i64 v6.2.1)])],[(137,⟨3,1,ak (aH .i64) v6.2.2.2.2⟩),(400120,⟨49,8,ak au v6.2.2.2.1⟩)]⟩:St)) (λv6=>v6=e3) (λv6 MU _ W3=>?_) ?_
   ·subst MU
    refine dp W3 ?_;refine kc ?_;refine kO [2,3,138,139] 2 ?_;refine lA (BJ 137) ?_;obtain⟨y7,MJ,h0⟩:=bI h0;refine jg [2,3,140] [1000000] (EU MJ) rfl rfl rfl Tryz.call24 (by simp) (by simp;rfl) ?_;refine kO [2,3] 2 ?_;refine ar ?_;refine kR [2] ?_;cases h0;exact fo ⟨[400120],by simp,rfl,by simp⟩
   ·refine aO (cA (λs8:Int×(List Int)×Int×(List az)×Int×(List ab)×(List Int)=>(⟨143,[(0,.ptr 1000000 0),(2,.ptr 2 0),(3,.ptr 3 0),(5,.vec 90),(6,.vec 137),(8,.fn 21 [.ptr 7 0,.ptr 3 0]),(14,.d (.int .i64 s8.1))],[(2,[.dK,.dK]),(3,[.vec 400120,.d (.slice (ak aT s8.2.2.2.1))]),(7,[.d (.int .i64 s8.2.2.2.2.1)]),(1000000,[.d (.slice (ak (aH .i64) s8.2.1)),.d (.int .i64 s8.2.2.1)])],[(90,⟨3,1,ak (aH .i64) v4.2.2.2.2.2⟩),(137,⟨3,1,ak (aH .i64) s8.2.2.2.2.2.2⟩),(400120,⟨49,8,ak au s8.2.2.2.2.2.1⟩)]⟩:St)) Zr cq λG3 s8 o3 h3 MO Uw=>?_)
    unfold jJ at h3;refine aF ?_;refine kR [0,2,3,5,6,8,14,94] ?_;refine gJ ((decide (0 < s8.1))) (λZJ=>?_) (λZJ=>?_)
    ·rw[ai ZJ] at h3
     refine aN ?_;refine aF ?_;refine aO ?_;refine kd [[],[],[],[2],[1,3],[0,3,4],[3,5],[],[3,4,7],[3,6,8],[],[3,9,10]] [4,8,10,11] [(15,[10,11]),(1000000,[4,8])] none [] 12 sZ (by decide +kernel) (by simp) ?_;refine bj 0 2 rfl (by simp (maxSteps:=1000000);rfl) ?_;refine bj 2 2 rfl (by simp (maxSteps:=1000000);rfl) ?_;obtain⟨y9,SC,h3⟩:=bI h3;refine iu 4 [1000000] (cH SC) rfl rfl rfl rfl rfl Tryz.call8 (by simp) ?_;obtain⟨_,RN,h3⟩:=bI h3;replace RN:=bT RN;have RM:=RN;try simp at RM
     have WV:y9.1 < (((v4.2.2.2.2.2)).length:Int):=by omega
     obtain⟨wo,RL,h3⟩:=bI h3;replace RL:=bD RL;have RK:=RL;try simp at RK
     refine bj 5 2 rfl (by simp (maxSteps:=1000000) [-getElem?_pos,aS,aV,RN,WV,RL,RM,RK];rfl) ?_;refine bj 7 1 rfl (by simp (maxSteps:=1000000) [-getElem?_pos,aS,aV,RN,WV,RL,RM,RK];rfl) ?_;obtain⟨Az,SF,h3⟩:=bI h3;refine iu 8 [1000000] (cH SF) rfl rfl rfl rfl rfl Tryz.call8 (by simp) ?_;refine bj 9 2 rfl (by simp (maxSteps:=1000000);rfl) ?_;refine bj 11 1 rfl (by simp (maxSteps:=1000000);rfl) ?_;refine fu rfl (ar ?_);refine aF ?_;refine kR [0,2,3,5,6,8,14,15,16] ?_;refine dp (yH 15 5 130 3 1 (by simp;rfl) (by simp) (by simp)) ?_;obtain⟨e4,hI4,h3⟩:=bI h3;refine oa (λv12:(List Int)×Int×(List Int)=>(⟨143,[(0,.ptr 1000000 0),(2,.ptr 2 0),(3,.ptr 3 0),(5,.vec 90),(6,.vec 137),(8,.fn 21 [.ptr 7 0,.ptr 3 0]),(14,.d (.int .i64 s8.1)),(15,.ptr 15 0)],[(2,[.dK,.dK]),(3,[.vec 400120,.d (.slice (ak aT s8.2.2.2.1))]),(7,[.d (.int .i64 s8.2.2.2.2.1)]),(15,[.d (.int .i64 0),.d (.int .i64 3),.dK,.dK,.d (.int .i64 wo),.vec 130,.d (.str (⟨#[97,110,110]⟩:ByteArray)),.d (.int .i64 Az.1)]),(1000000,[.d (.slice (ak (aH .i64) v12.1)),.d (.int .i64 v12.2.1)])],[(90,⟨3,1,ak (aH .i64) v4.2.2.2.2.2⟩),(130,⟨3,1,ak (aH .i64) v12.2.2⟩),(137,⟨3,1,ak (aH .i64) s8.2.2.2.2.2.2⟩),(400120,⟨49,8,ak au s8.2.2.2.2.2.1⟩)]⟩:St)) (λv12=>v12=e4) (λv12 Zq _ W4=>?_) ?_
     ·subst Zq
      refine dp W4 ?_;refine qH ?_;refine kO [0,2,3,5,8,14,132,133,134] 3 ?_;refine lA (BJ 130) ?_;obtain⟨Z9,afm,h3⟩:=bI h3;refine jQ [0,2,3,5,8,14,132,135] [7,3] [400120] [400120] (jM afm) rfl rfl rfl Tryz.call21 (by simp) (by simp;rfl) ?_;obtain⟨_,Vk,h3⟩:=bI h3;replace Vk:=bT Vk;have WU:=Vk;try simp at WU
      refine ko [0,2,3,5,6,8,14] 3 (by simp[Vk,WU];rfl) ?_;refine ar ?_;refine lr (by simp;rfl) ?_;exact⟨_,MO _ (af h3),cq⟩
     ·refine aO (cA (λwD:Int×(List Int)×Int×(List Int)=>(⟨143,[(0,.ptr 1000000 0),(2,.ptr 2 0),(3,.ptr 3 0),(5,.vec 90),(6,.vec 137),(8,.fn 21 [.ptr 7 0,.ptr 3 0]),(14,.d (.int .i64 s8.1)),(15,.ptr 15 0),(16,.d (.int .i64 wD.1))],[(2,[.dK,.dK]),(3,[.vec 400120,.d (.slice (ak aT s8.2.2.2.1))]),(7,[.d (.int .i64 s8.2.2.2.2.1)]),(15,[.d (.int .i64 0),.d (.int .i64 3),.dK,.dK,.d (.int .i64 wo),.vec 130,.d (.str (⟨#[97,110,110]⟩:ByteArray)),.d (.int .i64 Az.1)]),(1000000,[.d (.slice (ak (aH .i64) wD.2.1)),.d (.int .i64 wD.2.2.1)])],[(90,⟨3,1,ak (aH .i64) v4.2.2.2.2.2⟩),(130,⟨3,1,ak (aH .i64) wD.2.2.2⟩),(137,⟨3,1,ak (aH .i64) s8.2.2.2.2.2.2⟩),(400120,⟨49,8,ak au s8.2.2.2.2.2.1⟩)]⟩:St)) hI4 cq λG4 wD o4 h4 Og MR=>?_)
      unfold jI at h4;refine aF ?_;obtain⟨v15,N7,h4⟩:=bI h4;refine qF (λUQ:Bool=>(⟨143,[(0,.ptr 1000000 0),(2,.ptr 2 0),(3,.ptr 3 0),(5,.vec 90),(6,.vec 137),(8,.fn 21 [.ptr 7 0,.ptr 3 0]),(14,.d (.int .i64 s8.1)),(15,.ptr 15 0),(16,.d (.int .i64 wD.1)),(117,.d (.bool UQ))],[(2,[.dK,.dK]),(3,[.vec 400120,.d (.slice (ak aT s8.2.2.2.1))]),(7,[.d (.int .i64 s8.2.2.2.2.1)]),(15,[.d (.int .i64 0),.d (.int .i64 3),.dK,.dK,.d (.int .i64 wo),.vec 130,.d (.str (⟨#[97,110,110]⟩:ByteArray)),.d (.int .i64 Az.1)]),(1000000,[.d (.slice (ak (aH .i64) wD.2.1)),.d (.int .i64 wD.2.2.1)])],[(90,⟨3,1,ak (aH .i64) v4.2.2.2.2.2⟩),(130,⟨3,1,ak (aH .i64) wD.2.2.2⟩),(137,⟨3,1,ak (aH .i64) s8.2.2.2.2.2.2⟩),(400120,⟨49,8,ak au s8.2.2.2.2.2.1⟩)]⟩:St)) (λUQ=>v15=UQ) (λUQ e=>?_) ?_
      ·subst e
       refine gJ (v15) (λc85=>?_) (λc85=>?_)
       ·rw[ai c85] at h4
        refine aN ?_;refine aF ?_;refine aO ?_;refine kc ?_;refine kO [0,2,3,5,6,8,14,15,16,120] 1 ?_;obtain⟨LA,SE,h4⟩:=bI h4;refine jg [0,2,3,5,6,8,14,15,16,121] [1000000] (cH SE) rfl rfl rfl Tryz.call8 (by simp) (by simp;rfl) ?_;refine kO [0,2,3,5,6,8,14,15,16,122] 1 ?_;refine ar ?_;refine gJ ((LA.1==0)) (λc86=>?_) (λc86=>?_)
        ·rw[ai c86] at h4
         refine dp (sx 130 700130) ?_;refine Sx [[],[0],[],[],[2,3],[4],[5],[1,6],[7],[1,7,8]] [7,9] [(15,[7,9])] (some (7,700130)) [124] 10 sZ (by decide +kernel) (by simp) ?_;obtain⟨_,J6,h4⟩:=bI h4;replace J6:=bT J6;have Hc:=J6;try simp at Hc
         have J5:wD.1 < (((s8.2.2.2.2.2.2)).length:Int):=by omega
         obtain⟨x17,J4,h4⟩:=bI h4;replace J4:=bD J4;have Hb:=J4;try simp at Hb
         obtain⟨_,J3,h4⟩:=bI h4;replace J3:=bT J3;have Ha:=J3;try simp at Ha
         refine bj 0 2 rfl (by simp (maxSteps:=1000000) [-getElem?_pos,aS,aV,J6,J5,J4,J3,Hc,Hb,Ha];rfl) ?_;refine bj 2 2 rfl (by simp (maxSteps:=1000000) [-getElem?_pos,aS,aV,J6,J5,J4,J3,Hc,Hb,Ha];rfl) ?_;refine bj 4 2 rfl (by simp (maxSteps:=1000000) [-getElem?_pos,aS,aV,J6,J5,J4,J3,Hc,Hb,Ha];rfl) ?_;refine bj 6 2 rfl (by simp (maxSteps:=1000000) [-getElem?_pos,aS,aV,J6,J5,J4,J3,Hc,Hb,Ha];rfl) ?_;refine bj 8 2 rfl (by simp (maxSteps:=1000000) [-getElem?_pos,aS,aV,J6,J5,J4,J3,Hc,Hb,Ha];rfl) ?_;refine fu rfl (ar ?_);refine lr (by simp;rfl) ?_;exact⟨_,Og _ (af h4),cq⟩
        ·rw[ah (by rw[c86];decide)] at h4
         refine aN ?_;refine lr (by simp;rfl) ?_;exact⟨_,Og _ (af h4),cq⟩
       ·rw[ah (by rw[c85];decide)] at h4
        refine bZ ?_;exact⟨_,MR _ (af h4),cq⟩
      ·refine qH ?_
       refine kO [0,2,3,5,6,8,14,15,16,112] 3 ?_;refine bh 112 (decide (0≤wD.1)) (by simp) (λc87=>?_) (λc87=>?_)
       ·rw[c87] at N7
        refine kO [0,2,3,5,6,8,14,15,16,113,114,115,116,117] 5 ?_;refine ar ?_;cases N7;exact⟨_,rfl,cq⟩
       ·rw[c87] at N7
        refine cU 4 [] (by kernel_rfl) ?_;refine kO [0,2,3,5,6,8,14,15,16,117] 1 ?_;refine ar ?_;cases N7;exact⟨_,rfl,cq⟩
    ·rw[ah (by rw[ZJ];decide)] at h3
     refine bZ ?_;exact⟨_,Uw _ (af h3),cq⟩
  ·refine aO (cA (λs18:Int×(List Int)×Int×(List az)×Int×(List ab)×(List Int)=>(⟨143,[(0,.ptr 1000000 0),(2,.ptr 2 0),(3,.ptr 3 0),(4,.vec 33),(5,.vec 90),(6,.dK),(8,.fn 21 [.ptr 7 0,.ptr 3 0]),(10,.d (.int .i64 s18.1))],[(2,[.dK,.dK]),(3,[.vec 400120,.d (.slice (ak aT s18.2.2.2.1))]),(7,[.d (.int .i64 s18.2.2.2.2.1)]),(1000000,[.d (.slice (ak (aH .i64) s18.2.1)),.d (.int .i64 s18.2.2.1)])],[(33,⟨3,1,ak (aH .i64) v2.2.2.2.2.1⟩),(90,⟨3,1,ak (aH .i64) s18.2.2.2.2.2.2⟩),(400120,⟨49,8,ak au s18.2.2.2.2.2.1⟩)]⟩:St)) Gt cq λG4 s18 o4 h4 Og MR=>?_)
   unfold jK at h4;refine aF ?_;refine kR [0,2,3,4,5,6,8,10,37] ?_;refine gJ ((decide (0 < s18.1))) (λc88=>?_) (λc88=>?_)
   ·rw[ai c88] at h4
    refine aN ?_;refine aF ?_;refine aO ?_;refine kR [0,2,3,4,5,6,8,10,11] ?_;refine aF ?_;refine kR [0,2,3,4,5,6,8,10,11,41,42,43] ?_;obtain⟨YD,Y',h4⟩:=bI h4;replace Y':=af Y';refine dp (yH 11 3 63 62 2 (by simp;rfl) (by simp) (by simp)) ?_;obtain⟨e5,hI5,h4⟩:=bI h4;refine oa (λv20:(List Int)×Int×(List aB)=>(⟨143,[(0,.ptr 1000000 0),(2,.ptr 2 0),(3,.ptr 3 0),(4,.vec 33),(5,.vec 90),(6,.dK),(8,.fn 21 [.ptr 7 0,.ptr 3 0]),(10,.d (.int .i64 s18.1)),(11,.ptr 11 0)],[(2,[.dK,.dK]),(3,[.vec 400120,.d (.slice (ak aT s18.2.2.2.1))]),(7,[.d (.int .i64 s18.2.2.2.2.1)]),(11,[.d (.int .i64 0),.d (.int .i64 2),.dK,.vec 63,.d (.int .i64 0),.dK,.d (.str ByteArray.empty),.d (.int .i64 0)]),(1000000,[.d (.slice (ak (aH .i64) v20.1)),.d (.int .i64 v20.2.1)])],[(33,⟨3,1,ak (aH .i64) v2.2.2.2.2.1⟩),(63,⟨62,2,ak aw v20.2.2⟩),(90,⟨3,1,ak (aH .i64) s18.2.2.2.2.2.2⟩),(400120,⟨49,8,ak au s18.2.2.2.2.2.1⟩)]⟩:St)) (λv20=>v20=e5) (λv20 agH _ W5=>?_) ?_
    ·subst agH
     refine dp W5 ?_;refine qH ?_;refine kO [0,2,3,4,6,8,10,85,86,87] 3 ?_;refine lA (BJ 63) ?_;obtain⟨UG,YQ,h4⟩:=bI h4;refine jQ [0,2,3,4,6,8,10,85,88] [7,3] [400120] [400120] (jM YQ) rfl rfl rfl Tryz.call21 (by simp) (by simp;rfl) ?_;obtain⟨_,Vj,h4⟩:=bI h4;replace Vj:=bT Vj;have WT:=Vj;try simp at WT
     refine ko [0,2,3,4,5,6,8,10] 3 (by simp[Vj,WT];rfl) ?_;refine ar ?_;refine lr (by simp;rfl) ?_;exact⟨_,Og _ (af h4),cq⟩
    ·refine aO (cA (λwC:Int×(List Int)×Int×(List aB)=>(⟨143,[(0,.ptr 1000000 0),(2,.ptr 2 0),(3,.ptr 3 0),(4,.vec 33),(5,.vec 90),(6,.dK),(8,.fn 21 [.ptr 7 0,.ptr 3 0]),(10,.d (.int .i64 s18.1)),(11,.ptr 11 0),(41,.vec 41),(42,.d (.int .i64 (([(⟨#[97]⟩:ByteArray),(⟨#[98]⟩:ByteArray),(⟨#[100]⟩:ByteArray)]).length:Int))),(43,.d (.int .i64 wC.1))],[(2,[.dK,.dK]),(3,[.vec 400120,.d (.slice (ak aT s18.2.2.2.1))]),(7,[.d (.int .i64 s18.2.2.2.2.1)]),(11,[.d (.int .i64 0),.d (.int .i64 2),.dK,.vec 63,.d (.int .i64 0),.dK,.d (.str ByteArray.empty),.d (.int .i64 0)]),(1000000,[.d (.slice (ak (aH .i64) wC.2.1)),.d (.int .i64 wC.2.2.1)])],[(33,⟨3,1,ak (aH .i64) v2.2.2.2.2.1⟩),(41,⟨9,1,ak mW YD⟩),(63,⟨62,2,ak aw wC.2.2.2⟩),(90,⟨3,1,ak (aH .i64) s18.2.2.2.2.2.2⟩),(400120,⟨49,8,ak au s18.2.2.2.2.2.1⟩)]⟩:St)) hI5 (wk (by subst Y';simp[bw])) λG5 wC o5 h5 hg5 he5=>?_)
     unfold iM at h5;refine kR [0,2,3,4,5,6,8,10,11,41,42,43,44] ?_;refine aF ?_;refine cF (b:=(decide (wC.1 < (([(⟨#[97]⟩:ByteArray),(⟨#[98]⟩:ByteArray),(⟨#[100]⟩:ByteArray)]).length:Int)))) (by simp) (λZV=>?_) (λZV=>?_)
     ·rw[ai ZV] at h5
      refine aN ?_;refine aF ?_;refine aO ?_;obtain⟨_,Vi,h5⟩:=bI h5;replace Vi:=bT Vi;have WS:=Vi;try simp at WS
      have abc:wC.1 < (((YD)).length:Int):=by omega
      obtain⟨QH,Vh,h5⟩:=bI h5;replace Vh:=bD Vh;have WR:=Vh;try simp at WR
      refine kr [0,2,3,4,5,6,8,10,11,13,41,42,43] (by simp[-getElem?_pos,aS,aV,Vi,abc,Vh,WS,WR];rfl) ?_;refine kc ?_;refine kO [0,2,3,4,5,6,8,10,11,13,41,42,43,47] 1 ?_;obtain⟨Lz,YP,h5⟩:=bI h5;refine jg [0,2,3,4,5,6,8,10,11,13,41,42,43,48] [1000000] (cH YP) rfl rfl rfl Tryz.call8 (by simp) (by simp;rfl) ?_;refine ar ?_;refine aO ?_;refine kR [0,2,3,4,5,6,8,10,11,13,41,42,43,48,49] ?_;refine gJ ((Lz.1==0)) (λZU=>?_) (λZU=>?_)
      ·rw[ai ZU] at h5
       refine dp (sx 63 700063) ?_;refine Sx [[],[0],[],[],[],[],[5],[4,6],[3,6,7],[6,8],[2,6,9],[6,10],[1,6,7,11],[6,12],[1,6,12,13]] [7,12,14] [(11,[12,14]),(1000000,[7,12])] (some (12,700063)) [52] 15 sZ (by decide +kernel) (by simp) ?_;refine bj 0 2 rfl (by simp (maxSteps:=1000000);rfl) ?_;refine bj 2 2 rfl (by simp (maxSteps:=1000000);rfl) ?_;refine bj 4 2 rfl (by simp (maxSteps:=1000000);rfl) ?_;refine bj 6 1 rfl (by simp (maxSteps:=1000000);rfl) ?_;obtain⟨Qr,YO,h5⟩:=bI h5;refine iu 7 [1000000] (cH YO) rfl rfl rfl rfl rfl Tryz.call8 (by simp) ?_;obtain⟨_,Mv,h5⟩:=bI h5;replace Mv:=bT Mv;have J2:=Mv;try simp at J2
       have NN:Qr.1 < (((v2.2.2.2.2.1)).length:Int):=by omega
       obtain⟨x26,Mu,h5⟩:=bI h5;replace Mu:=bD Mu;have J1:=Mu;try simp at J1
       obtain⟨_,Ms,h5⟩:=bI h5;replace Ms:=bT Ms;have J0:=Ms;try simp at J0
       refine bj 8 2 rfl (by simp (maxSteps:=1000000) [-getElem?_pos,aS,aV,Mv,NN,Mu,Ms,J2,J1,J0];rfl) ?_;refine bj 10 2 rfl (by simp (maxSteps:=1000000) [-getElem?_pos,aS,aV,Mv,NN,Mu,Ms,J2,J1,J0];rfl) ?_;refine bj 12 2 rfl (by simp (maxSteps:=1000000) [-getElem?_pos,aS,aV,Mv,NN,Mu,Ms,J2,J1,J0];rfl) ?_;refine bj 14 1 rfl (by simp (maxSteps:=1000000) [-getElem?_pos,aS,aV,Mv,NN,Mu,Ms,J2,J1,J0];rfl) ?_;refine fu rfl (ar ?_);refine lr (by simp;rfl) ?_;exact⟨_,hg5 _ (af h5),cq⟩
      ·rw[ah (by rw[ZU];decide)] at h5
       refine kR [0,2,3,4,5,6,8,10,11,13,41,42,43,65] ?_;refine gJ ((Lz.1==1)) (λZT=>?_) (λZT=>?_)
       ·rw[ai ZT] at h5
        refine kR [0,2,3,4,5,6,8,10,11,13,41,42,43,69] ?_;refine cF (b:=(decide (0 < ((s18.2.2.2.2.2.2).length:Int)))) (by simp) (λZS=>?_) (λZS=>?_)
        ·rw[ai ZS] at h5
         refine Sx [[],[0],[],[],[],[],[5],[4,6],[3,6,7],[6,8],[2,6,9],[6,10],[1,6,7,11],[6,12],[1,6,12,13]] [7,12,14] [(11,[12,14]),(1000000,[7,12])] (some (12,63)) [71] 15 sZ (by decide +kernel) (by simp) ?_;refine bj 0 2 rfl (by simp (maxSteps:=1000000);rfl) ?_;refine bj 2 2 rfl (by simp (maxSteps:=1000000);rfl) ?_;refine bj 4 2 rfl (by simp (maxSteps:=1000000);rfl) ?_;refine bj 6 1 rfl (by simp (maxSteps:=1000000);rfl) ?_;obtain⟨QG,YN,h5⟩:=bI h5;refine iu 7 [1000000] (cH YN) rfl rfl rfl rfl rfl Tryz.call8 (by simp) ?_;obtain⟨_,Mr,h5⟩:=bI h5;replace Mr:=bT Mr;have JZ:=Mr;try simp at JZ
         have NM:QG.1 < (((s18.2.2.2.2.2.2)).length:Int):=by omega
         obtain⟨x28,Mq,h5⟩:=bI h5;replace Mq:=bD Mq;have JY:=Mq;try simp at JY
         obtain⟨_,Mp,h5⟩:=bI h5;replace Mp:=bT Mp;have JX:=Mp;try simp at JX
         refine bj 8 2 rfl (by simp (maxSteps:=1000000) [-getElem?_pos,aS,aV,Mr,NM,Mq,Mp,JZ,JY,JX];rfl) ?_;refine bj 10 2 rfl (by simp (maxSteps:=1000000) [-getElem?_pos,aS,aV,Mr,NM,Mq,Mp,JZ,JY,JX];rfl) ?_;refine bj 12 2 rfl (by simp (maxSteps:=1000000) [-getElem?_pos,aS,aV,Mr,NM,Mq,Mp,JZ,JY,JX];rfl) ?_;refine bj 14 1 rfl (by simp (maxSteps:=1000000) [-getElem?_pos,aS,aV,Mr,NM,Mq,Mp,JZ,JY,JX];rfl) ?_;refine fu rfl (ar ?_);refine lr (by simp;rfl) ?_;exact⟨_,hg5 _ (af h5),Wk.trans (sx 82 63) cq⟩
        ·rw[ah (by rw[ZS];decide)] at h5
         refine aN ?_;refine lr (by simp;rfl) ?_;exact⟨_,hg5 _ (af h5),cq⟩
       ·rw[ah (by rw[ZT];decide)] at h5
        refine aN ?_;refine lr (by simp;rfl) ?_;exact⟨_,hg5 _ (af h5),cq⟩
     ·rw[ah (by rw[ZV];decide)] at h5
      refine bZ ?_;exact⟨_,he5 _ (af h5),cq⟩
   ·rw[ah (by rw[c88];decide)] at h4
    refine bZ ?_;exact⟨_,MR _ (af h4),cq⟩
 ·refine aO (cA (λDg:Int×(List Int)×Int×(List az)×Int×(List Int)×(List ab)=>(⟨143,[(0,.ptr 1000000 0),(2,.ptr 2 0),(3,.ptr 3 0),(4,.vec 33),(5,.dK),(6,.dK),(8,.fn 21 [.ptr 7 0,.ptr 3 0]),(9,.d (.int .i64 Dg.1))],[(2,[.dK,.dK]),(3,[.vec 400120,.d (.slice (ak aT Dg.2.2.2.1))]),(7,[.d (.int .i64 Dg.2.2.2.2.1)]),(1000000,[.d (.slice (ak (aH .i64) Dg.2.1)),.d (.int .i64 Dg.2.2.1)])],[(33,⟨3,1,ak (aH .i64) Dg.2.2.2.2.2.1⟩),(400120,⟨49,8,ak au Dg.2.2.2.2.2.2⟩)]⟩:St)) jR (Wk.trans (UJ 3 1 (by simp;rfl) (by simp)) cq) λG5 Dg o5 h5 hg5 he5=>?_)
  unfold jL at h5;refine aF ?_;refine kR [0,2,3,4,5,6,8,9,21] ?_;refine gJ ((decide (0 < Dg.1))) (λZR=>?_) (λZR=>?_)
  ·rw[ai ZR] at h5
   refine aN ?_;refine aF ?_;refine aO ?_;refine qH ?_;refine kO [0,2,3,5,6,8,9,24,25,26,27] 4 ?_;obtain⟨Z7,YM,h5⟩:=bI h5;refine jg [0,2,3,5,6,8,9,24,25,26,28] [1000000] (cH YM) rfl rfl rfl Tryz.call8 (by simp) (by simp;rfl) ?_;obtain⟨y31,aff,h5⟩:=bI h5;refine jg [0,2,3,5,6,8,9,24,25,29] [1000000] (Gi aff) rfl rfl rfl Tryz.call23 (by simp) (by simp;rfl) ?_;refine kO [0,2,3,5,6,8,9,24,25,30] 1 ?_;obtain⟨Z6,afe,h5⟩:=bI h5;refine jQ [0,2,3,5,6,8,9,24,31] [7,3] [400120] [400120] (jM afe) rfl rfl rfl Tryz.call21 (by simp) (by simp;rfl) ?_;obtain⟨_,Vg,h5⟩:=bI h5;replace Vg:=bT Vg;have WQ:=Vg;try simp at WQ
   refine ko [0,2,3,4,5,6,8,9] 3 (by simp[Vg,WQ];rfl) ?_;refine ar ?_;refine lr (by simp;rfl) ?_;exact⟨_,hg5 _ (af h5),cq⟩
  ·rw[ah (by rw[ZR];decide)] at h5
   refine bZ ?_;exact⟨_,he5 _ (af h5),cq⟩
theorem om {a0:Int} {r:Bool} (h0:lh a0=some r):dY Tryz.prog 77 [] [.d (.int .i64 a0)] (.d (.bool r)) []:=by
 unfold lh at h0;refine dS (nt:=9) (rs:=[.tmp 2]) Tryz.func77 rfl Tryz.ntmps77 rfl (by simp) (by decide) rfl λK=>?_
 refine kR [0] ?_;obtain⟨v1,ff,h0⟩:=bI h0;refine qF (λrl:Bool=>(⟨9,[(2,.d (.bool rl))],[],[]⟩:St)) (λrl=>v1=rl) (λrl e=>?_) ?_
 ·subst e
  cases h0;exact fM
 ·refine qH ?_
  refine kO [0,5] 3 ?_;refine bh 5 (decide (1≤a0)) (by simp) (λc3=>?_) (λc3=>?_)
  ·rw[c3] at ff
   refine kO [2] 4 ?_;refine ar ?_;cases ff;exact⟨_,rfl,cq⟩
  ·rw[c3] at ff
   refine kO [2] 4 ?_;refine ar ?_;cases ff;exact⟨_,rfl,cq⟩
theorem qp {a0:ByteArray} {r:Bool} (h0:mi a0=some r):dY Tryz.prog 80 [] [.d (.str a0)] (.d (.bool r)) []:=by
 unfold mi at h0;refine dS (nt:=31) (rs:=[.tmp 2]) Tryz.func80 rfl Tryz.ntmps80 rfl (by simp) (by decide) rfl λK=>?_
 refine kR [0] ?_;refine aF ?_;refine kc ?_;refine kO [0,5] 1 ?_;refine ae0 [0,6] rfl rfl Tryz.underlying9 Tryz.underlying47 Tryz.underlying5 (by simp;rfl) (by simp;rfl) ?_;refine kO [0,6,7,8] 2 ?_;refine ar ?_;obtain⟨e1,jR,h0⟩:=bI h0;refine oa (λv1:Unit=>(⟨31,[(0,.d (.str a0))],[],[]⟩:St)) (λv1=>.inl v1=e1) (λv1 eP _ W1=>?_) ?_
 ·subst eP
  dsimp only at h0;refine dp W1 ?_;obtain⟨v2,eE,h0⟩:=bI h0;refine qF (λsR:Bool=>(⟨31,[(2,.d (.bool sR))],[],[]⟩:St)) (λsR=>v2=sR) (λsR e=>?_) ?_
  ·subst e
   cases h0;exact fM
  ·refine qH ?_
   refine kO [0,26] 4 ?_;refine bh 26 (decide (1≤((a0).size:Int))) (by simp) (λCy=>?_) (λCy=>?_)
   ·rw[Cy] at eE
    refine kO [2] 5 ?_;refine ar ?_;cases eE;exact⟨_,rfl,cq⟩
   ·rw[Cy] at eE
    refine cU 3 [] (by kernel_rfl) ?_;refine kO [2] 2 ?_;refine ar ?_;cases eE;exact⟨_,rfl,cq⟩
 ·refine aO (cA (λs3:Int=>(⟨31,[(0,.d (.str a0)),(6,.d (.slice (ak (aH .u8) (fU a0)))),(7,.d (.int .i64 (((fU a0)).length:Int))),(8,.d (.int .i64 s3))],[],[]⟩:St)) jR cq λG1 s3 o1 h1 gY iq=>?_)
  unfold qq at h1;refine kR [0,6,7,8,9] ?_;refine aF ?_;refine cF (b:=(decide (s3 < (((fU a0)).length:Int)))) (by simp) (λCx=>?_) (λCx=>?_)
  ·rw[ai Cx] at h1
   refine aN ?_;refine aF ?_;refine aO ?_;obtain⟨x4,p3,h1⟩:=bI h1;replace p3:=bD p3;have og:=p3;try simp at og
   refine kr [0,4,6,7,8] (by simp[p3,og];rfl) ?_;obtain⟨v5,sU,h1⟩:=bI h1;refine qF (λNu:Bool=>(⟨31,[(0,.d (.str a0)),(6,.d (.slice (ak (aH .u8) (fU a0)))),(7,.d (.int .i64 (((fU a0)).length:Int))),(8,.d (.int .i64 s3)),(21,.d (.bool Nu))],[],[]⟩:St)) (λNu=>v5=Nu) (λNu e=>?_) ?_
   ·subst e
    refine gJ (v5) (λCv=>?_) (λCv=>?_)
    ·rw[ai Cv] at h1
     refine kR [2] ?_;have k1:=iq _ (af h1);subst k1;dsimp only at h0;cases h0;exact fM
    ·rw[ah (by rw[Cv];decide)] at h1
     refine aN ?_;refine lr (by simp;rfl) ?_;exact⟨_,gY _ (af h1),cq⟩
   ·refine qH ?_
    refine kO [0,4,6,7,8,14] 3 ?_;refine bh 14 (decide (x4 < 33)) (by simp) (λFG=>?_) (λFG=>?_)
    ·rw[FG] at sU
     refine kO [0,6,7,8,15,16,19,20,21] 7 ?_;refine ar ?_;cases sU;exact⟨_,rfl,cq⟩
    ·rw[FG] at sU
     refine kO [0,4,6,7,8,15,16,18] 4 ?_;refine bh 18 (decide (126 < x4)) (by simp) (λAn=>?_) (λAn=>?_)
     ·rw[An] at sU
      refine kO [0,6,7,8,15,16,19,20,21] 3 ?_;refine ar ?_;cases sU;exact⟨_,rfl,cq⟩
     ·rw[An] at sU
      refine kO [0,6,7,8,15,16,19,20,21] 3 ?_;refine ar ?_;cases sU;exact⟨_,rfl,cq⟩
  ·rw[ah (by rw[Cx];decide)] at h1
   refine bZ ?_;exact⟨_,iq _ (af h1),cq⟩
theorem EH {a0:ab} {r:Bool} (h0:rR a0=some r):dY Tryz.prog 110 [] [.agg (bc a0)] (.d (.bool r)) []:=by
 unfold rR at h0;refine dS (nt:=40) (rs:=[.tmp 2]) Tryz.func110 rfl Tryz.ntmps110 rfl (by simp) (by decide) rfl λK=>?_
 refine kR [1] ?_;refine aF ?_;refine kR [1,6,7,8] ?_;obtain⟨e1,jR,h0⟩:=bI h0;refine oa (λv1:Unit=>(⟨40,[],[],[]⟩:St)) (λv1=>.inl v1=e1) (λv1 eP _ W1=>?_) ?_
 ·subst eP
  dsimp only at h0;refine dp W1 ?_;refine kR [2] ?_;cases h0;exact fM
 ·refine aO (cA (λs2:Int=>(⟨40,[(1,.ptr 1 0),(6,.d (.slice (ak aw a0.bd))),(7,.d (.int .i64 ((a0.bd).length:Int))),(8,.d (.int .i64 s2))],[(1,(bc a0))],[]⟩:St)) jR cq λG1 s2 o1 h1 gY iq=>?_)
  unfold qm at h1;refine kR [1,6,7,8,9] ?_;refine aF ?_;refine cF (b:=(decide (s2 < ((a0.bd).length:Int)))) (by simp) (λDE=>?_) (λDE=>?_)
  ·rw[ai DE] at h1
   refine aN ?_;refine aF ?_;refine aO ?_;obtain⟨x3,p9,h1⟩:=bI h1;replace p9:=bD p9;have NL:=p9;try simp at NL
   refine kr [1,3,4,6,7,8] (by simp[p9,NL];rfl) ?_;obtain⟨v4,ec,h1⟩:=bI h1;refine qF (λwg:Bool=>(⟨40,[(1,.ptr 1 0),(6,.d (.slice (ak aw a0.bd))),(7,.d (.int .i64 ((a0.bd).length:Int))),(8,.d (.int .i64 s2)),(38,.d (.bool wg))],[(1,(bc a0))],[]⟩:St)) (λwg=>v4=wg) (λwg e=>?_) ?_
   ·subst e
    refine gJ (v4) (λZN=>?_) (λZN=>?_)
    ·rw[ai ZN] at h1
     refine kR [2] ?_;have k1:=iq _ (af h1);subst k1;dsimp only at h0;cases h0;exact fM
    ·rw[ah (by rw[ZN];decide)] at h1
     refine aN ?_;refine lr (by simp;rfl) ?_;exact⟨_,gY _ (af h1),cq⟩
   ·refine Sx [[],[0],[1],[2],[3],[4],[4,5],[4,6],[4,7],[4,8],[9],[10],[10,11],[10,12],[13],[13,14],[13],[13,16],[13,15,17],[13,18],[13,19],[13],[13,21],[13,20,22],[10,13,23],[10,24]] [] [] none [] 26 sZ (by decide +kernel) (by simp) ?_
    refine bj 0 2 rfl (by simp (maxSteps:=1000000);rfl) ?_;obtain⟨y5,IB,ec⟩:=bI ec;refine iu 2 [] (qp IB) rfl rfl rfl rfl rfl Tryz.call80 (by simp) ?_;refine bj 3 2 rfl (by simp (maxSteps:=1000000);rfl) ?_;refine mL 4 17 (!y5) (by simp) (λZL=>?_) (λZL=>?_)
    ·rw[ai ZL] at ec
     refine mw 5 40 [some 18,some 19,some 20,some 21] rfl rfl (by decide) (by kernel_rfl) (by simp only[uZ,aW,cO,cv,di];rfl) ?_;refine bj 9 2 rfl (by simp (maxSteps:=1000000);rfl) ?_;refine mw 11 40 [some 24,some 25,some 26,some 27,some 28,some 29,some 30,some 31,some 32,some 33,some 34,some 35,some 36,some 37] rfl rfl (by decide) (by kernel_rfl) (by simp only[uZ,aW,cO,cv,di];rfl) ?_;refine bj 25 1 rfl (by simp (maxSteps:=1000000);rfl) ?_;refine fu rfl (ar ?_);cases ec;exact⟨_,rfl,cq⟩
    ·rw[ah (by rw[ZL];decide)] at ec
     refine bj 5 2 rfl (by simp (maxSteps:=1000000);rfl) ?_;obtain⟨y6,Gm,ec⟩:=bI ec;refine iu 7 [] (om Gm) rfl rfl rfl rfl rfl Tryz.call77 (by simp) ?_;refine bj 8 2 rfl (by simp (maxSteps:=1000000);rfl) ?_;refine bj 10 1 rfl (by simp (maxSteps:=1000000);rfl) ?_;refine mL 10 23 (!y6) (by simp) (λZK=>?_) (λZK=>?_)
     ·rw[ai ZK] at ec
      refine mw 11 40 [some 24,some 25,some 26,some 27,some 28,some 29,some 30,some 31,some 32,some 33,some 34,some 35,some 36,some 37] rfl rfl (by decide) (by kernel_rfl) (by simp only[uZ,aW,cO,cv,di];rfl) ?_;refine bj 25 1 rfl (by simp (maxSteps:=1000000);rfl) ?_;refine fu rfl (ar ?_);cases ec;exact⟨_,rfl,cq⟩
     ·rw[ah (by rw[ZK];decide)] at ec
      refine bj 11 2 rfl (by simp (maxSteps:=1000000);rfl) ?_;refine bj 13 1 rfl (by simp (maxSteps:=1000000);rfl) ?_;refine mL 13 26 (decide (0 < s2)) (by simp) (λc51=>?_) (λc51=>?_)
      ·rw[ai c51] at ec
       obtain⟨x7,oh,ec⟩:=bI ec;replace oh:=bD oh;have jb:=oh;try simp at jb
       refine bj 14 2 rfl (by simp (maxSteps:=1000000) [oh,jb];rfl) ?_;refine bj 16 2 rfl (by simp (maxSteps:=1000000) [oh,jb];rfl) ?_;refine bj 18 2 rfl (by simp (maxSteps:=1000000) [oh,jb];rfl) ?_;refine bj 20 2 rfl (by simp (maxSteps:=1000000) [oh,jb];rfl) ?_;refine bj 22 2 rfl (by simp (maxSteps:=1000000) [oh,jb];rfl) ?_;refine bj 24 2 rfl (by simp (maxSteps:=1000000) [oh,jb];rfl) ?_;refine fu rfl (ar ?_);cases ec;exact⟨_,rfl,cq⟩
      ·rw[ah (by rw[c51];decide)] at ec
       refine mw 14 40 [some 27,some 28,some 29,some 30,some 31,some 32,some 33,some 34,some 35,some 36] rfl rfl (by decide) (by kernel_rfl) (by simp only[uZ,aW,cO,cv,di];rfl) ?_;refine bj 24 2 rfl (by simp (maxSteps:=1000000);rfl) ?_;refine fu rfl (ar ?_);cases ec;exact⟨_,rfl,cq⟩
  ·rw[ah (by rw[DE];decide)] at h1
   refine bZ ?_;exact⟨_,iq _ (af h1),cq⟩
theorem zc {a0:List Int} {a1:Int} {r:Int} (h0:slices_Index_int a0 a1=some r):dY Tryz.prog 147 [] [.d (.slice (ak (aH .i64) a0)),.d (.int .i64 a1)] (.d (.int .i64 r)) []:=by
 unfold slices_Index_int at h0;refine dS (nt:=19) (rs:=[.tmp 4]) Tryz.func147 rfl Tryz.ntmps147 rfl (by simp) (by decide) rfl λK=>?_
 refine kR [0,1] ?_;refine aF ?_;refine kR [0,1,7,8] ?_;obtain⟨e1,jR,h0⟩:=bI h0;refine oa (λv1:Unit=>(⟨19,[],[],[]⟩:St)) (λv1=>.inl v1=e1) (λv1 eP _ W1=>?_) ?_
 ·subst eP
  dsimp only at h0;refine dp W1 ?_;refine kR [4] ?_;cases h0;exact fM
 ·refine aO (cA (λs2:Int=>(⟨19,[(0,.d (.slice (ak (aH .i64) a0))),(1,.d (.int .i64 a1)),(7,.d (.int .i64 ((a0).length:Int))),(8,.d (.int .i64 s2))],[],[]⟩:St)) jR cq λG1 s2 o1 h1 gY iq=>?_)
  unfold jq at h1;refine kR [0,1,7,8,9] ?_;refine aF ?_;refine cF (b:=(decide (s2 < ((a0).length:Int)))) (by simp) (λc5=>?_) (λc5=>?_)
  ·rw[ai c5] at h1
   refine aN ?_;refine aF ?_;refine aO ?_;refine kR [0,1,5,7,8] ?_;obtain⟨x3,p3,h1⟩:=bI h1;replace p3:=bD p3;have og:=p3;try simp at og
   refine kr [0,1,5,7,8,16] (by simp[p3,og];rfl) ?_;refine gJ ((a1==x3)) (λc6=>?_) (λc6=>?_)
   ·rw[ai c6] at h1
    refine kR [4] ?_;have k1:=iq _ (af h1);subst k1;dsimp only at h0;cases h0;exact fM
   ·rw[ah (by rw[c6];decide)] at h1
    refine aN ?_;refine lr (by simp;rfl) ?_;exact⟨_,gY _ (af h1),cq⟩
  ·rw[ah (by rw[c5];decide)] at h1
   refine bZ ?_;exact⟨_,iq _ (af h1),cq⟩
theorem wy {a0:List Int} {a1:Int} {r:Bool} (h0:slices_Contains_int a0 a1=some r):dY Tryz.prog 128 [] [.d (.slice (ak (aH .i64) a0)),.d (.int .i64 a1)] (.d (.bool r)) []:=by
 unfold slices_Contains_int at h0;refine dS (nt:=9) (rs:=[.tmp 4]) Tryz.func128 rfl Tryz.ntmps128 rfl (by simp) (by decide) rfl λK=>?_
 refine kR [0,1] ?_;refine kc ?_;refine kO [5,6] 2 ?_;obtain⟨y1,oC,h0⟩:=bI h0;refine ku [7] (zc oC) Tryz.call147 ?_;refine kO [4] 2 ?_;refine ar ?_;cases h0;exact fM
theorem B5 {a0:ab} {r:Bool} (h0:oP a0=some r):dY Tryz.prog 111 [] [.agg (bc a0)] (.d (.bool r)) []:=by
 unfold oP at h0;refine dS (nt:=43) (rs:=[.tmp 2]) Tryz.func111 rfl Tryz.ntmps111 rfl (by simp) (by decide) rfl λK=>?_
 refine kR [1] ?_;refine aF ?_;refine kR [1,6,7,8] ?_;obtain⟨e1,jR,h0⟩:=bI h0;refine oa (λv1:Unit=>(⟨43,[(1,.ptr 1 0)],[(1,(bc a0))],[]⟩:St)) (λv1=>.inl v1=e1) (λv1 eP _ W1=>?_) ?_
 ·subst eP
  dsimp only at h0;refine dp W1 ?_;obtain⟨v2,eE,h0⟩:=bI h0;refine qF (λsR:Bool=>(⟨43,[(2,.d (.bool sR))],[],[]⟩:St)) (λsR=>v2=sR) (λsR e=>?_) ?_
  ·subst e
   cases h0;exact fM
  ·refine qH ?_
   refine kO [1,26] 2 ?_;obtain⟨y3,Ce,eE⟩:=bI eE;refine ku [1,27] (om Ce) Tryz.call77 ?_;refine kO [1,28] 1 ?_;refine bh 28 y3 (by simp) (λAp=>?_) (λAp=>?_)
   ·rw[ai Ap] at eE
    refine kO [1,28,30] 2 ?_;obtain⟨y4,zh,eE⟩:=bI eE;refine ku [1,28,31] (qp zh) Tryz.call80 ?_;refine kO [1,33] 2 ?_;refine bh 33 y4 (by simp) (λFH=>?_) (λFH=>?_)
    ·rw[ai FH] at eE
     refine kO [1,38] 5 ?_;refine bh 38 (decide (0≤a0.Time)) (by simp) (λCw=>?_) (λCw=>?_)
     ·rw[ai Cw] at eE
      refine kO [2] 5 ?_;refine ar ?_;cases eE;exact⟨_,rfl,cq⟩
     ·rw[ah (by rw[Cw];decide)] at eE
      refine cU 3 [] (by kernel_rfl) ?_;refine kO [2] 2 ?_;refine ar ?_;cases eE;exact⟨_,rfl,cq⟩
    ·rw[ah (by rw[FH];decide)] at eE
     refine cU 3 [] (by kernel_rfl) ?_;refine kO [1,38] 2 ?_;refine cU 3 [] (by kernel_rfl) ?_;refine kO [2] 2 ?_;refine ar ?_;cases eE;exact⟨_,rfl,cq⟩
   ·rw[ah (by rw[Ap];decide)] at eE
    refine cU 3 [] (by kernel_rfl) ?_;refine kO [1,33] 2 ?_;refine cU 3 [] (by kernel_rfl) ?_;refine kO [1,38] 2 ?_;refine cU 3 [] (by kernel_rfl) ?_;refine kO [2] 2 ?_;refine ar ?_;cases eE;exact⟨_,rfl,cq⟩
 ·refine aO (cA (λs5:Int=>(⟨43,[(1,.ptr 1 0),(6,.d (.slice (ak (aH .i64) a0.bf))),(7,.d (.int .i64 ((a0.bf).length:Int))),(8,.d (.int .i64 s5))],[(1,(bc a0))],[]⟩:St)) jR cq λG1 s5 o1 h1 gY iq=>?_)
  unfold oi at h1;refine kR [1,6,7,8,9] ?_;refine aF ?_;refine cF (b:=(decide (s5 < ((a0.bf).length:Int)))) (by simp) (λAo=>?_) (λAo=>?_)
  ·rw[ai Ao] at h1
   refine aN ?_;refine aF ?_;refine aO ?_;obtain⟨x6,p5,h1⟩:=bI h1;replace p5:=bD p5;have Qv:=p5;try simp at Qv
   refine kr [1,3,4,6,7,8] (by simp[p5,Qv];rfl) ?_;obtain⟨v7,Gn,h1⟩:=bI h1;refine qF (λv7_:Bool=>(⟨43,[(1,.ptr 1 0),(6,.d (.slice (ak (aH .i64) a0.bf))),(7,.d (.int .i64 ((a0.bf).length:Int))),(8,.d (.int .i64 s5)),(23,.d (.bool v7_))],[(1,(bc a0))],[]⟩:St)) (λv7_=>v7=v7_) (λv7_ e=>?_) ?_
   ·subst e
    refine gJ (v7) (λAn=>?_) (λAn=>?_)
    ·rw[ai An] at h1
     refine kR [2] ?_;have k1:=iq _ (af h1);subst k1;dsimp only at h0;cases h0;exact fM
    ·rw[ah (by rw[An];decide)] at h1
     refine aN ?_;refine lr (by simp;rfl) ?_;exact⟨_,gY _ (af h1),cq⟩
   ·refine qH ?_
    refine kO [1,3,4,6,7,8,13] 1 ?_;obtain⟨y8,YL,Gn⟩:=bI Gn;refine ku [1,3,4,6,7,8,14] (om YL) Tryz.call77 ?_;refine kO [1,3,4,6,7,8,16] 2 ?_;refine bh 16 (!y8) (by simp) (λFF=>?_) (λFF=>?_)
    ·rw[ai FF] at Gn
     refine cU 6 [] (by kernel_rfl) ?_;refine kO [1,6,7,8,23] 1 ?_;refine ar ?_;cases Gn;exact⟨_,rfl,cq⟩
    ·rw[ah (by rw[FF];decide)] at Gn
     obtain⟨_,p8,Gn⟩:=bI Gn;replace p8:=bT p8;have p8':=p8;try simp at p8'
     refine ko [1,6,7,8,16,17,18,19,20,21] 5 (by simp[p8,p8'];rfl) ?_;obtain⟨y9,SC,Gn⟩:=bI Gn;refine ku [1,6,7,8,16,17,18,19,20,21,22] (wy SC) Tryz.call128 ?_;refine kO [1,6,7,8,17,18,19,20,21,22,23] 1 ?_;refine ar ?_;cases Gn;exact⟨_,rfl,cq⟩
  ·rw[ah (by rw[Ao];decide)] at h1
   refine bZ ?_;exact⟨_,iq _ (af h1),cq⟩
theorem Dr {a0:ab} {r:Bool} (h0:qn a0=some r):dY Tryz.prog 78 [] [.agg (bc a0)] (.d (.bool r)) []:=by
 unfold qn at h0;refine dS (nt:=65) (rs:=[.tmp 2]) Tryz.func78 rfl Tryz.ntmps78 rfl (by simp) (by decide) rfl λK=>?_
 refine kR [1] ?_;obtain⟨v1,ff,h0⟩:=bI h0;refine qF (λrl:Bool=>(⟨65,[(1,.ptr 1 0),(3,.d (.bool rl))],[(1,(bc a0))],[]⟩:St)) (λrl=>v1=rl) (λrl e=>?_) ?_
 ·subst e
  refine aF ?_;refine kR [1,3,24] ?_;refine aO ?_;refine kR [1,3,24,25] ?_;refine gJ ((a0.Kind==1)) (λc7=>?_) (λc7=>?_)
  ·rw[ai c7] at h0
   obtain⟨v2,eE,h0⟩:=bI h0;refine qF (λsR:Bool=>(⟨65,[(2,.d (.bool sR))],[],[]⟩:St)) (λsR=>v2=sR) (λsR e=>?_) ?_
   ·subst e
    cases h0;exact fM
   ·refine qH ?_
    refine kO [3,31] 5 ?_;refine bh 31 (((a0.bd).length:Int)==0) (by simp) (λFI=>?_) (λFI=>?_)
    ·rw[FI] at eE
     refine kO [2] 4 ?_;refine ar ?_;cases eE;exact⟨_,rfl,cq⟩
    ·rw[FI] at eE
     refine kO [2] 4 ?_;refine ar ?_;cases eE;exact⟨_,rfl,cq⟩
  ·rw[ah (by rw[c7];decide)] at h0
   refine kR [1,3,24,35] ?_;refine gJ ((a0.Kind==2)) (λCy=>?_) (λCy=>?_)
   ·rw[ai Cy] at h0
    obtain⟨v3,oR,h0⟩:=bI h0;refine qF (λHS:Bool=>(⟨65,[(2,.d (.bool HS))],[],[]⟩:St)) (λHS=>v3=HS) (λHS e=>?_) ?_
    ·subst e
     cases h0;exact fM
    ·refine qH ?_
     refine kO [1,3,41] 5 ?_;refine bh 41 (((a0.Data).length:Int)==0) (by simp) (λAo=>?_) (λAo=>?_)
     ·rw[ai Ao] at oR
      refine kO [1,45] 4 ?_;refine bh 45 (!v1) (by simp) (λCv=>?_) (λCv=>?_)
      ·rw[ai Cv] at oR
       refine kO [45,46] 1 ?_;obtain⟨y4,zh,oR⟩:=bI oR;refine ku [45,47] (EH zh) Tryz.call110 ?_;refine kO [2] 2 ?_;refine ar ?_;cases oR;exact⟨_,rfl,cq⟩
      ·rw[ah (by rw[Cv];decide)] at oR
       refine kO [2] 4 ?_;refine ar ?_;cases oR;exact⟨_,rfl,cq⟩
     ·rw[ah (by rw[Ao];decide)] at oR
      refine kO [2] 8 ?_;refine ar ?_;cases oR;exact⟨_,rfl,cq⟩
   ·rw[ah (by rw[Cy];decide)] at h0
    refine kR [1,49] ?_;refine gJ ((a0.Kind==3)) (λFG=>?_) (λFG=>?_)
    ·rw[ai FG] at h0
     obtain⟨v5,sU,h0⟩:=bI h0;refine qF (λNu:Bool=>(⟨65,[(2,.d (.bool Nu))],[],[]⟩:St)) (λNu=>v5=Nu) (λNu e=>?_) ?_
     ·subst e
      cases h0;exact fM
     ·refine qH ?_
      refine kO [1,55] 5 ?_;refine bh 55 (((a0.Data).length:Int)==0) (by simp) (λDE=>?_) (λDE=>?_)
      ·rw[ai DE] at sU
       refine kO [1,61] 6 ?_;refine bh 61 (((a0.bd).length:Int)==0) (by simp) (λDD=>?_) (λDD=>?_)
       ·rw[ai DD] at sU
        refine kO [61,62] 1 ?_;obtain⟨y6,Gm,sU⟩:=bI sU;refine ku [61,63] (B5 Gm) Tryz.call111 ?_;refine kO [2] 2 ?_;refine ar ?_;cases sU;exact⟨_,rfl,cq⟩
       ·rw[ah (by rw[DD];decide)] at sU
        refine kO [2] 4 ?_;refine ar ?_;cases sU;exact⟨_,rfl,cq⟩
      ·rw[ah (by rw[DE];decide)] at sU
       refine cU 4 [] (by kernel_rfl) ?_;refine kO [2] 6 ?_;refine ar ?_;cases sU;exact⟨_,rfl,cq⟩
    ·rw[ah (by rw[FG];decide)] at h0
     refine aN ?_;refine kR [2] ?_;cases h0;exact fM
 ·refine qH ?_
  refine kO [1,7] 4 ?_;refine bh 7 (a0.Tree != 0) (by simp) (λI9=>?_) (λI9=>?_)
  ·rw[I9] at ff
   refine cU 4 [] (by kernel_rfl) ?_;refine kO [1,13] 2 ?_;refine cU 3 [] (by kernel_rfl) ?_;refine kO [1,18] 2 ?_;refine cU 3 [] (by kernel_rfl) ?_;refine kO [1,3] 2 ?_;refine ar ?_;cases ff;exact⟨_,rfl,cq⟩
  ·rw[I9] at ff
   refine kO [1,13] 6 ?_;refine bh 13 (decide (0 < ((a0.bf).length:Int))) (by simp) (λI8=>?_) (λI8=>?_)
   ·rw[I8] at ff
    refine cU 3 [] (by kernel_rfl) ?_;refine kO [1,18] 2 ?_;refine cU 3 [] (by kernel_rfl) ?_;refine kO [1,3] 2 ?_;refine ar ?_;cases ff;exact⟨_,rfl,cq⟩
   ·rw[I8] at ff
    refine kO [1,18] 5 ?_;refine bh 18 (!((a0.fJ).toList==((⟨#[]⟩:ByteArray)).toList)) (by simp) (λNd=>?_) (λNd=>?_)
    ·rw[Nd] at ff
     refine cU 3 [] (by kernel_rfl) ?_;refine kO [1,3] 2 ?_;refine ar ?_;cases ff;exact⟨_,rfl,cq⟩
    ·rw[Nd] at ff
     refine kO [1,3] 5 ?_;refine ar ?_;cases ff;exact⟨_,rfl,cq⟩
theorem Ds {a0:ab} {r:Int} (h0:qo a0=some r):dY Tryz.prog 42 [] [.agg (bc a0)] (.d (.int .i64 r)) []:=by
 unfold qo at h0;refine dS (nt:=29) (rs:=[.tmp 2]) Tryz.func42 rfl Tryz.ntmps42 rfl (by simp) (by decide) rfl λK=>?_
 refine kR [1] ?_;refine aF ?_;refine aO ?_;refine kc ?_;refine kO [1,5] 2 ?_;obtain⟨y1,oC,h0⟩:=bI h0;refine ku [1,6] (om oC) Tryz.call77 ?_;refine kO [1,3] 2 ?_;refine ar ?_;refine gJ ((!y1)) (λc1=>?_) (λc1=>?_)
 ·rw[ai c1] at h0
  refine kR [2] ?_;cases h0;exact fM
 ·rw[ah (by rw[c1];decide)] at h0
  obtain⟨v2,eE,h0⟩:=bI h0;refine qF (λsR:Bool=>(⟨29,[(1,.ptr 1 0),(8,.d (.bool sR))],[(1,(bc a0))],[]⟩:St)) (λsR=>v2=sR) (λsR e=>?_) ?_
  ·subst e
   refine gJ (v2) (λc6=>?_) (λc6=>?_)
   ·rw[ai c6] at h0
    refine kR [2] ?_;cases h0;exact fM
   ·rw[ah (by rw[c6];decide)] at h0
    refine kc ?_;refine kO [26] 1 ?_;obtain⟨y3,Ce,h0⟩:=bI h0;refine ku [27] (Dr Ce) Tryz.call78 ?_;refine kO [25] 2 ?_;refine ar ?_;refine gJ ((!y3)) (λc7=>?_) (λc7=>?_)
    ·rw[ai c7] at h0
     refine kR [2] ?_;cases h0;exact fM
    ·rw[ah (by rw[c7];decide)] at h0
     refine aN ?_;refine kR [2] ?_;cases h0;exact fM
  ·refine qH ?_
   refine kO [1,13] 5 ?_;refine bh 13 (decide (65536 < ((a0.Data).length:Int))) (by simp) (λc8=>?_) (λc8=>?_)
   ·rw[c8] at eE
    refine cU 4 [] (by kernel_rfl) ?_;refine kO [1,19] 2 ?_;refine cU 4 [] (by kernel_rfl) ?_;refine kO [1,8] 2 ?_;refine ar ?_;cases eE;exact⟨_,rfl,cq⟩
   ·rw[c8] at eE
    refine kO [1,19] 6 ?_;refine bh 19 (decide (64 < ((a0.bd).length:Int))) (by simp) (λc9=>?_) (λc9=>?_)
    ·rw[c9] at eE
     refine cU 4 [] (by kernel_rfl) ?_;refine kO [1,8] 2 ?_;refine ar ?_;cases eE;exact⟨_,rfl,cq⟩
    ·rw[c9] at eE
     refine kO [1,8] 6 ?_;refine ar ?_;cases eE;exact⟨_,rfl,cq⟩
theorem Ab {a0:ab} {r:Bool} (h0:pg a0=some r):dY Tryz.prog 41 [] [.agg (bc a0)] (.d (.bool r)) []:=by
 unfold pg at h0;refine dS (nt:=6) (rs:=[.tmp 2]) Tryz.func41 rfl Tryz.ntmps41 rfl (by simp) (by decide) rfl λK=>?_
 refine kR [1] ?_;refine kc ?_;refine kO [3] 1 ?_;obtain⟨y1,oC,h0⟩:=bI h0;refine ku [4] (Ds oC) Tryz.call42 ?_;refine kO [2] 2 ?_;refine ar ?_;cases h0;exact fM
theorem Ch {a0:az} {r:Bool} (h0:oS a0=some r):dY Tryz.prog 44 [] [.agg (mM a0)] (.d (.bool r)) []:=by
 unfold oS at h0;refine dS (nt:=27) (rs:=[.tmp 2]) Tryz.func44 rfl Tryz.ntmps44 rfl (by simp) (by decide) rfl λK=>?_
 refine kR [1] ?_;obtain⟨v1,ff,h0⟩:=bI h0;refine qF (λrl:Bool=>(⟨27,[(2,.d (.bool rl))],[],[]⟩:St)) (λrl=>v1=rl) (λrl e=>?_) ?_
 ·subst e
  cases h0;exact fM
 ·refine qH ?_
  refine kO [1,6] 4 ?_;refine bh 6 (a0.Kind != 1) (by simp) (λAp=>?_) (λAp=>?_)
  ·rw[ai Ap] at ff
   refine kO [1,11] 5 ?_;refine bh 11 (a0.Kind != 2) (by simp) (λFH=>?_) (λFH=>?_)
   ·rw[ai FH] at ff
    refine cU 4 [] (by kernel_rfl) ?_;refine kO [1,17] 2 ?_;refine cU 8 [] (by kernel_rfl) ?_;refine kO [2] 2 ?_;refine ar ?_;cases ff;exact⟨_,rfl,cq⟩
   ·rw[ah (by rw[FH];decide)] at ff
    refine kO [1,11,13] 2 ?_;obtain⟨y2,DM,ff⟩:=bI ff;refine ku [1,11,14] (qp DM) Tryz.call80 ?_;refine kO [1,17] 3 ?_;refine bh 17 (!y2) (by simp) (λCw=>?_) (λCw=>?_)
    ·rw[ai Cw] at ff
     refine cU 8 [] (by kernel_rfl) ?_;refine kO [2] 2 ?_;refine ar ?_;cases ff;exact⟨_,rfl,cq⟩
    ·rw[ah (by rw[Cw];decide)] at ff
     refine kO [1,17,21] 4 ?_;refine bh 21 (a0.Kind==2) (by simp) (λAo=>?_) (λAo=>?_)
     ·rw[ai Ao] at ff
      refine kO [2] 6 ?_;refine ar ?_;cases ff;exact⟨_,rfl,cq⟩
     ·rw[ah (by rw[Ao];decide)] at ff
      refine cU 3 [] (by kernel_rfl) ?_;refine kO [2] 3 ?_;refine ar ?_;cases ff;exact⟨_,rfl,cq⟩
  ·rw[ah (by rw[Ap];decide)] at ff
   refine cU 3 [] (by kernel_rfl) ?_;refine kO [1,11,13] 4 ?_;obtain⟨y3,Ce,ff⟩:=bI ff;refine ku [1,11,14] (qp Ce) Tryz.call80 ?_;refine kO [1,17] 3 ?_;refine bh 17 (!y3) (by simp) (λCv=>?_) (λCv=>?_)
   ·rw[ai Cv] at ff
    refine cU 8 [] (by kernel_rfl) ?_;refine kO [2] 2 ?_;refine ar ?_;cases ff;exact⟨_,rfl,cq⟩
   ·rw[ah (by rw[Cv];decide)] at ff
    refine kO [1,17,21] 4 ?_;refine bh 21 (a0.Kind==2) (by simp) (λFG=>?_) (λFG=>?_)
    ·rw[ai FG] at ff
     refine kO [2] 6 ?_;refine ar ?_;cases ff;exact⟨_,rfl,cq⟩
    ·rw[ah (by rw[FG];decide)] at ff
     refine cU 3 [] (by kernel_rfl) ?_;refine kO [2] 3 ?_;refine ar ?_;cases ff;exact⟨_,rfl,cq⟩
theorem vQ {a0:ao} {r:(List (Int×ab))×Bool} (h0:ic a0=some r):dY Tryz.prog 38 [] [.agg (ay a0)] (.ia [.d (.mp (bL 71 1 false true) 9 (ak (bB (aH .i64) au) r.1)),.d (.bool r.2)]) []:=by
 unfold ic at h0;refine dS (nt:=27) (rs:=[.tmp 2,.tmp 3]) Tryz.func38 rfl Tryz.ntmps38 rfl (by simp) (by decide) rfl λK=>?_
 refine kR [1] ?_;refine kR [1,4] ?_;refine aF ?_;refine kR [1,4,9,10,11] ?_;obtain⟨e1,jR,h0⟩:=bI h0;refine oa (λv1:(List (Int×ab))=>(⟨27,[(1,.ptr 1 0),(4,.vec 7)],[(1,(ay a0))],[(7,⟨bL 71 1 false true,9,ak (bB (aH .i64) au) v1⟩)]⟩:St)) (λv1=>v1=e1) (λv1 eP _ W1=>?_) ?_
 ·subst eP
  refine dp W1 ?_;refine ae1 (S:=(⟨27,[(2,.vec 7),(3,.d (.bool (((v1).length:Int)==((a0.aq).length:Int))))],[],[(7,⟨bL 71 1 false true,9,ak (bB (aH .i64) au) v1⟩)]⟩:St)) sZ ?_ ?_
  ·
   refine tc 0 rfl (by decide +kernel) (by decide +kernel) (by simp[gB,gZ]) (λc s h=>by cases h.1) (by simp;rfl) ?_;refine tc 1 rfl (by decide +kernel) (by decide +kernel) (by simp[gB,gZ]) (λc s h=>by cases h.1) (by simp;rfl) ?_;refine tc 3 rfl (by decide +kernel) (by decide +kernel) (by simp[gB,gZ]) (λc s h=>by cases h.1) (by simp;rfl) ?_;refine wY [2,4] (by decide +kernel) (by decide) ?_;refine lY rfl (by simp;rfl) ?_ ?_
   ·
    refine tc 7 rfl (by decide +kernel) (by decide +kernel) (by simp[gB,gZ]) (λc s h=>by cases h.1) (by simp;rfl) ?_;refine wY [4] (by decide +kernel) (by decide) ?_;refine lY rfl (by simp;rfl) ?_ ?_
    ·
     refine wY [5] (by decide +kernel) (by decide) ?_;refine lY rfl (by simp;rfl) ?_ ?_
     ·
      refine wY [6] (by decide +kernel) (by decide) ?_;refine lY rfl (by simp;rfl) ?_ ?_
      ·
       refine tc 8 rfl (by decide +kernel) (by decide +kernel) (by simp[gB,gZ]) (λc s h=>by cases h.1) (by simp;rfl) ?_;exact Nk (by decide +kernel) ⟨rfl,bw.2 (by simp)⟩
      exact trivial
     exact trivial
    exact trivial
   refine lY rfl (by simp;rfl) ?_ ?_
   ·
    refine wY [2,5] (by decide +kernel) (by decide) ?_;refine lY rfl (by simp;rfl) ?_ ?_
    ·
     refine tc 7 rfl (by decide +kernel) (by decide +kernel) (by simp[gB,gZ]) (λc s h=>by cases h.1) (by simp;rfl) ?_;refine wY [5] (by decide +kernel) (by decide) ?_;refine lY rfl (by simp;rfl) ?_ ?_
     ·
      refine wY [6] (by decide +kernel) (by decide) ?_;refine lY rfl (by simp;rfl) ?_ ?_
      ·
       refine tc 8 rfl (by decide +kernel) (by decide +kernel) (by simp[gB,gZ]) (λc s h=>by cases h.1) (by simp;rfl) ?_;exact Nk (by decide +kernel) ⟨rfl,bw.2 (by simp)⟩
      exact trivial
     exact trivial
    refine lY rfl (by simp;rfl) ?_ ?_
    ·
     refine wY [2] (by decide +kernel) (by decide) ?_;refine lY rfl (by simp;rfl) ?_ ?_
     ·
      refine tc 7 rfl (by decide +kernel) (by decide +kernel) (by simp[gB,gZ]) (λc s h=>by cases h.1) (by simp;rfl) ?_;refine wY [6] (by decide +kernel) (by decide) ?_;refine lY rfl (by simp;rfl) ?_ ?_
      ·
       refine tc 8 rfl (by decide +kernel) (by decide +kernel) (by simp[gB,gZ]) (λc s h=>by cases h.1) (by simp;rfl) ?_;exact Nk (by decide +kernel) ⟨rfl,bw.2 (by simp)⟩
      exact trivial
     exact trivial
    exact trivial
   exact trivial
  ·
   cases h0;exact fo ⟨[7],by simp,rfl,by simp⟩
 ·refine aO (cA (λs2:Int×(List (Int×ab))=>(⟨27,[(1,.ptr 1 0),(4,.vec 7),(9,.d (.slice (ak au a0.aq))),(10,.d (.int .i64 ((a0.aq).length:Int))),(11,.d (.int .i64 s2.1))],[(1,(ay a0))],[(7,⟨bL 71 1 false true,9,ak (bB (aH .i64) au) s2.2⟩)]⟩:St)) jR cq λG1 s2 o1 h1 gY iq=>?_)
  unfold oq at h1;refine kR [1,4,9,10,11,12] ?_;refine aF ?_;refine cF (b:=(decide (s2.1 < ((a0.aq).length:Int)))) (by simp) (λc3=>?_) (λc3=>?_)
  ·rw[ai c3] at h1
   refine aN ?_;refine aF ?_;refine aO ?_;obtain⟨x3,p3,h1⟩:=bI h1;replace p3:=bD p3;have og:=p3;try simp at og
   refine kr [1,4,6,9,10,11] (by simp[p3,og];rfl) ?_;refine lr (by simp;rfl) ?_;refine lr (by simp;rfl) ?_;exact⟨_,gY _ (af h1),cq⟩
  ·rw[ah (by rw[c3];decide)] at h1
   refine bZ ?_;exact⟨_,iq _ (af h1),cq⟩
theorem zi {a0:ao} {a1:List (Int×ab)} {r:Bool} (h0:lS a0 a1=some r):dY Tryz.prog 47 [] [.agg (ay a0),.d (.mp (bL 71 1 false true) 9 (ak (bB (aH .i64) au) a1))] (.d (.bool r)) []:=by
 unfold lS at h0;refine dS (nt:=46) (rs:=[.tmp 4]) Tryz.func47 rfl Tryz.ntmps47 rfl (by simp) (by decide) rfl λK=>?_
 refine kR [1,2] ?_;refine kR [1,2,5] ?_;refine aF ?_;refine kR [1,5,10,11,12] ?_;obtain⟨e1,jR,h0⟩:=bI h0;refine oa (λv1:Unit=>(⟨46,[],[],[]⟩:St)) (λv1=>.inl v1=e1) (λv1 eP _ W1=>?_) ?_
 ·subst eP
  dsimp only at h0;refine dp W1 ?_;refine kR [4] ?_;cases h0;exact fM
 ·refine aO (cA (λs2:Int×(List (ByteArray×Bool))=>(⟨46,[(1,.d (.mp (bL 71 1 false true) 9 (ak (bB (aH .i64) au) a1))),(5,.vec 8),(10,.d (.slice (ak aT a0.aC))),(11,.d (.int .i64 ((a0.aC).length:Int))),(12,.d (.int .i64 s2.1))],[],[(8,⟨bL 87 1 false false,2,ak (bB mW gm) s2.2⟩)]⟩:St)) jR cq λG1 s2 o1 h1 gY iq=>?_)
  unfold lF at h1;refine kR [1,5,10,11,12,13] ?_;refine aF ?_;refine cF (b:=(decide (s2.1 < ((a0.aC).length:Int)))) (by simp) (λAp=>?_) (λAp=>?_)
  ·rw[ai Ap] at h1
   refine aN ?_;refine aF ?_;refine aO ?_;obtain⟨x3,p3,h1⟩:=bI h1;replace p3:=bD p3;have og:=p3;try simp at og
   refine kr [1,5,7,10,11,12] (by simp[p3,og];rfl) ?_;refine aF ?_;obtain⟨v4,ec,h1⟩:=bI h1;refine qF (λwg:Bool=>(⟨46,[(1,.d (.mp (bL 71 1 false true) 9 (ak (bB (aH .i64) au) a1))),(5,.vec 8),(7,.ptr 7 0),(10,.d (.slice (ak aT a0.aC))),(11,.d (.int .i64 ((a0.aC).length:Int))),(12,.d (.int .i64 s2.1)),(38,.d (.bool wg))],[(7,[.d (.int .i64 x3.Kind),.d (.str x3.Name),.d (.int .i64 x3.dI),.d (.int .i64 x3.Time)])],[(8,⟨bL 87 1 false false,2,ak (bB mW gm) s2.2⟩)]⟩:St)) (λwg=>v4=wg) (λwg e=>?_) ?_
   ·subst e
    refine gJ (v4) (λGx=>?_) (λGx=>?_)
    ·rw[ai Gx] at h1
     refine kR [4] ?_;have k1:=iq _ (af h1);subst k1;dsimp only at h0;cases h0;exact fM
    ·rw[ah (by rw[Gx];decide)] at h1
     refine aN ?_;refine lr (by simp;rfl) ?_;refine lr (by simp;rfl) ?_;exact⟨_,gY _ (af h1),cq⟩
   ·refine qH ?_
    refine kO [1,5,7,10,11,12,19] 4 ?_;refine bh 19 (x3.Kind==1) (by simp) (λDE=>?_) (λDE=>?_)
    ·rw[DE] at ec
     refine kO [1,5,7,10,11,12,20,21,22,23,24,25,27] 8 ?_;refine bh 27 ((((br cK a1 x3.dI).getD (⟨0,0,[],[],0,[],ByteArray.empty,0⟩:ab)).Kind) != 3) (by simp) (λDD=>?_) (λDD=>?_)
     ·rw[DD] at ec
      refine cU 10 [] (by kernel_rfl) ?_;refine kO [1,5,7,10,11,12,20,21,22,23,24,25,38] 1 ?_;refine ar ?_;cases ec;exact⟨_,rfl,cq⟩
     ·rw[DD] at ec
      refine kO [1,5,7,10,11,12,20,21,22,23,24,25,27,28,29,30,31] 4 ?_;refine bh 31 (x3.Kind==2) (by simp) (λI9=>?_) (λI9=>?_)
      ·rw[I9] at ec
       refine kO [1,5,7,10,11,12,20,21,22,23,24,25,28,29,30,31,32,33,34,35,36,37,38] 7 ?_;refine ar ?_;cases ec;exact⟨_,rfl,cq⟩
      ·rw[I9] at ec
       refine cU 5 [] (by kernel_rfl) ?_;refine kO [1,5,7,10,11,12,20,21,22,23,24,25,28,29,30,31,37,38] 2 ?_;refine ar ?_;cases ec;exact⟨_,rfl,cq⟩
    ·rw[DE] at ec
     refine cU 6 [] (by kernel_rfl) ?_;refine kO [1,5,7,10,11,12,27,28,29,30,31] 6 ?_;refine bh 31 (x3.Kind==2) (by simp) (λI8=>?_) (λI8=>?_)
     ·rw[I8] at ec
      refine kO [1,5,7,10,11,12,28,29,30,31,32,33,34,35,36,37,38] 7 ?_;refine ar ?_;cases ec;exact⟨_,rfl,cq⟩
     ·rw[I8] at ec
      refine cU 5 [] (by kernel_rfl) ?_;refine kO [1,5,7,10,11,12,28,29,30,31,37,38] 2 ?_;refine ar ?_;cases ec;exact⟨_,rfl,cq⟩
  ·rw[ah (by rw[Ap];decide)] at h1
   refine bZ ?_;exact⟨_,iq _ (af h1),cq⟩
theorem Aa {a0:az} {r:Bool} (h0:pf a0=some r):dY Tryz.prog 49 [] [.agg (mM a0)] (.d (.bool r)) []:=by
 unfold pf at h0;refine dS (nt:=11) (rs:=[.tmp 2]) Tryz.func49 rfl Tryz.ntmps49 rfl (by simp) (by decide) rfl λK=>?_
 refine kR [1] ?_;obtain⟨v1,ff,h0⟩:=bI h0;refine qF (λrl:Bool=>(⟨11,[(2,.d (.bool rl))],[],[]⟩:St)) (λrl=>v1=rl) (λrl e=>?_) ?_
 ·subst e
  cases h0;exact fM
 ·refine qH ?_
  refine kO [1,6] 4 ?_;refine bh 6 (decide (a0.Time < 0)) (by simp) (λc3=>?_) (λc3=>?_)
  ·rw[c3] at ff
   refine cU 3 [] (by kernel_rfl) ?_;refine kO [2] 2 ?_;refine ar ?_;cases ff;exact⟨_,rfl,cq⟩
  ·rw[c3] at ff
   refine kO [2] 5 ?_;refine ar ?_;cases ff;exact⟨_,rfl,cq⟩
theorem vY {a0:Int} {r:Bool} (h0:cmp_isNaN_int a0=some r):dY Tryz.prog 87 [] [.d (.int .i64 a0)] (.d (.bool r)) []:=by
 unfold cmp_isNaN_int at h0;refine dS (nt:=6) (rs:=[.tmp 2]) Tryz.func87 rfl Tryz.ntmps87 rfl (by simp) (by decide) rfl λK=>?_
 refine kR [0] ?_;refine kR [2] ?_;cases h0;exact fM
theorem Ak {a0:Int} {a1:Int} {r:Int} (h0:cmp_Compare_int a0 a1=some r):dY Tryz.prog 52 [] [.d (.int .i64 a0),.d (.int .i64 a1)] (.d (.int .i64 r)) []:=by
 unfold cmp_Compare_int at h0;refine dS (nt:=20) (rs:=[.tmp 4]) Tryz.func52 rfl Tryz.ntmps52 rfl (by simp) (by decide) rfl λK=>?_
 refine kR [0,1] ?_;refine kc ?_;refine kO [0,1,7] 1 ?_;obtain⟨y1,oC,h0⟩:=bI h0;refine ku [0,1,8] (vY oC) Tryz.call87 ?_;refine kO [0,1,5] 1 ?_;refine ar ?_;refine kc ?_;refine kO [0,1,5,9] 1 ?_;obtain⟨y2,DM,h0⟩:=bI h0;refine ku [0,1,5,10] (vY DM) Tryz.call87 ?_;refine kO [0,1,5,6] 1 ?_;refine ar ?_;refine aF ?_;refine kR [0,1,6,11] ?_;refine gJ (y1) (λc1=>?_) (λc1=>?_)
 ·rw[ai c1] at h0
  refine aF ?_;refine kR [12] ?_;refine gJ (y2) (λc2=>?_) (λc2=>?_)
  ·rw[ai c2] at h0
   refine kR [4] ?_;cases h0;exact fM
  ·rw[ah (by rw[c2];decide)] at h0
   refine aN ?_;refine kR [4] ?_;cases h0;exact fM
 ·rw[ah (by rw[c1];decide)] at h0
  refine aN ?_;refine aF ?_;refine kR [0,1,13] ?_;refine gJ (y2) (λc3=>?_) (λc3=>?_)
  ·rw[ai c3] at h0
   refine kR [4] ?_;cases h0;exact fM
  ·rw[ah (by rw[c3];decide)] at h0
   refine aN ?_;refine aF ?_;refine kR [0,1,16] ?_;refine gJ ((decide (a0 < a1))) (λc4=>?_) (λc4=>?_)
   ·rw[ai c4] at h0
    refine kR [4] ?_;cases h0;exact fM
   ·rw[ah (by rw[c4];decide)] at h0
    refine aN ?_;refine aF ?_;refine kR [19] ?_;refine gJ ((decide (a1 < a0))) (λc5=>?_) (λc5=>?_)
    ·rw[ai c5] at h0
     refine kR [4] ?_;cases h0;exact fM
    ·rw[ah (by rw[c5];decide)] at h0
     refine aN ?_;refine kR [4] ?_;cases h0;exact fM
theorem zZ {a0:az} {a1:az} {r:Int} (h0:pe a0 a1=some r):dY Tryz.prog 51 [] [.agg (mM a0),.agg (mM a1)] (.d (.int .i64 r)) []:=by
 unfold pe at h0;refine dS (nt:=10) (rs:=[.tmp 4]) Tryz.func51 rfl Tryz.ntmps51 rfl (by simp) (by decide) rfl λK=>?_
 refine kR [2,3] ?_;refine kc ?_;refine kO [6,8] 4 ?_;obtain⟨y1,oC,h0⟩:=bI h0;refine ku [9] (Ak oC) Tryz.call52 ?_;refine kO [4] 1 ?_;refine ar ?_;cases h0;exact fM
theorem kg {a0:List ab} {r:Int} (h0:ef a0=some r):dY Tryz.prog 76 [] [.d (.slice (ak au a0)),.fn 41 []] (.d (.int .i64 r)) []:=by
 unfold ef at h0;refine dS (nt:=19) (rs:=[.tmp 4]) Tryz.func76 rfl Tryz.ntmps76 rfl (by simp) (by decide) rfl λK=>?_
 refine kR [0,1] ?_;refine aF ?_;refine kR [0,1,7,8] ?_;obtain⟨e1,jR,h0⟩:=bI h0;refine oa (λv1:Unit=>(⟨19,[],[],[]⟩:St)) (λv1=>.inl v1=e1) (λv1 eP _ W1=>?_) ?_
 ·subst eP
  dsimp only at h0;refine dp W1 ?_;refine kR [4] ?_;cases h0;exact fM
 ·refine aO (cA (λs2:Int=>(⟨19,[(0,.d (.slice (ak au a0))),(1,.fn 41 []),(7,.d (.int .i64 ((a0).length:Int))),(8,.d (.int .i64 s2))],[],[]⟩:St)) jR cq λG1 s2 o1 h1 gY iq=>?_)
  unfold dt at h1;refine kR [0,1,7,8,9] ?_;refine aF ?_;refine cF (b:=(decide (s2 < ((a0).length:Int)))) (by simp) (λc5=>?_) (λc5=>?_)
  ·rw[ai c5] at h1
   refine aN ?_;refine aF ?_;refine aO ?_;refine kR [0,1,5,7,8] ?_;refine kc ?_;obtain⟨x3,p3,h1⟩:=bI h1;replace p3:=bD p3;have og:=p3;try simp at og
   refine ko [0,1,5,7,8,11,15] 5 (by simp[p3,og];rfl) ?_;obtain⟨y4,zh,h1⟩:=bI h1;refine jQ [0,1,5,7,8,16] [] [] [] (Ab zh) rfl rfl rfl Tryz.call41 (by simp) (by simp;rfl) ?_;refine ar ?_;refine gJ (y4) (λc6=>?_) (λc6=>?_)
   ·rw[ai c6] at h1
    refine kR [4] ?_;have k1:=iq _ (af h1);subst k1;dsimp only at h0;cases h0;exact fM
   ·rw[ah (by rw[c6];decide)] at h1
    refine aN ?_;refine lr (by simp;rfl) ?_;exact⟨_,gY _ (af h1),cq⟩
  ·rw[ah (by rw[c5];decide)] at h1
   refine bZ ?_;exact⟨_,iq _ (af h1),cq⟩
theorem jv {a0:List ab} {r:Bool} (h0:dv a0=some r):dY Tryz.prog 40 [] [.d (.slice (ak au a0)),.fn 41 []] (.d (.bool r)) []:=by
 unfold dv at h0;refine dS (nt:=9) (rs:=[.tmp 4]) Tryz.func40 rfl Tryz.ntmps40 rfl (by simp) (by decide) rfl λK=>?_
 refine kR [0,1] ?_;refine kc ?_;refine kO [5,6] 2 ?_;obtain⟨y1,oC,h0⟩:=bI h0;refine ku [7] (kg oC) Tryz.call76 ?_;refine kO [4] 2 ?_;refine ar ?_;cases h0;exact fM
theorem kf {a0:List az} {r:Int} (h0:ee a0=some r):dY Tryz.prog 79 [] [.d (.slice (ak aT a0)),.fn 44 []] (.d (.int .i64 r)) []:=by
 unfold ee at h0;refine dS (nt:=19) (rs:=[.tmp 4]) Tryz.func79 rfl Tryz.ntmps79 rfl (by simp) (by decide) rfl λK=>?_
 refine kR [0,1] ?_;refine aF ?_;refine kR [0,1,7,8] ?_;obtain⟨e1,jR,h0⟩:=bI h0;refine oa (λv1:Unit=>(⟨19,[],[],[]⟩:St)) (λv1=>.inl v1=e1) (λv1 eP _ W1=>?_) ?_
 ·subst eP
  dsimp only at h0;refine dp W1 ?_;refine kR [4] ?_;cases h0;exact fM
 ·refine aO (cA (λs2:Int=>(⟨19,[(0,.d (.slice (ak aT a0))),(1,.fn 44 []),(7,.d (.int .i64 ((a0).length:Int))),(8,.d (.int .i64 s2))],[],[]⟩:St)) jR cq λG1 s2 o1 h1 gY iq=>?_)
  unfold dq at h1;refine kR [0,1,7,8,9] ?_;refine aF ?_;refine cF (b:=(decide (s2 < ((a0).length:Int)))) (by simp) (λc5=>?_) (λc5=>?_)
  ·rw[ai c5] at h1
   refine aN ?_;refine aF ?_;refine aO ?_;refine kR [0,1,5,7,8] ?_;refine kc ?_;obtain⟨x3,p3,h1⟩:=bI h1;replace p3:=bD p3;have og:=p3;try simp at og
   refine ko [0,1,5,7,8,11,15] 5 (by simp[p3,og];rfl) ?_;obtain⟨y4,zh,h1⟩:=bI h1;refine jQ [0,1,5,7,8,16] [] [] [] (Ch zh) rfl rfl rfl Tryz.call44 (by simp) (by simp;rfl) ?_;refine ar ?_;refine gJ (y4) (λc6=>?_) (λc6=>?_)
   ·rw[ai c6] at h1
    refine kR [4] ?_;have k1:=iq _ (af h1);subst k1;dsimp only at h0;cases h0;exact fM
   ·rw[ah (by rw[c6];decide)] at h1
    refine aN ?_;refine lr (by simp;rfl) ?_;exact⟨_,gY _ (af h1),cq⟩
  ·rw[ah (by rw[c5];decide)] at h1
   refine bZ ?_;exact⟨_,iq _ (af h1),cq⟩
theorem ju {a0:List az} {r:Bool} (h0:du a0=some r):dY Tryz.prog 43 [] [.d (.slice (ak aT a0)),.fn 44 []] (.d (.bool r)) []:=by
 unfold du at h0;refine dS (nt:=9) (rs:=[.tmp 4]) Tryz.func43 rfl Tryz.ntmps43 rfl (by simp) (by decide) rfl λK=>?_
 refine kR [0,1] ?_;refine kc ?_;refine kO [5,6] 2 ?_;obtain⟨y1,oC,h0⟩:=bI h0;refine ku [7] (kf oC) Tryz.call79 ?_;refine kO [4] 2 ?_;refine ar ?_;cases h0;exact fM
theorem zY {a0:List (Int×ab)} {a1:ab} {r:Bool} (h0:mJ a0 a1=some r):dY Tryz.prog 46 [] [.d (.mp (bL 71 1 false true) 9 (ak (bB (aH .i64) au) a0)),.agg (bc a1)] (.d (.bool r)) []:=by
 unfold mJ at h0;refine dS (nt:=53) (rs:=[.tmp 4]) Tryz.func46 rfl Tryz.ntmps46 rfl (by simp) (by decide) rfl λK=>?_
 refine kR [0,3] ?_;refine aF ?_;refine kR [0,3,11,12,13] ?_;obtain⟨e1,jR,h0⟩:=bI h0;refine oa (λv1:Unit=>(⟨53,[(0,.d (.mp (bL 71 1 false true) 9 (ak (bB (aH .i64) au) a0))),(3,.ptr 3 0)],[(3,(bc a1))],[]⟩:St)) (λv1=>.inl v1=e1) (λv1 eP _ W1=>?_) ?_
 ·subst eP
  dsimp only at h0;refine dp W1 ?_;refine aF ?_;refine kR [0,3,30,31,32] ?_;obtain⟨e2,Gt,h0⟩:=bI h0;refine oa (λv2:Unit=>(⟨53,[(0,.d (.mp (bL 71 1 false true) 9 (ak (bB (aH .i64) au) a0))),(3,.ptr 3 0)],[(3,(bc a1))],[]⟩:St)) (λv2=>.inl v2=e2) (λv2 vo _ W2=>?_) ?_
  ·subst vo
   dsimp only at h0;refine dp W2 ?_;obtain⟨v3,oR,h0⟩:=bI h0;refine qF (λHS:Bool=>(⟨53,[(4,.d (.bool HS))],[],[]⟩:St)) (λHS=>v3=HS) (λHS e=>?_) ?_
   ·subst e
    cases h0;exact fM
   ·refine qH ?_
    refine kO [0,3,45] 4 ?_;refine bh 45 (a1.Kind==3) (by simp) (λAp=>?_) (λAp=>?_)
    ·rw[Ap] at oR
     refine kO [4] 8 ?_;refine ar ?_;cases oR;exact⟨_,rfl,cq⟩
    ·rw[Ap] at oR
     refine cU 6 [] (by kernel_rfl) ?_;refine kO [4] 2 ?_;refine ar ?_;cases oR;exact⟨_,rfl,cq⟩
  ·refine aO (cA (λs4:Int=>(⟨53,[(0,.d (.mp (bL 71 1 false true) 9 (ak (bB (aH .i64) au) a0))),(3,.ptr 3 0),(30,.d (.slice (ak (aH .i64) a1.bf))),(31,.d (.int .i64 ((a1.bf).length:Int))),(32,.d (.int .i64 s4))],[(3,(bc a1))],[]⟩:St)) Gt cq λG2 s4 o2 h2 vR xt=>?_)
   unfold mo at h2;refine kR [0,3,30,31,32,33] ?_;refine aF ?_;refine cF (b:=(decide (s4 < ((a1.bf).length:Int)))) (by simp) (λFH=>?_) (λFH=>?_)
   ·rw[ai FH] at h2
    refine aN ?_;refine aF ?_;refine aO ?_;obtain⟨x5,p5,h2⟩:=bI h2;replace p5:=bD p5;have Qv:=p5;try simp at Qv
    refine kr [0,3,9,30,31,32] (by simp[p5,Qv];rfl) ?_;refine kR [0,3,30,31,32,40] ?_;refine cF (b:=((((br cK a0 x5).getD (⟨0,0,[],[],0,[],ByteArray.empty,0⟩:ab)).Kind) != 3)) (by simp) (λCw=>?_) (λCw=>?_)
    ·rw[ai Cw] at h2
     refine kR [4] ?_;have k1:=xt _ (af h2);subst k1;dsimp only at h0;cases h0;exact fM
    ·rw[ah (by rw[Cw];decide)] at h2
     refine aN ?_;refine lr (by simp;rfl) ?_;exact⟨_,vR _ (af h2),cq⟩
   ·rw[ah (by rw[FH];decide)] at h2
    refine bZ ?_;exact⟨_,xt _ (af h2),cq⟩
 ·refine aO (cA (λs8:Int=>(⟨53,[(0,.d (.mp (bL 71 1 false true) 9 (ak (bB (aH .i64) au) a0))),(3,.ptr 3 0),(11,.d (.slice (ak aw a1.bd))),(12,.d (.int .i64 ((a1.bd).length:Int))),(13,.d (.int .i64 s8))],[(3,(bc a1))],[]⟩:St)) jR cq λG2 s8 o2 h2 vR xt=>?_)
  unfold mq at h2;refine kR [0,3,11,12,13,14] ?_;refine aF ?_;refine cF (b:=(decide (s8 < ((a1.bd).length:Int)))) (by simp) (λAo=>?_) (λAo=>?_)
  ·rw[ai Ao] at h2
   refine aN ?_;refine aF ?_;refine aO ?_;obtain⟨x9,p6,h2⟩:=bI h2;replace p6:=bD p6;have WO:=p6;try simp at WO
   refine kr [0,3,6,11,12,13] (by simp[p6,WO];rfl) ?_;refine kR [0,3,7,11,12,13] ?_;obtain⟨v10,N9,h2⟩:=bI h2;refine qF (λUU:Bool=>(⟨53,[(0,.d (.mp (bL 71 1 false true) 9 (ak (bB (aH .i64) au) a0))),(3,.ptr 3 0),(11,.d (.slice (ak aw a1.bd))),(12,.d (.int .i64 ((a1.bd).length:Int))),(13,.d (.int .i64 s8)),(27,.d (.bool UU))],[(3,(bc a1))],[]⟩:St)) (λUU=>v10=UU) (λUU e=>?_) ?_
   ·subst e
    refine gJ (v10) (λAn=>?_) (λAn=>?_)
    ·rw[ai An] at h2
     refine kR [4] ?_;have k1:=xt _ (af h2);subst k1;dsimp only at h0;cases h0;exact fM
    ·rw[ah (by rw[An];decide)] at h2
     refine aN ?_;refine lr (by simp;rfl) ?_;exact⟨_,vR _ (af h2),cq⟩
   ·refine qH ?_
    refine kO [0,3,7,11,12,13,24] 3 ?_;refine bh 24 ((((br cK a0 x9.ID).getD (⟨0,0,[],[],0,[],ByteArray.empty,0⟩:ab)).Kind) != 1) (by simp) (λFF=>?_) (λFF=>?_)
    ·rw[FF] at N9
     refine kO [0,3,11,12,13,25,26,27] 3 ?_;refine ar ?_;cases N9;exact⟨_,rfl,cq⟩
    ·rw[FF] at N9
     refine kO [0,3,11,12,13,25,26,27] 3 ?_;refine ar ?_;cases N9;exact⟨_,rfl,cq⟩
  ·rw[ah (by rw[Ao];decide)] at h2
   refine bZ ?_;exact⟨_,xt _ (af h2),cq⟩
theorem xq {a0:ab} {a1:List (Int×ab)} {r:Bool×(List (Int×ab))} (h0:mu a0 a1=some r):dY Tryz.prog 45 [[.d (.mp (bL 71 1 false true) 9 (ak (bB (aH .i64) au) a1))]] [.agg (bc a0),.ptr (sq 0) 0] (.d (.bool r.1)) [[.d (.mp (bL 71 1 false true) 9 (ak (bB (aH .i64) au) r.2))]]:=by
 unfold mu at h0;refine dS (nt:=7) (rs:=[.tmp 3]) Tryz.func45 rfl Tryz.ntmps45 rfl (by simp) (by decide) rfl λK=>?_
 refine kR [1,2] ?_;refine kc ?_;refine kO [4,5] 2 ?_;obtain⟨y1,oC,h0⟩:=bI h0;refine ku [6] (zY oC) Tryz.call46 ?_;refine kO [3] 1 ?_;refine ar ?_;cases h0;exact fM
theorem jB {a0:List ab} {b10:List (Int×ab)} {r:Int×(List (Int×ab))} (h0:dU a0 b10=some r):dY Tryz.prog 76 [[.d (.mp (bL 71 1 false true) 9 (ak (bB (aH .i64) au) b10))]] [.d (.slice (ak au a0)),.fn 45 [.ptr (sq 0) 0]] (.d (.int .i64 r.1)) [[.d (.mp (bL 71 1 false true) 9 (ak (bB (aH .i64) au) r.2))]]:=by
 unfold dU at h0;refine dS (nt:=19) (rs:=[.tmp 4]) Tryz.func76 rfl Tryz.ntmps76 rfl (by simp) (by decide) rfl λK=>?_
 refine kR [0,1] ?_;refine aF ?_;refine kR [0,1,7,8] ?_;obtain⟨e1,jR,h0⟩:=bI h0;refine oa (λv1:(List (Int×ab))=>(⟨19,[],[(1000000,[.d (.mp (bL 71 1 false true) 9 (ak (bB (aH .i64) au) v1))])],[]⟩:St)) (λv1=>.inl v1=e1) (λv1 eP _ W1=>?_) ?_
 ·subst eP
  dsimp only at h0;refine dp W1 ?_;refine kR [4] ?_;cases h0;exact fM
 ·refine aO (cA (λs2:Int×(List (Int×ab))=>(⟨19,[(0,.d (.slice (ak au a0))),(1,.fn 45 [.ptr 1000000 0]),(7,.d (.int .i64 ((a0).length:Int))),(8,.d (.int .i64 s2.1))],[(1000000,[.d (.mp (bL 71 1 false true) 9 (ak (bB (aH .i64) au) s2.2))])],[]⟩:St)) jR cq λG1 s2 o1 h1 gY iq=>?_)
  unfold cz at h1;refine kR [0,1,7,8,9] ?_;refine aF ?_;refine cF (b:=(decide (s2.1 < ((a0).length:Int)))) (by simp) (λc5=>?_) (λc5=>?_)
  ·rw[ai c5] at h1
   refine aN ?_;refine aF ?_;refine aO ?_;refine kR [0,1,5,7,8] ?_;refine kc ?_;obtain⟨x3,p3,h1⟩:=bI h1;replace p3:=bD p3;have og:=p3;try simp at og
   refine ko [0,1,5,7,8,11,15] 5 (by simp[p3,og];rfl) ?_;obtain⟨y4,zh,h1⟩:=bI h1;refine jQ [0,1,5,7,8,16] [1000000] [] [] (xq zh) rfl rfl rfl Tryz.call45 (by simp) (by simp;rfl) ?_;refine ar ?_;refine gJ (y4.1) (λc6=>?_) (λc6=>?_)
   ·rw[ai c6] at h1
    refine kR [4] ?_;have k1:=iq _ (af h1);subst k1;dsimp only at h0;cases h0;exact fM
   ·rw[ah (by rw[c6];decide)] at h1
    refine aN ?_;refine lr (by simp;rfl) ?_;exact⟨_,gY _ (af h1),cq⟩
  ·rw[ah (by rw[c5];decide)] at h1
   refine bZ ?_;exact⟨_,iq _ (af h1),cq⟩
theorem jk {a0:List ab} {b10:List (Int×ab)} {r:Bool×(List (Int×ab))} (h0:db a0 b10=some r):dY Tryz.prog 40 [[.d (.mp (bL 71 1 false true) 9 (ak (bB (aH .i64) au) b10))]] [.d (.slice (ak au a0)),.fn 45 [.ptr (sq 0) 0]] (.d (.bool r.1)) [[.d (.mp (bL 71 1 false true) 9 (ak (bB (aH .i64) au) r.2))]]:=by
 unfold db at h0;refine dS (nt:=9) (rs:=[.tmp 4]) Tryz.func40 rfl Tryz.ntmps40 rfl (by simp) (by decide) rfl λK=>?_
 refine kR [0,1] ?_;refine kc ?_;refine kO [5,6] 2 ?_;obtain⟨y1,oC,h0⟩:=bI h0;refine jg [7] [1000000] (jB oC) rfl rfl rfl Tryz.call76 (by simp) (by simp;rfl) ?_;refine kO [4] 2 ?_;refine ar ?_;cases h0;exact fM
theorem jA {a0:List az} {r:Int} (h0:dT a0=some r):dY Tryz.prog 79 [] [.d (.slice (ak aT a0)),.fn 49 []] (.d (.int .i64 r)) []:=by
 unfold dT at h0;refine dS (nt:=19) (rs:=[.tmp 4]) Tryz.func79 rfl Tryz.ntmps79 rfl (by simp) (by decide) rfl λK=>?_
 refine kR [0,1] ?_;refine aF ?_;refine kR [0,1,7,8] ?_;obtain⟨e1,jR,h0⟩:=bI h0;refine oa (λv1:Unit=>(⟨19,[],[],[]⟩:St)) (λv1=>.inl v1=e1) (λv1 eP _ W1=>?_) ?_
 ·subst eP
  dsimp only at h0;refine dp W1 ?_;refine kR [4] ?_;cases h0;exact fM
 ·refine aO (cA (λs2:Int=>(⟨19,[(0,.d (.slice (ak aT a0))),(1,.fn 49 []),(7,.d (.int .i64 ((a0).length:Int))),(8,.d (.int .i64 s2))],[],[]⟩:St)) jR cq λG1 s2 o1 h1 gY iq=>?_)
  unfold cZ at h1;refine kR [0,1,7,8,9] ?_;refine aF ?_;refine cF (b:=(decide (s2 < ((a0).length:Int)))) (by simp) (λc5=>?_) (λc5=>?_)
  ·rw[ai c5] at h1
   refine aN ?_;refine aF ?_;refine aO ?_;refine kR [0,1,5,7,8] ?_;refine kc ?_;obtain⟨x3,p3,h1⟩:=bI h1;replace p3:=bD p3;have og:=p3;try simp at og
   refine ko [0,1,5,7,8,11,15] 5 (by simp[p3,og];rfl) ?_;obtain⟨y4,zh,h1⟩:=bI h1;refine jQ [0,1,5,7,8,16] [] [] [] (Aa zh) rfl rfl rfl Tryz.call49 (by simp) (by simp;rfl) ?_;refine ar ?_;refine gJ (y4) (λc6=>?_) (λc6=>?_)
   ·rw[ai c6] at h1
    refine kR [4] ?_;have k1:=iq _ (af h1);subst k1;dsimp only at h0;cases h0;exact fM
   ·rw[ah (by rw[c6];decide)] at h1
    refine aN ?_;refine lr (by simp;rfl) ?_;exact⟨_,gY _ (af h1),cq⟩
  ·rw[ah (by rw[c5];decide)] at h1
   refine bZ ?_;exact⟨_,iq _ (af h1),cq⟩
theorem jj {a0:List az} {r:Bool} (h0:da a0=some r):dY Tryz.prog 43 [] [.d (.slice (ak aT a0)),.fn 49 []] (.d (.bool r)) []:=by
 unfold da at h0;refine dS (nt:=9) (rs:=[.tmp 4]) Tryz.func43 rfl Tryz.ntmps43 rfl (by simp) (by decide) rfl λK=>?_
 refine kR [0,1] ?_;refine kc ?_;refine kO [5,6] 2 ?_;obtain⟨y1,oC,h0⟩:=bI h0;refine ku [7] (jA oC) Tryz.call79 ?_;refine kO [4] 2 ?_;refine ar ?_;cases h0;exact fM
theorem ji {a0:List az} {r:Bool} (h0:cY a0=some r):dY Tryz.prog 50 [] [.d (.slice (ak aT a0)),.fn 51 []] (.d (.bool r)) []:=by
 unfold cY at h0;refine dS (nt:=25) (rs:=[.tmp 4]) Tryz.func50 rfl Tryz.ntmps50 rfl (by simp) (by decide) rfl λK=>?_
 refine kR [0,1] ?_;refine aF ?_;refine kR [0,1,5] ?_;obtain⟨e1,jR,h0⟩:=bI h0;refine oa (λv1:Unit=>(⟨25,[],[],[]⟩:St)) (λv1=>.inl v1=e1) (λv1 eP _ W1=>?_) ?_
 ·subst eP
  dsimp only at h0;refine dp W1 ?_;refine kR [4] ?_;cases h0;exact fM
 ·refine aO (cA (λs2:Int=>(⟨25,[(0,.d (.slice (ak aT a0))),(1,.fn 51 []),(5,.d (.int .i64 s2))],[],[]⟩:St)) jR cq λG1 s2 o1 h1 gY iq=>?_)
  unfold bG at h1;refine aF ?_;refine kR [0,1,5,10] ?_;refine gJ ((decide (0 < s2))) (λc5=>?_) (λc5=>?_)
  ·rw[ai c5] at h1
   refine aN ?_;refine aF ?_;refine aO ?_;refine kd [[],[],[],[1,2],[3],[],[],[6],[5,7],[8],[0,4,9],[10]] [] [] none [] 12 sZ (by decide +kernel) (by simp) ?_;obtain⟨x3,qY,h1⟩:=bI h1;replace qY:=bD qY;have oD:=qY;try simp at oD
   obtain⟨x4,oh,h1⟩:=bI h1;replace oh:=bD oh;have jb:=oh;try simp at jb
   refine bj 0 2 rfl (by simp (maxSteps:=1000000) [qY,oh,oD,jb];rfl) ?_;refine bj 2 2 rfl (by simp (maxSteps:=1000000) [qY,oh,oD,jb];rfl) ?_;refine bj 4 2 rfl (by simp (maxSteps:=1000000) [qY,oh,oD,jb];rfl) ?_;refine bj 6 2 rfl (by simp (maxSteps:=1000000) [qY,oh,oD,jb];rfl) ?_;refine bj 8 2 rfl (by simp (maxSteps:=1000000) [qY,oh,oD,jb];rfl) ?_;obtain⟨y5,IB,h1⟩:=bI h1;refine iu 10 [] (zZ IB) rfl rfl rfl rfl rfl Tryz.call51 (by simp) ?_;refine bj 11 1 rfl (by simp (maxSteps:=1000000);rfl) ?_;refine fu rfl (ar ?_);refine gJ ((decide (y5 < 0))) (λc6=>?_) (λc6=>?_)
   ·rw[ai c6] at h1
    refine kR [4] ?_;have k1:=iq _ (af h1);subst k1;dsimp only at h0;cases h0;exact fM
   ·rw[ah (by rw[c6];decide)] at h1
    refine aN ?_;refine lr (by simp;rfl) ?_;exact⟨_,gY _ (af h1),cq⟩
  ·rw[ah (by rw[c5];decide)] at h1
   refine bZ ?_;exact⟨_,iq _ (af h1),cq⟩
theorem rf {a0:ao} {r:Int} (h0:jy a0=some r):dY Tryz.prog 25 [] [.agg (ay a0)] (.d (.int .i64 r)) []:=by
 unfold jy at h0;refine dS (nt:=77) (rs:=[.tmp 2]) Tryz.func25 rfl Tryz.ntmps25 rfl (by simp) (by decide) rfl λK=>?_
 refine kR [1] ?_;refine aF ?_;obtain⟨v1,ff,h0⟩:=bI h0;refine qF (λrl:Bool=>(⟨77,[(1,.ptr 1 0),(17,.d (.bool rl))],[(1,(ay a0))],[]⟩:St)) (λrl=>v1=rl) (λrl e=>?_) ?_
 ·subst e
  refine gJ (v1) (λc3=>?_) (λc3=>?_)
  ·rw[ai c3] at h0
   refine kR [2] ?_;cases h0;exact fM
  ·rw[ah (by rw[c3];decide)] at h0
   refine aN ?_;refine aF ?_;obtain⟨v2,eE,h0⟩:=bI h0;refine qF (λsR:Bool=>(⟨77,[(1,.ptr 1 0),(25,.d (.bool sR))],[(1,(ay a0))],[]⟩:St)) (λsR=>v2=sR) (λsR e=>?_) ?_
   ·subst e
    refine gJ (v2) (λc6=>?_) (λc6=>?_)
    ·rw[ai c6] at h0
     refine kR [2] ?_;cases h0;exact fM
    ·rw[ah (by rw[c6];decide)] at h0
     refine aN ?_;refine kc ?_;refine kO [1,27] 1 ?_;obtain⟨y3,Ce,h0⟩:=bI h0;refine ku [1,28] (vQ Ce) Tryz.call38 ?_;refine kO [1,3,4] 6 ?_;refine ar ?_;refine aF ?_;refine aO ?_;refine kR [1,3,31] ?_;refine gJ ((!y3.2)) (λc7=>?_) (λc7=>?_)
     ·rw[ai c7] at h0
      refine kR [2] ?_;cases h0;exact fM
     ·rw[ah (by rw[c7];decide)] at h0
      obtain⟨v4,ec,h0⟩:=bI h0;refine qF (λwg:Bool×(List (Int×ab))=>(⟨77,[(1,.ptr 1 0),(3,.ptr 3 0),(34,.d (.bool wg.1))],[(1,(ay a0)),(3,[.d (.mp (bL 71 1 false true) 9 (ak (bB (aH .i64) au) wg.2))])],[]⟩:St)) (λwg=>v4=wg) (λwg e=>?_) ?_
      ·subst e
       refine gJ (v4.1) (λFI=>?_) (λFI=>?_)
       ·rw[ai FI] at h0
        refine kR [2] ?_;cases h0;exact fM
       ·rw[ah (by rw[FI];decide)] at h0
        refine kc ?_;refine kO [1,45] 1 ?_;obtain⟨y5,IB,h0⟩:=bI h0;refine ku [1,46] (Ci IB) Tryz.call48 ?_;refine kO [1,44] 1 ?_;refine ar ?_;refine gJ (y5) (λCy=>?_) (λCy=>?_)
        ·rw[ai Cy] at h0
         refine kR [2] ?_;cases h0;exact fM
        ·rw[ah (by rw[Cy];decide)] at h0
         refine kc ?_;refine kO [1,49] 2 ?_;obtain⟨y6,Gm,h0⟩:=bI h0;refine ku [1,50] (jj Gm) Tryz.call43 ?_;refine kO [1,47] 1 ?_;refine ar ?_;refine gJ (y6) (λCx=>?_) (λCx=>?_)
         ·rw[ai Cx] at h0
          refine kR [2] ?_;cases h0;exact fM
         ·rw[ah (by rw[Cx];decide)] at h0
          refine kc ?_;refine kO [1,53] 2 ?_;obtain⟨y7,MJ,h0⟩:=bI h0;refine ku [1,54] (ji MJ) Tryz.call50 ?_;refine kO [1,51] 2 ?_;refine ar ?_;refine gJ ((!y7)) (λAp=>?_) (λAp=>?_)
          ·rw[ai Ap] at h0
           refine kR [2] ?_;cases h0;exact fM
          ·rw[ah (by rw[Ap];decide)] at h0
           refine aN ?_;refine kR [1,5] ?_;refine aF ?_;refine kR [5,58,59,60] ?_;obtain⟨e1,jR,h0⟩:=bI h0;refine oa (λv8:Unit=>(⟨77,[],[],[]⟩:St)) (λv8=>.inl v8=e1) (λv8 eP _ W1=>?_) ?_
           ·subst eP
            dsimp only at h0;refine dp W1 ?_;refine kR [2] ?_;cases h0;exact fM
           ·refine aO (cA (λs9:Int×(List (ByteArray×Bool))=>(⟨77,[(5,.vec 56),(58,.d (.slice (ak aT a0.aC))),(59,.d (.int .i64 ((a0.aC).length:Int))),(60,.d (.int .i64 s9.1))],[],[(56,⟨bL 87 1 false false,2,ak (bB mW gm) s9.2⟩)]⟩:St)) jR cq λG1 s9 o1 h1 gY iq=>?_)
            unfold lT at h1;refine kR [5,58,59,60,61] ?_;refine aF ?_;refine cF (b:=(decide (s9.1 < ((a0.aC).length:Int)))) (by simp) (λFF=>?_) (λFF=>?_)
            ·rw[ai FF] at h1
             refine aN ?_;refine aF ?_;refine aO ?_;obtain⟨wo,p3,h1⟩:=bI h1;replace p3:=bD p3;have og:=p3;try simp at og
             refine kr [5,7,58,59,60] (by simp[p3,og];rfl) ?_;refine qF (λv11:(List (ByteArray×Bool))=>(⟨77,[(5,.vec 56),(58,.d (.slice (ak aT a0.aC))),(59,.d (.int .i64 ((a0.aC).length:Int))),(60,.d (.int .i64 s9.1))],[],[(56,⟨bL 87 1 false false,2,ak (bB mW gm) v11⟩)]⟩:St)) (λv11=>jD s9 v11=some o1) (λv11 h1=>?_) ?_
             ·unfold jD at h1
              refine kR [5,58,59,60,75] ?_;refine cF (b:=(decide (32 < ((v11).length:Int)))) (by simp) (λGx=>?_) (λGx=>?_)
              ·rw[ai Gx] at h1
               refine kR [2] ?_;have k1:=iq _ (af h1);subst k1;dsimp only at h0;cases h0;exact fM
              ·rw[ah (by rw[Gx];decide)] at h1
               refine aN ?_;refine lr (by simp;rfl) ?_;exact⟨_,gY _ (af h1),cq⟩
             ·refine kR [5,7,58,59,60,66] ?_
              refine gJ ((wo.Kind==1)) (λDE=>?_) (λDE=>?_)
              ·rw[ai DE] at h1
               refine lr (by simp;rfl) ?_;exact⟨_,h1,cq⟩
              ·rw[ah (by rw[DE];decide)] at h1
               refine lr (by simp;rfl) ?_;exact⟨_,h1,cq⟩
            ·rw[ah (by rw[FF];decide)] at h1
             refine bZ ?_;exact⟨_,iq _ (af h1),cq⟩
      ·refine qH ?_
       refine kO [1,3,36,37] 3 ?_;obtain⟨Z8,afl,ec⟩:=bI ec;refine jg [1,3,38] [3] (jk afl) rfl rfl rfl Tryz.call40 (by simp) (by simp;rfl) ?_;refine kO [1,3,39] 1 ?_;refine bh 39 Z8.1 (by simp) (λDD=>?_) (λDD=>?_)
       ·rw[ai DD] at ec
        refine cU 3 [] (by kernel_rfl) ?_;refine kO [1,3,34] 2 ?_;refine ar ?_;cases ec;exact⟨_,rfl,cq⟩
       ·rw[ah (by rw[DD];decide)] at ec
        refine kO [1,3,39,40,41] 2 ?_;obtain⟨y15,afk,ec⟩:=bI ec;refine ku [1,3,39,42] (zi afk) Tryz.call47 ?_;refine kO [1,3,34] 2 ?_;refine ar ?_;cases ec;exact⟨_,rfl,cq⟩
   ·refine qH ?_
    refine kO [1,19] 2 ?_;obtain⟨LA,SE,eE⟩:=bI eE;refine ku [1,20] (jv SE) Tryz.call40 ?_;refine kO [1,21] 1 ?_;refine bh 21 LA (by simp) (λI9=>?_) (λI9=>?_)
    ·rw[ai I9] at eE
     refine cU 3 [] (by kernel_rfl) ?_;refine kO [1,25] 1 ?_;refine ar ?_;cases eE;exact⟨_,rfl,cq⟩
    ·rw[ah (by rw[I9];decide)] at eE
     refine kO [1,21,23] 2 ?_;obtain⟨XU,SD,eE⟩:=bI eE;refine ku [1,21,24] (ju SD) Tryz.call43 ?_;refine kO [1,25] 1 ?_;refine ar ?_;cases eE;exact⟨_,rfl,cq⟩
 ·refine qH ?_
  refine kO [1,12] 5 ?_;refine bh 12 (decide (400 < ((a0.aq).length:Int))) (by simp) (λI8=>?_) (λI8=>?_)
  ·rw[I8] at ff
   refine cU 4 [] (by kernel_rfl) ?_;refine kO [1,17] 1 ?_;refine ar ?_;cases ff;exact⟨_,rfl,cq⟩
  ·rw[I8] at ff
   refine kO [1,17] 5 ?_;refine ar ?_;cases ff;exact⟨_,rfl,cq⟩
theorem Dx {a0:ao} {a1:Int} {r:(List (ByteArray×Int))} (h0:qv a0 a1=some r):dY Tryz.prog 91 [] [.agg (ay a0),.d (.int .i64 a1)] (.d (.mp (bL 134 1 false false) 2 (ak (bB mW (aH .i64)) r))) []:=by
 unfold qv at h0;refine dS (nt:=33) (rs:=[.tmp 4]) Tryz.func91 rfl Tryz.ntmps91 rfl (by simp) (by decide) rfl λK=>?_
 refine kR [1,2] ?_;refine kR [1,2,5] ?_;refine aF ?_;refine kR [1,5,10,11,12] ?_;obtain⟨e1,jR,h0⟩:=bI h0;refine oa (λv1:(List (ByteArray×Int))=>(⟨33,[(5,.vec 8)],[],[(8,⟨bL 134 1 false false,2,ak (bB mW (aH .i64)) v1⟩)]⟩:St)) (λv1=>v1=e1) (λv1 eP _ W1=>?_) ?_
 ·subst eP
  refine dp W1 ?_;refine kR [4] ?_;cases h0;exact fo ⟨[8],by simp,rfl,by simp⟩
 ·refine aO (cA (λs2:Int×(List (ByteArray×Int))=>(⟨33,[(1,.d (.int .i64 a1)),(5,.vec 8),(10,.d (.slice (ak aT a0.aC))),(11,.d (.int .i64 ((a0.aC).length:Int))),(12,.d (.int .i64 s2.1))],[],[(8,⟨bL 134 1 false false,2,ak (bB mW (aH .i64)) s2.2⟩)]⟩:St)) jR cq λG1 s2 o1 h1 gY iq=>?_)
  unfold pd at h1;refine kR [1,5,10,11,12,13] ?_;refine aF ?_;refine cF (b:=(decide (s2.1 < ((a0.aC).length:Int)))) (by simp) (λc7=>?_) (λc7=>?_)
  ·rw[ai c7] at h1
   refine aN ?_;refine aF ?_;refine aO ?_;obtain⟨x3,p3,h1⟩:=bI h1;replace p3:=bD p3;have og:=p3;try simp at og
   refine kr [1,5,7,10,11,12] (by simp[p3,og];rfl) ?_;refine aF ?_;refine kR [1,5,7,10,11,12,19] ?_;refine gJ ((decide (a1 < x3.Time))) (λc8=>?_) (λc8=>?_)
   ·rw[ai c8] at h1
    refine bZ ?_;exact⟨_,iq _ (af h1),cq⟩
   ·rw[ah (by rw[c8];decide)] at h1
    refine aN ?_;refine kR [1,5,7,10,11,12,22] ?_;refine gJ ((x3.Kind==1)) (λc9=>?_) (λc9=>?_)
    ·rw[ai c9] at h1
     refine lr (by simp;rfl) ?_;refine lr (by simp;rfl) ?_;exact⟨_,gY _ (af h1),cq⟩
    ·rw[ah (by rw[c9];decide)] at h1
     refine lr (by simp;rfl) ?_;refine lr (by simp;rfl) ?_;exact⟨_,gY _ (af h1),cq⟩
  ·rw[ah (by rw[c7];decide)] at h1
   refine bZ ?_;exact⟨_,iq _ (af h1),cq⟩
theorem sE {a0:aB} {a1:List (Int×ab)} {r:Bool} (h0:lJ a0 a1=some r):dY Tryz.prog 55 [] [.agg (Db a0),.cN [.mp (bL 71 1 false true) 9 (ak (bB (aH .i64) au) a1)] 0] (.d (.bool r)) []:=by
 unfold lJ at h0;refine dS (nt:=18) (rs:=[.tmp 3]) Tryz.func55 rfl Tryz.ntmps55 rfl (by simp) (by decide) rfl λK=>?_
 refine kR [1,2] ?_;refine kR [4] ?_;obtain⟨v1,ff,h0⟩:=bI h0;refine qF (λrl:Bool=>(⟨18,[(3,.d (.bool rl))],[],[]⟩:St)) (λrl=>v1=rl) (λrl e=>?_) ?_
 ·subst e
  cases h0;exact fM
 ·refine qH ?_
  refine kO [4,12] 4 ?_;refine bh 12 ((((br cK a1 a0.ID).getD (⟨0,0,[],[],0,[],ByteArray.empty,0⟩:ab)).Kind)==2) (by simp) (λc3=>?_) (λc3=>?_)
  ·rw[c3] at ff
   refine kO [3] 6 ?_;refine ar ?_;cases ff;exact⟨_,rfl,cq⟩
  ·rw[c3] at ff
   refine cU 4 [] (by kernel_rfl) ?_;refine kO [3] 2 ?_;refine ar ?_;cases ff;exact⟨_,rfl,cq⟩
theorem nq {a0:Int} {a1:List (Int×Int)} {a2:Int} {a3:List (Int×ab)} {a4:Int} {r:Bool} (h0:gR a0 a1 a2 a3 a4=some r):dY Tryz.prog 60 [] [.d (.int .i64 a0),.cN [.mp (bL 73 1 false false) 2 (ak (bB (aH .i64) (aH .i64)) a1)] 0,.cN [.int .i64 a2] 0,.cN [.mp (bL 71 1 false true) 9 (ak (bB (aH .i64) au) a3)] 0,.cN [.int .i64 a4] 0] (.d (.bool r)) []:=by
 unfold gR at h0;refine dS (nt:=20) (rs:=[.tmp 6]) Tryz.func60 rfl Tryz.ntmps60 rfl (by simp) (by decide) rfl λK=>?_
 refine kR [0,1,2,3,4] ?_;obtain⟨v1,ff,h0⟩:=bI h0;refine qF (λrl:Bool=>(⟨20,[(6,.d (.bool rl))],[],[]⟩:St)) (λrl=>v1=rl) (λrl e=>?_) ?_
 ·subst e
  cases h0;exact fM
 ·refine qH ?_
  refine kO [0,3,4,12] 6 ?_;refine bh 12 (decide (a2 < ((br cK a1 a0).getD 0))) (by simp) (λc3=>?_) (λc3=>?_)
  ·rw[c3] at ff
   refine cU 6 [] (by kernel_rfl) ?_;refine kO [6] 2 ?_;refine ar ?_;cases ff;exact⟨_,rfl,cq⟩
  ·rw[c3] at ff
   refine kO [6] 8 ?_;refine ar ?_;cases ff;exact⟨_,rfl,cq⟩
theorem ke {a0:List Int} {b10:List (Int×Int)} {LP:Int} {LO:List (Int×ab)} {LN:Int} {r:Int} (h0:cR a0 b10 LP LO LN=some r):dY Tryz.prog 94 [] [.d (.slice (ak (aH .i64) a0)),.fn 60 [.cN [.mp (bL 73 1 false false) 2 (ak (bB (aH .i64) (aH .i64)) b10)] 0,.cN [.int .i64 LP] 0,.cN [.mp (bL 71 1 false true) 9 (ak (bB (aH .i64) au) LO)] 0,.cN [.int .i64 LN] 0]] (.d (.int .i64 r)) []:=by
 unfold cR at h0;refine dS (nt:=19) (rs:=[.tmp 4]) Tryz.func94 rfl Tryz.ntmps94 rfl (by simp) (by decide) rfl λK=>?_
 refine kR [0,1] ?_;refine aF ?_;refine kR [0,1,7,8] ?_;obtain⟨e1,jR,h0⟩:=bI h0;refine oa (λv1:Unit=>(⟨19,[],[],[]⟩:St)) (λv1=>.inl v1=e1) (λv1 eP _ W1=>?_) ?_
 ·subst eP
  dsimp only at h0;refine dp W1 ?_;refine kR [4] ?_;cases h0;exact fM
 ·refine aO (cA (λs2:Int=>(⟨19,[(0,.d (.slice (ak (aH .i64) a0))),(1,.fn 60 [.cN [.mp (bL 73 1 false false) 2 (ak (bB (aH .i64) (aH .i64)) b10)] 0,.cN [.int .i64 LP] 0,.cN [.mp (bL 71 1 false true) 9 (ak (bB (aH .i64) au) LO)] 0,.cN [.int .i64 LN] 0]),(7,.d (.int .i64 ((a0).length:Int))),(8,.d (.int .i64 s2))],[],[]⟩:St)) jR cq λG1 s2 o1 h1 gY iq=>?_)
  unfold dO at h1;refine kR [0,1,7,8,9] ?_;refine aF ?_;refine cF (b:=(decide (s2 < ((a0).length:Int)))) (by simp) (λc5=>?_) (λc5=>?_)
  ·rw[ai c5] at h1
   refine aN ?_;refine aF ?_;refine aO ?_;refine kR [0,1,5,7,8] ?_;refine kc ?_;obtain⟨x3,p3,h1⟩:=bI h1;replace p3:=bD p3;have og:=p3;try simp at og
   refine ko [0,1,5,7,8,11,15] 5 (by simp[p3,og];rfl) ?_;obtain⟨y4,zh,h1⟩:=bI h1;refine jQ [0,1,5,7,8,16] [] [] [] (nq zh) rfl rfl rfl Tryz.call60 (by simp) (by simp;rfl) ?_;refine ar ?_;refine gJ (y4) (λc6=>?_) (λc6=>?_)
   ·rw[ai c6] at h1
    refine kR [4] ?_;have k1:=iq _ (af h1);subst k1;dsimp only at h0;cases h0;exact fM
   ·rw[ah (by rw[c6];decide)] at h1
    refine aN ?_;refine lr (by simp;rfl) ?_;exact⟨_,gY _ (af h1),cq⟩
  ·rw[ah (by rw[c5];decide)] at h1
   refine bZ ?_;exact⟨_,iq _ (af h1),cq⟩
theorem iD {a0:List Int} {b10:List (Int×Int)} {LP:Int} {LO:List (Int×ab)} {LN:Int} {r:(List Int)} (h0:cG a0 b10 LP LO LN=some r):nV Tryz.prog 59 [] [⟨3,1,ak (aH .i64) a0⟩] [.vec (wa 0),.fn 60 [.cN [.mp (bL 73 1 false false) 2 (ak (bB (aH .i64) (aH .i64)) b10)] 0,.cN [.int .i64 LP] 0,.cN [.mp (bL 71 1 false true) 9 (ak (bB (aH .i64) au) LO)] 0,.cN [.int .i64 LN] 0]] (.vec (wa 0)) [] [⟨3,1,ak (aH .i64) r⟩]:=by
 unfold cG at h0;refine yr (nt:=42) (rs:=[.tmp 4]) Tryz.func59 rfl Tryz.ntmps59 rfl (by simp) (by decide) rfl λK=>?_
 refine kR [0,1] ?_;refine kc ?_;refine kO [0,1,8,9] 2 ?_;obtain⟨y1,oC,h0⟩:=bI h0;refine MH [0,1,10] (ke oC) rfl rfl rfl Tryz.call94 (by simp) (by simp;rfl) ?_;refine kO [0,1,5] 1 ?_;refine ar ?_;refine aF ?_;refine kR [0,1,5,12] ?_;refine gJ ((y1==(-1))) (λc1=>?_) (λc1=>?_)
 ·rw[ai c1] at h0
  refine kR [4] ?_;cases h0;exact fo ⟨[],[2000000],by simp,by simp,by simp,by simp,by simp⟩
 ·rw[ah (by rw[c1];decide)] at h0
  refine aN ?_;refine aF ?_;refine kR [0,1,5,6] ?_;obtain⟨e1,jR,h0⟩:=bI h0;refine oa (λv2:Int×(List Int)=>(⟨42,[(0,.vec 2000000),(5,.d (.int .i64 v2.1))],[],[(2000000,⟨3,1,ak (aH .i64) v2.2⟩)]⟩:St)) (λv2=>v2=e1) (λv2 eP _ W1=>?_) ?_
  ·subst eP
   refine dp W1 ?_;refine kc ?_;obtain⟨_,p9,h0⟩:=bI h0;replace p9:=bT p9;have NL:=p9;try simp at NL
   refine ko [0,5,38] 3 (by simp[p9,NL];rfl) ?_;obtain⟨l3,J8,h0⟩:=bI h0;replace J8:=af J8;refine DW (n:=2000000) (z:=1) (lo:=(Int.toNat v2.1)) (k:=((v2.2).length - (Int.toNat v2.1))) (zs:=(aH .i64) 0) (rows':=ak (aH .i64) l3) rfl rfl rfl (by simp) (by simp;rfl) rfl Tryz.underlying22 Tryz.zeroValue3 rfl rfl rfl (by decide) (by simp;omega) (TH (by decide)) (TG (by rfl)) (by rw[← J8];simp[ak,List.map_take]) ?_;refine ar ?_;obtain⟨_,wh,h0⟩:=bI h0;replace wh:=bT wh;have oN:=wh;try simp at oN
   refine kr [4] (by simp[wh,oN];rfl) ?_;refine dp (LV (z:=1) (k:=(Int.toNat v2.1)) 4 2000000 2000000 (by simp) (by simp;rfl) (by simp)) ?_;cases h0;exact fo ⟨[],[2000000],by simp,by simp,by simp,by simp,by simp⟩
  ·refine aO (cA (λs4:Int×Int×(List Int)=>(⟨42,[(0,.vec 2000000),(1,.fn 60 [.cN [.mp (bL 73 1 false false) 2 (ak (bB (aH .i64) (aH .i64)) b10)] 0,.cN [.int .i64 LP] 0,.cN [.mp (bL 71 1 false true) 9 (ak (bB (aH .i64) au) LO)] 0,.cN [.int .i64 LN] 0]),(5,.d (.int .i64 s4.1)),(6,.d (.int .i64 s4.2.1))],[],[(2000000,⟨3,1,ak (aH .i64) s4.2.2⟩)]⟩:St)) jR cq λG1 s4 o1 h1 gY iq=>?_)
   unfold df at h1;refine aF ?_;refine kR [0,1,5,6,19] ?_;refine cF (b:=(decide (s4.2.1 < ((s4.2.2).length:Int)))) (by simp) (λc6=>?_) (λc6=>?_)
   ·rw[ai c6] at h1
    refine aN ?_;refine aF ?_;refine aO ?_;obtain⟨_,qG,h1⟩:=bI h1;replace qG:=bT qG;have kQ:=qG;try simp at kQ
    have Yq:s4.2.1 < (((s4.2.2)).length:Int):=by omega
    obtain⟨x5,My,h1⟩:=bI h1;replace My:=bD My;have J7:=My;try simp at J7
    refine kr [0,1,5,6,7] (by simp[-getElem?_pos,aS,aV,qG,Yq,My,kQ,J7];rfl) ?_;refine kc ?_;refine kO [0,1,5,6,7,26,27] 2 ?_;obtain⟨y6,Gm,h1⟩:=bI h1;refine jQ [0,1,5,6,7,28] [] [] [] (nq Gm) rfl rfl rfl Tryz.call60 (by simp) (by simp;rfl) ?_;refine kO [0,1,5,6,7,29] 1 ?_;refine ar ?_;refine gJ ((!y6)) (λc7=>?_) (λc7=>?_)
    ·rw[ai c7] at h1
     obtain⟨_,Hd,h1⟩:=bI h1;replace Hd:=bT Hd;have EC:=Hd;try simp at EC
     have Yp:s4.1 < (((s4.2.2)).length:Int):=by omega
     obtain⟨x7,AR,h1⟩:=bI h1;replace AR:=bD AR;have ze:=AR;try simp at ze
     refine kr [0,1,5,6] (by simp[-getElem?_pos,aS,aV,Hd,Yp,AR,(aj.1 AR.2).1,EC,ze];rfl) ?_;refine lr (by simp;rfl) ?_;refine lr (by simp;rfl) ?_;exact⟨_,gY _ (af h1),cq⟩
    ·rw[ah (by rw[c7];decide)] at h1
     refine aN ?_;refine lr (by simp;rfl) ?_;exact⟨_,gY _ (af h1),cq⟩
   ·rw[ah (by rw[c6];decide)] at h1
    refine bZ ?_;exact⟨_,iq _ (af h1),cq⟩
theorem gr {a0:List aB} {b10:List (Int×ab)} {r:Int} (h0:cD a0 b10=some r):dY Tryz.prog 88 [] [.d (.slice (ak aw a0)),.fn 55 [.cN [.mp (bL 71 1 false true) 9 (ak (bB (aH .i64) au) b10)] 0]] (.d (.int .i64 r)) []:=by
 unfold cD at h0;refine dS (nt:=19) (rs:=[.tmp 4]) Tryz.func88 rfl Tryz.ntmps88 rfl (by simp) (by decide) rfl λK=>?_
 refine kR [0,1] ?_;refine aF ?_;refine kR [0,1,7,8] ?_;obtain⟨e1,jR,h0⟩:=bI h0;refine oa (λv1:Unit=>(⟨19,[],[],[]⟩:St)) (λv1=>.inl v1=e1) (λv1 eP _ W1=>?_) ?_
 ·subst eP
  dsimp only at h0;refine dp W1 ?_;refine kR [4] ?_;cases h0;exact fM
 ·refine aO (cA (λs2:Int=>(⟨19,[(0,.d (.slice (ak aw a0))),(1,.fn 55 [.cN [.mp (bL 71 1 false true) 9 (ak (bB (aH .i64) au) b10)] 0]),(7,.d (.int .i64 ((a0).length:Int))),(8,.d (.int .i64 s2))],[],[]⟩:St)) jR cq λG1 s2 o1 h1 gY iq=>?_)
  unfold dW at h1;refine kR [0,1,7,8,9] ?_;refine aF ?_;refine cF (b:=(decide (s2 < ((a0).length:Int)))) (by simp) (λc5=>?_) (λc5=>?_)
  ·rw[ai c5] at h1
   refine aN ?_;refine aF ?_;refine aO ?_;refine kR [0,1,5,7,8] ?_;refine kc ?_;obtain⟨x3,p3,h1⟩:=bI h1;replace p3:=bD p3;have og:=p3;try simp at og
   refine ko [0,1,5,7,8,11,15] 5 (by simp[p3,og];rfl) ?_;obtain⟨y4,zh,h1⟩:=bI h1;refine jQ [0,1,5,7,8,16] [] [] [] (sE zh) rfl rfl rfl Tryz.call55 (by simp) (by simp;rfl) ?_;refine ar ?_;refine gJ (y4) (λc6=>?_) (λc6=>?_)
   ·rw[ai c6] at h1
    refine kR [4] ?_;have k1:=iq _ (af h1);subst k1;dsimp only at h0;cases h0;exact fM
   ·rw[ah (by rw[c6];decide)] at h1
    refine aN ?_;refine lr (by simp;rfl) ?_;exact⟨_,gY _ (af h1),cq⟩
  ·rw[ah (by rw[c5];decide)] at h1
   refine bZ ?_;exact⟨_,iq _ (af h1),cq⟩
theorem iJ {a0:List aB} {b10:List (Int×ab)} {r:(List aB)} (h0:dC a0 b10=some r):nV Tryz.prog 53 [] [⟨62,2,ak aw a0⟩] [.vec (wa 0),.fn 55 [.cN [.mp (bL 71 1 false true) 9 (ak (bB (aH .i64) au) b10)] 0]] (.vec (wa 0)) [] [⟨62,2,ak aw r⟩]:=by
 unfold dC at h0;refine yr (nt:=42) (rs:=[.tmp 4]) Tryz.func53 rfl Tryz.ntmps53 rfl (by simp) (by decide) rfl λK=>?_
 refine kR [0,1] ?_;refine kc ?_;refine kO [0,1,8,9] 2 ?_;obtain⟨y1,oC,h0⟩:=bI h0;refine MH [0,1,10] (gr oC) rfl rfl rfl Tryz.call88 (by simp) (by simp;rfl) ?_;refine kO [0,1,5] 1 ?_;refine ar ?_;refine aF ?_;refine kR [0,1,5,12] ?_;refine gJ ((y1==(-1))) (λc1=>?_) (λc1=>?_)
 ·rw[ai c1] at h0
  refine kR [4] ?_;cases h0;exact fo ⟨[],[2000000],by simp,by simp,by simp,by simp,by simp⟩
 ·rw[ah (by rw[c1];decide)] at h0
  refine aN ?_;refine aF ?_;refine kR [0,1,5,6] ?_;obtain⟨e1,jR,h0⟩:=bI h0;refine oa (λv2:Int×(List aB)=>(⟨42,[(0,.vec 2000000),(5,.d (.int .i64 v2.1))],[],[(2000000,⟨62,2,ak aw v2.2⟩)]⟩:St)) (λv2=>v2=e1) (λv2 eP _ W1=>?_) ?_
  ·subst eP
   refine dp W1 ?_;refine kc ?_;obtain⟨_,p9,h0⟩:=bI h0;replace p9:=bT p9;have NL:=p9;try simp at NL
   refine ko [0,5,38] 3 (by simp[p9,NL];rfl) ?_;obtain⟨l3,J8,h0⟩:=bI h0;replace J8:=af J8;refine DW (n:=2000000) (z:=2) (lo:=(Int.toNat v2.1)) (k:=((v2.2).length - (Int.toNat v2.1))) (zs:=aw (⟨ByteArray.empty,0⟩:aB)) (rows':=ak aw l3) rfl rfl rfl (by simp) (by simp;rfl) rfl Tryz.underlying41 Tryz.zeroValue62 rfl rfl rfl (by decide) (by simp;omega) (TH (by decide)) (TG (by rfl)) (by rw[← J8];simp[ak,List.map_take]) ?_;refine ar ?_;obtain⟨_,wh,h0⟩:=bI h0;replace wh:=bT wh;have oN:=wh;try simp at oN
   refine kr [4] (by simp[wh,oN];rfl) ?_;refine dp (LV (z:=2) (k:=(Int.toNat v2.1)) 4 2000000 2000000 (by simp) (by simp;rfl) (by simp)) ?_;cases h0;exact fo ⟨[],[2000000],by simp,by simp,by simp,by simp,by simp⟩
  ·refine aO (cA (λs4:Int×Int×(List aB)=>(⟨42,[(0,.vec 2000000),(1,.fn 55 [.cN [.mp (bL 71 1 false true) 9 (ak (bB (aH .i64) au) b10)] 0]),(5,.d (.int .i64 s4.1)),(6,.d (.int .i64 s4.2.1))],[],[(2000000,⟨62,2,ak aw s4.2.2⟩)]⟩:St)) jR cq λG1 s4 o1 h1 gY iq=>?_)
   unfold dw at h1;refine aF ?_;refine kR [0,1,5,6,19] ?_;refine cF (b:=(decide (s4.2.1 < ((s4.2.2).length:Int)))) (by simp) (λc6=>?_) (λc6=>?_)
   ·rw[ai c6] at h1
    refine aN ?_;refine aF ?_;refine aO ?_;obtain⟨_,qG,h1⟩:=bI h1;replace qG:=bT qG;have kQ:=qG;try simp at kQ
    have Yq:s4.2.1 < (((s4.2.2)).length:Int):=by omega
    obtain⟨x5,My,h1⟩:=bI h1;replace My:=bD My;have J7:=My;try simp at J7
    refine kr [0,1,5,6,7] (by simp[-getElem?_pos,aS,aV,qG,Yq,My,kQ,J7];rfl) ?_;refine kc ?_;refine kO [0,1,5,6,7,26,27] 2 ?_;obtain⟨y6,Gm,h1⟩:=bI h1;refine jQ [0,1,5,6,7,28] [] [] [] (sE Gm) rfl rfl rfl Tryz.call55 (by simp) (by simp;rfl) ?_;refine kO [0,1,5,6,7,29] 1 ?_;refine ar ?_;refine gJ ((!y6)) (λc7=>?_) (λc7=>?_)
    ·rw[ai c7] at h1
     obtain⟨_,Hd,h1⟩:=bI h1;replace Hd:=bT Hd;have EC:=Hd;try simp at EC
     have Yp:s4.1 < (((s4.2.2)).length:Int):=by omega
     obtain⟨x7,AR,h1⟩:=bI h1;replace AR:=bD AR;have ze:=AR;try simp at ze
     refine kr [0,1,5,6] (by simp[-getElem?_pos,aS,aV,Hd,Yp,AR,(aj.1 AR.2).1,EC,ze];rfl) ?_;refine lr (by simp;rfl) ?_;refine lr (by simp;rfl) ?_;exact⟨_,gY _ (af h1),cq⟩
    ·rw[ah (by rw[c7];decide)] at h1
     refine aN ?_;refine lr (by simp;rfl) ?_;exact⟨_,gY _ (af h1),cq⟩
   ·rw[ah (by rw[c6];decide)] at h1
    refine bZ ?_;exact⟨_,iq _ (af h1),cq⟩
end Go.Vl
