/- Plain functions that mirror functions of the given program. Conditions: none. -/
import Derived.Test.YtjnflahicimmlaaGreatGno
import Derived.Test.YtjnflahicimmlaaGreatGf
import Derived.Test.YtjnflahicimmlaaGreatVmSt
import Derived.Test.YtjnflahicimmlaaGreatVmLz
import Derived.Test.YtjnflahicimmlaaGreatGq
import Derived.Test.YtjnflahicimmlaaGreatTyG
set_option maxHeartbeats 1000000
set_option linter.unusedSimpArgs false
set_option linter.unusedVariables false
namespace Go.Vl
open Go
noncomputable def zT_Next (a0:zT) (a1:Int):Option (Int×zT):=
 if(decide (((a0.L).length:Int)≤a0.at_))=true then
  some (0,a0)
 else
 (idx a0.L a0.at_).bind fun x1=>
 (ck (a1≠0)).bind fun _=>
 some (((bAnd .i64 x1 65535)).tmod a1,(⟨a0.L,IntKind.i64.wrap (a0.at_+1)⟩:zT))
noncomputable def zT_Between (a0:zT) (a1:Int) (a2:Int):Option (Int×zT):=
 (zT_Next a0 (IntKind.i64.wrap ((IntKind.i64.wrap (a2 - a1))+1))).bind fun y1=>
 some (IntKind.i64.wrap (a1+y1.1),y1.2)
noncomputable def mYBytes_j1 (y3:Int×zT) (s2:Int×(List Int)×Int×(List Int)) (v7:Bool):Option (Lp (Int×(List Int)×Int×(List Int)) ((List Int)×Int×(List Int))):=
 if v7=true then
  (zT_Next y3.2 10).bind fun y8=>
  (ck ((s2.2.2.2).length+([IntKind.u8.wrap (IntKind.i64.wrap (48+y8.1))]).length≤268435456)).bind fun _=>
  some (.go (IntKind.i64.wrap (s2.1+1),y8.2.L,y8.2.at_,(s2.2.2.2++[IntKind.u8.wrap (IntKind.i64.wrap (48+y8.1))])))
 else
 (zT_Next y3.2 8).bind fun y9=>
 (sidx (⟨#[97,98,99,100,101,102,116,107]⟩:ByteArray) y9.1).bind fun x10=>
 (ck ((s2.2.2.2).length+([x10]).length≤268435456)).bind fun _=>
 some (.go (IntKind.i64.wrap (s2.1+1),y9.2.L,y9.2.at_,(s2.2.2.2++[x10])))
noncomputable def mYBytes_l0 (a1:Int) (s2:Int×(List Int)×Int×(List Int)):Option (Lp (Int×(List Int)×Int×(List Int)) ((List Int)×Int×(List Int))):=
 if(decide (s2.1 < a1))=true then
  (zT_Next (⟨s2.2.1,s2.2.2.1⟩:zT) 8).bind fun y3=>
  if(y3.1==0)=true then
   (zT_Next y3.2 8).bind fun y4=>
   (sidx (⟨#[32,10,61,37,43,47,45,46]⟩:ByteArray) y4.1).bind fun x5=>
   (ck ((s2.2.2.2).length+([x5]).length≤268435456)).bind fun _=>
   some (.go (IntKind.i64.wrap (s2.1+1),y4.2.L,y4.2.at_,(s2.2.2.2++[x5])))
  else
  if(y3.1==1)=true then
   (zT_Next y3.2 256).bind fun y6=>
   (ck ((s2.2.2.2).length+([IntKind.u8.wrap y6.1]).length≤268435456)).bind fun _=>
   some (.go (IntKind.i64.wrap (s2.1+1),y6.2.L,y6.2.at_,(s2.2.2.2++[IntKind.u8.wrap y6.1])))
  else
  if(y3.1==2)=true then
   mYBytes_j1 y3 s2 (y3.1==2)
  else
   mYBytes_j1 y3 s2 (y3.1==3)
 else
  some (.out (s2.2.1,s2.2.2.1,s2.2.2.2))
noncomputable def mYBytes (a0:zT) (a1:Int):Option ((List Int)×zT):=
 (iter (mYBytes_l0 a1) (0,a0.L,a0.at_,[])).bind fun v1=>
 some (v1.2.2,(⟨v1.1,v1.2.1⟩:zT))
noncomputable def mYEvents_l0 (a1:List Int) (s4:Int×Int×(List Int)×Int×(List (ByteArray×Bool))×(List zE)):Option (Lp (Int×Int×(List Int)×Int×(List (ByteArray×Bool))×(List zE)) ((List Int)×Int×(List zE))):=
 if(decide (0 < s4.2.1))=true then
  (zT_Next (⟨s4.2.2.1,s4.2.2.2.1⟩:zT) 3).bind fun y5=>
  (zT_Next y5.2 3).bind fun y6=>
  (ck (0≤y6.1∧(Int.toNat y6.1) < ([(⟨#[109,97,105,110]⟩:ByteArray),(⟨#[111,108,100]⟩:ByteArray),(⟨#[120]⟩:ByteArray)]).length)).bind fun _=>
  (idx [(⟨#[109,97,105,110]⟩:ByteArray),(⟨#[111,108,100]⟩:ByteArray),(⟨#[120]⟩:ByteArray)] y6.1).bind fun x7=>
  Option.bind (
   if((mget stE s4.2.2.2.2.1 x7).getD false)=true then
    (zT_Next y6.2 3).bind fun y11=>
    some ((y11.1==0),y11.2.L,y11.2.at_)
   else
    some (false,y6.2.L,y6.2.at_)) fun v8=>
  if v8.1=true then
   (ck ((s4.2.2.2.2.2).length+([(⟨2,x7,0,IntKind.i64.wrap (s4.1+y5.1)⟩:zE)]).length≤268435456)).bind fun _=>
   some (.go (IntKind.i64.wrap (s4.1+y5.1),IntKind.i64.wrap (s4.2.1 - 1),v8.2.1,v8.2.2,(mset stE s4.2.2.2.2.1 x7 false),(s4.2.2.2.2.2++[(⟨2,x7,0,IntKind.i64.wrap (s4.1+y5.1)⟩:zE)])))
  else
  (zT_Next (⟨v8.2.1,v8.2.2⟩:zT) ((a1).length:Int)).bind fun y9=>
  (idx a1 y9.1).bind fun x10=>
  (ck ((s4.2.2.2.2.2).length+([(⟨1,x7,x10,IntKind.i64.wrap (s4.1+y5.1)⟩:zE)]).length≤268435456)).bind fun _=>
  some (.go (IntKind.i64.wrap (s4.1+y5.1),IntKind.i64.wrap (s4.2.1 - 1),y9.2.L,y9.2.at_,(mset stE s4.2.2.2.2.1 x7 true),(s4.2.2.2.2.2++[(⟨1,x7,x10,IntKind.i64.wrap (s4.1+y5.1)⟩:zE)])))
 else
  some (.out (s4.2.2.1,s4.2.2.2.1,s4.2.2.2.2.2))
noncomputable def mYEvents (a0:zT) (a1:List Int):Option ((List zE)×zT):=
 (zT_Next a0 4).bind fun y1=>
 (zT_Next y1.2 8).bind fun y2=>
 (iter (mYEvents_l0 a1) (y1.1,y2.1,y2.2.L,y2.2.at_,[],[])).bind fun v3=>
 some (v3.2.2,(⟨v3.1,v3.2.1⟩:zT))
noncomputable def mYRepository_1_cbbo0 (a0:zO) (a1:Int) (a2:zR):Option (Int×Int×zR):=
 (ck ((a2.Objects).length+([(⟨IntKind.i64.wrap (a1+1),a0.Kind,a0.Data,a0.Items,a0.Tree,a0.Parents,a0.Author,a0.Time⟩:zO)]).length≤268435456)).bind fun _=>
 some (IntKind.i64.wrap (a1+1),IntKind.i64.wrap (a1+1),(⟨(a2.Objects++[(⟨IntKind.i64.wrap (a1+1),a0.Kind,a0.Data,a0.Items,a0.Tree,a0.Parents,a0.Author,a0.Time⟩:zO)]),a2.Events⟩:zR))
noncomputable def mYRepository_l3 (s8:Int×(List Int)×Int×(List zE)×Int×(List zO)×(List Int)) (s14:Int×(List Int)×Int×(List Int)):Option (Lp (Int×(List Int)×Int×(List Int)) ((List Int)×Int×(List Int))):=
 (some ((decide (0≤s14.1))&&(decide (((s14.2.2.2).length:Int) < 2)))).bind fun v15=>
 if v15=true then
  (zT_Next (⟨s14.2.1,s14.2.2.1⟩:zT) 2).bind fun y16=>
  if(y16.1==0)=true then
   (ck (0≤s14.1∧(Int.toNat s14.1) < (s8.2.2.2.2.2.2).length)).bind fun _=>
   (idx s8.2.2.2.2.2.2 s14.1).bind fun x17=>
   (ck ((s14.2.2.2).length+([x17]).length≤268435456)).bind fun _=>
   some (.go (IntKind.i64.wrap (s14.1 - 1),y16.2.L,y16.2.at_,(s14.2.2.2++[x17])))
  else
   some (.go (IntKind.i64.wrap (s14.1 - 1),y16.2.L,y16.2.at_,s14.2.2.2))
 else
  some (.out (s14.2.1,s14.2.2.1,s14.2.2.2))
noncomputable def mYRepository_l2 (v4:(List Int)×Int×(List zE)×Int×(List zO)×(List Int)) (s8:Int×(List Int)×Int×(List zE)×Int×(List zO)×(List Int)):Option (Lp (Int×(List Int)×Int×(List zE)×Int×(List zO)×(List Int)) ((List Int)×Int×(List zE)×(List zO)×(List Int))):=
 if(decide (0 < s8.1))=true then
  (zT_Next (⟨s8.2.1,s8.2.2.1⟩:zT) ((v4.2.2.2.2.2).length:Int)).bind fun y9=>
  (ck (0≤y9.1∧(Int.toNat y9.1) < (v4.2.2.2.2.2).length)).bind fun _=>
  (idx v4.2.2.2.2.2 y9.1).bind fun x10=>
  (zT_Next y9.2 20).bind fun y11=>
  (iter (mYRepository_l3 s8) (IntKind.i64.wrap (((s8.2.2.2.2.2.2).length:Int) - 1),y11.2.L,y11.2.at_,[])).bind fun v12=>
  (mYRepository_1_cbbo0 (⟨0,3,[],[],x10,v12.2.2,(⟨#[97,110,110]⟩:ByteArray),y11.1⟩:zO) s8.2.2.2.2.1 (⟨s8.2.2.2.2.2.1,s8.2.2.2.1⟩:zR)).bind fun y13=>
  (ck ((s8.2.2.2.2.2.2).length+([y13.1]).length≤268435456)).bind fun _=>
  some (.go (IntKind.i64.wrap (s8.1 - 1),v12.1,v12.2.1,y13.2.2.Events,y13.2.1,y13.2.2.Objects,(s8.2.2.2.2.2.2++[y13.1])))
 else
  some (.out (s8.2.1,s8.2.2.1,s8.2.2.2.1,s8.2.2.2.2.2.1,s8.2.2.2.2.2.2))
noncomputable def mYRepository_l4 (l19:List ByteArray) (v2:(List Int)×Int×(List zE)×Int×(List Int)×(List zO)) (s18:Int×(List Int)×Int×(List zE)×Int×(List zO)×(List Int)) (s22:Int×(List Int)×Int×(List zI)):Option (Lp (Int×(List Int)×Int×(List zI)) ((List Int)×Int×(List zI))):=
 if(decide (s22.1 < (([(⟨#[97]⟩:ByteArray),(⟨#[98]⟩:ByteArray),(⟨#[100]⟩:ByteArray)]).length:Int)))=true then
  (ck (0≤s22.1∧(Int.toNat s22.1) < (l19).length)).bind fun _=>
  (idx l19 s22.1).bind fun x23=>
  (zT_Next (⟨s22.2.1,s22.2.2.1⟩:zT) 3).bind fun y24=>
  if(y24.1==0)=true then
   (zT_Next y24.2 ((v2.2.2.2.2.1).length:Int)).bind fun y25=>
   (ck (0≤y25.1∧(Int.toNat y25.1) < (v2.2.2.2.2.1).length)).bind fun _=>
   (idx v2.2.2.2.2.1 y25.1).bind fun x26=>
   (ck ((s22.2.2.2).length+([(⟨x23,x26⟩:zI)]).length≤268435456)).bind fun _=>
   some (.go (IntKind.i64.wrap (s22.1+1),y25.2.L,y25.2.at_,(s22.2.2.2++[(⟨x23,x26⟩:zI)])))
  else
  if(y24.1==1)=true then
   if(decide (0 < ((s18.2.2.2.2.2.2).length:Int)))=true then
    (zT_Next y24.2 ((s18.2.2.2.2.2.2).length:Int)).bind fun y27=>
    (ck (0≤y27.1∧(Int.toNat y27.1) < (s18.2.2.2.2.2.2).length)).bind fun _=>
    (idx s18.2.2.2.2.2.2 y27.1).bind fun x28=>
    (ck ((s22.2.2.2).length+([(⟨x23,x28⟩:zI)]).length≤268435456)).bind fun _=>
    some (.go (IntKind.i64.wrap (s22.1+1),y27.2.L,y27.2.at_,(s22.2.2.2++[(⟨x23,x28⟩:zI)])))
   else
    some (.go (IntKind.i64.wrap (s22.1+1),y24.2.L,y24.2.at_,s22.2.2.2))
  else
   some (.go (IntKind.i64.wrap (s22.1+1),y24.2.L,y24.2.at_,s22.2.2.2))
 else
  some (.out (s22.2.1,s22.2.2.1,s22.2.2.2))
noncomputable def mYRepository_l1 (v2:(List Int)×Int×(List zE)×Int×(List Int)×(List zO)) (s18:Int×(List Int)×Int×(List zE)×Int×(List zO)×(List Int)):Option (Lp (Int×(List Int)×Int×(List zE)×Int×(List zO)×(List Int)) ((List Int)×Int×(List zE)×Int×(List zO)×(List Int))):=
 if(decide (0 < s18.1))=true then
  (some ([(⟨#[97]⟩:ByteArray),(⟨#[98]⟩:ByteArray),(⟨#[100]⟩:ByteArray)]:List ByteArray)).bind fun l19=>
  (iter (mYRepository_l4 l19 v2 s18) (0,s18.2.1,s18.2.2.1,[])).bind fun v20=>
  (mYRepository_1_cbbo0 (⟨0,2,[],v20.2.2,0,[],ByteArray.empty,0⟩:zO) s18.2.2.2.2.1 (⟨s18.2.2.2.2.2.1,s18.2.2.2.1⟩:zR)).bind fun y21=>
  (ck ((s18.2.2.2.2.2.2).length+([y21.1]).length≤268435456)).bind fun _=>
  some (.go (IntKind.i64.wrap (s18.1 - 1),v20.1,v20.2.1,y21.2.2.Events,y21.2.1,y21.2.2.Objects,(s18.2.2.2.2.2.2++[y21.1])))
 else
  some (.out (s18.2.1,s18.2.2.1,s18.2.2.2.1,s18.2.2.2.2.1,s18.2.2.2.2.2.1,s18.2.2.2.2.2.2))
noncomputable def mYRepository_l0 (s29:Int×(List Int)×Int×(List zE)×Int×(List Int)×(List zO)):Option (Lp (Int×(List Int)×Int×(List zE)×Int×(List Int)×(List zO)) ((List Int)×Int×(List zE)×Int×(List Int)×(List zO))):=
 if(decide (0 < s29.1))=true then
  (zT_Next (⟨s29.2.1,s29.2.2.1⟩:zT) 12).bind fun y30=>
  (mYBytes y30.2 y30.1).bind fun y31=>
  (mYRepository_1_cbbo0 (⟨0,1,y31.1,[],0,[],ByteArray.empty,0⟩:zO) s29.2.2.2.2.1 (⟨s29.2.2.2.2.2.2,s29.2.2.2.1⟩:zR)).bind fun y32=>
  (ck ((s29.2.2.2.2.2.1).length+([y32.1]).length≤268435456)).bind fun _=>
  some (.go (IntKind.i64.wrap (s29.1 - 1),y31.2.L,y31.2.at_,y32.2.2.Events,y32.2.1,(s29.2.2.2.2.2.1++[y32.1]),y32.2.2.Objects))
 else
  some (.out (s29.2.1,s29.2.2.1,s29.2.2.2.1,s29.2.2.2.2.1,s29.2.2.2.2.2.1,s29.2.2.2.2.2.2))
noncomputable def mYRepository (a0:zT):Option (zR×zT):=
 (zT_Between a0 1 4).bind fun y1=>
 (iter (mYRepository_l0) (y1.1,y1.2.L,y1.2.at_,[],0,[],[])).bind fun v2=>
 (zT_Between (⟨v2.1,v2.2.1⟩:zT) 1 4).bind fun y3=>
 (iter (mYRepository_l1 v2) (y3.1,y3.2.L,y3.2.at_,v2.2.2.1,v2.2.2.2.1,v2.2.2.2.2.2,[])).bind fun v4=>
 (zT_Between (⟨v4.1,v4.2.1⟩:zT) 1 5).bind fun y5=>
 (iter (mYRepository_l2 v4) (y5.1,y5.2.L,y5.2.at_,v4.2.2.1,v4.2.2.2.1,v4.2.2.2.2.1,[])).bind fun v6=>
 (mYEvents (⟨v6.1,v6.2.1⟩:zT) v6.2.2.2.2).bind fun y7=>
 some ((⟨v6.2.2.2.1,y7.1⟩:zR),y7.2)
noncomputable def oYNumber (a0:Int):Option (Bool):=
 (some ((decide (1≤a0))&&(decide (a0≤1073741824)))).bind fun v1=>
 some v1
noncomputable def oYName_l0 (a0:ByteArray) (s3:Int):Option (Lp Int (Unit ⊕ Bool)):=
 if(decide (s3 < (((sbytes a0)).length:Int)))=true then
  (idx (sbytes a0) s3).bind fun x4=>
  (some ((decide (x4 < 33))||((decide (126 < x4))||(x4==47)))).bind fun v5=>
  if v5=true then
   some (.out (.inr false))
  else
   some (.go (IntKind.i64.wrap (s3+1)))
 else
  some (.out (.inl ()))
noncomputable def oYName (a0:ByteArray):Option (Bool):=
 (iter (oYName_l0 a0) 0).bind fun q7=>
 match q7 with
 | .inl v1=>
  (some ((decide (1≤((a0).size:Int)))&&(decide (((a0).size:Int)≤40)))).bind fun v2=>
  some v2
 | .inr r6=>
  some r6
noncomputable def oYtree_l0 (a0:zO) (s2:Int):Option (Lp Int (Unit ⊕ Bool)):=
 if(decide (s2 < ((a0.Items).length:Int)))=true then
  (idx a0.Items s2).bind fun x3=>
  Option.bind (
   (oYName x3.Name).bind fun y5=>
   if(!y5)=true then
    some true
   else
   (oYNumber x3.ID).bind fun y6=>
   if(!y6)=true then
    some true
   else
   if(decide (0 < s2))=true then
    (idx a0.Items (IntKind.i64.wrap (s2 - 1))).bind fun x7=>
    some (!(Op.bytesLess (x7.Name).toList (x3.Name).toList))
   else
    some false) fun v4=>
  if v4=true then
   some (.out (.inr false))
  else
   some (.go (IntKind.i64.wrap (s2+1)))
 else
  some (.out (.inl ()))
noncomputable def oYtree (a0:zO):Option (Bool):=
 (iter (oYtree_l0 a0) 0).bind fun q9=>
 match q9 with
 | .inl v1=>
  some true
 | .inr r8=>
  some r8
noncomputable def sYIndex_int_l0 (a0:List Int) (a1:Int) (s2:Int):Option (Lp Int (Unit ⊕ Int)):=
 if(decide (s2 < ((a0).length:Int)))=true then
  (idx a0 s2).bind fun x3=>
  if(a1==x3)=true then
   some (.out (.inr s2))
  else
   some (.go (IntKind.i64.wrap (s2+1)))
 else
  some (.out (.inl ()))
noncomputable def sYIndex_int (a0:List Int) (a1:Int):Option (Int):=
 (iter (sYIndex_int_l0 a0 a1) 0).bind fun q5=>
 match q5 with
 | .inl v1=>
  some (-1)
 | .inr r4=>
  some r4
noncomputable def sYContains_int (a0:List Int) (a1:Int):Option (Bool):=
 (sYIndex_int a0 a1).bind fun y1=>
 some (decide (0≤y1))
noncomputable def oYcommit_l0 (a0:zO) (s5:Int):Option (Lp Int (Unit ⊕ Bool)):=
 if(decide (s5 < ((a0.Parents).length:Int)))=true then
  (idx a0.Parents s5).bind fun x6=>
  Option.bind (
   (oYNumber x6).bind fun y8=>
   if(!y8)=true then
    some true
   else
   (ck (0≤0∧0≤s5∧s5≤((a0.Parents).length:Int))).bind fun _=>
   (sYContains_int ((a0.Parents).take (Int.toNat s5)) x6).bind fun y9=>
   some y9) fun v7=>
  if v7=true then
   some (.out (.inr false))
  else
   some (.go (IntKind.i64.wrap (s5+1)))
 else
  some (.out (.inl ()))
noncomputable def oYcommit (a0:zO):Option (Bool):=
 (iter (oYcommit_l0 a0) 0).bind fun q11=>
 match q11 with
 | .inl v1=>
  Option.bind (
   (oYNumber a0.Tree).bind fun y3=>
   if y3=true then
    (oYName a0.Author).bind fun y4=>
    if y4=true then
     if(decide (0≤a0.Time))=true then
      some (decide (a0.Time≤1099511627776))
     else
      some false
    else
     some false
   else
    some false) fun v2=>
  some v2
 | .inr r10=>
  some r10
noncomputable def oYright (a0:zO):Option (Bool):=
 (some ((a0.Tree != 0)||((decide (0 < ((a0.Parents).length:Int)))||((!((a0.Author).toList==((⟨#[]⟩:ByteArray)).toList))||(a0.Time != 0))))).bind fun v1=>
 if(a0.Kind==1)=true then
  (some ((((a0.Items).length:Int)==0)&&(!v1))).bind fun v2=>
  some v2
 else
 if(a0.Kind==2)=true then
  Option.bind (
   if(((a0.Data).length:Int)==0)=true then
    if(!v1)=true then
     (oYtree a0).bind fun y4=>
     some y4
    else
     some false
   else
    some false) fun v3=>
  some v3
 else
 if(a0.Kind==3)=true then
  Option.bind (
   if(((a0.Data).length:Int)==0)=true then
    if(((a0.Items).length:Int)==0)=true then
     (oYcommit a0).bind fun y6=>
     some y6
    else
     some false
   else
    some false) fun v5=>
  some v5
 else
  some false
noncomputable def oYValid (a0:zO):Option (Int):=
 (oYNumber a0.ID).bind fun y1=>
 if(!y1)=true then
  some 2
 else
 (some ((decide (65536 < ((a0.Data).length:Int)))||((decide (64 < ((a0.Items).length:Int)))||(decide (8 < ((a0.Parents).length:Int)))))).bind fun v2=>
 if v2=true then
  some 3
 else
 (oYright a0).bind fun y3=>
 if(!y3)=true then
  some 1
 else
  some 0
noncomputable def hYValid_1 (a0:zO):Option (Bool):=
 (oYValid a0).bind fun y1=>
 some (y1 != 0)
noncomputable def hYwrong (a0:zE):Option (Bool):=
 Option.bind (
  if(a0.Kind != 1)=true then
   if(a0.Kind != 2)=true then
    some true
   else
   (oYName a0.Name).bind fun y2=>
   if(!y2)=true then
    some true
   else
   if(a0.Kind==2)=true then
    some (a0.Commit != 0)
   else
    some false
  else
  (oYName a0.Name).bind fun y3=>
  if(!y3)=true then
   some true
  else
  if(a0.Kind==2)=true then
   some (a0.Commit != 0)
  else
   some false) fun v1=>
 some v1
noncomputable def hYindex_l0 (a0:zR) (s2:Int×(List (Int×zO))):Option (Lp (Int×(List (Int×zO))) (List (Int×zO))):=
 if(decide (s2.1 < ((a0.Objects).length:Int)))=true then
  (idx a0.Objects s2.1).bind fun x3=>
  some (.go (IntKind.i64.wrap (s2.1+1),(mset inE s2.2 x3.ID x3)))
 else
  some (.out s2.2)
noncomputable def hYindex (a0:zR):Option ((List (Int×zO))×Bool):=
 (iter (hYindex_l0 a0) (0,[])).bind fun v1=>
 some (v1,(((v1).length:Int)==((a0.Objects).length:Int)))
noncomputable def hYnameless_l0 (a0:zR) (a1:List (Int×zO)) (s2:Int×(List (ByteArray×Bool))):Option (Lp (Int×(List (ByteArray×Bool))) (Unit ⊕ Bool)):=
 if(decide (s2.1 < ((a0.Events).length:Int)))=true then
  (idx a0.Events s2.1).bind fun x3=>
  (some (bif (x3.Kind==1) then(((((mget inE a1 x3.Commit).getD (⟨0,0,[],[],0,[],ByteArray.empty,0⟩:zO)).Kind) != 3)||((x3.Kind==2)&&(!((mget stE s2.2 x3.Name).getD false)))) else((x3.Kind==2)&&(!((mget stE s2.2 x3.Name).getD false))))).bind fun v4=>
  if v4=true then
   some (.out (.inr true))
  else
   some (.go (IntKind.i64.wrap (s2.1+1),(mset stE s2.2 x3.Name (x3.Kind==1))))
 else
  some (.out (.inl ()))
noncomputable def hYnameless (a0:zR) (a1:List (Int×zO)):Option (Bool):=
 (iter (hYnameless_l0 a0 a1) (0,[])).bind fun q6=>
 match q6 with
 | .inl v1=>
  some false
 | .inr r5=>
  some r5
noncomputable def hYValid_3 (a0:zE):Option (Bool):=
 (some ((decide (a0.Time < 0))||(decide (1099511627776 < a0.Time)))).bind fun v1=>
 some v1
noncomputable def cmp_isNaN_int (a0:Int):Option (Bool):=
 some (a0 != a0)
noncomputable def cmp_Compare_int (a0:Int) (a1:Int):Option (Int):=
 (cmp_isNaN_int a0).bind fun y1=>
 (cmp_isNaN_int a1).bind fun y2=>
 if y1=true then
  if y2=true then
   some 0
  else
   some (-1)
 else
 if y2=true then
  some 1
 else
 if(decide (a0 < a1))=true then
  some (-1)
 else
 if(decide (a1 < a0))=true then
  some 1
 else
  some 0
noncomputable def hYValid_4 (a0:zE) (a1:zE):Option (Int):=
 (cmp_Compare_int a0.Time a1.Time).bind fun y1=>
 some y1
noncomputable def sYIndexFunc_api_Object_at_history_Valid_1_l0 (a0:List zO) (s2:Int):Option (Lp Int (Unit ⊕ Int)):=
 if(decide (s2 < ((a0).length:Int)))=true then
  (idx a0 s2).bind fun x3=>
  (hYValid_1 x3).bind fun y4=>
  if y4=true then
   some (.out (.inr s2))
  else
   some (.go (IntKind.i64.wrap (s2+1)))
 else
  some (.out (.inl ()))
noncomputable def sYIndexFunc_api_Object_at_history_Valid_1 (a0:List zO):Option (Int):=
 (iter (sYIndexFunc_api_Object_at_history_Valid_1_l0 a0) 0).bind fun q6=>
 match q6 with
 | .inl v1=>
  some (-1)
 | .inr r5=>
  some r5
noncomputable def sYContainsFunc_api_Object_at_history_Valid_1 (a0:List zO):Option (Bool):=
 (sYIndexFunc_api_Object_at_history_Valid_1 a0).bind fun y1=>
 some (decide (0≤y1))
noncomputable def sYIndexFunc_api_RefEvent_at_history_wrong_l0 (a0:List zE) (s2:Int):Option (Lp Int (Unit ⊕ Int)):=
 if(decide (s2 < ((a0).length:Int)))=true then
  (idx a0 s2).bind fun x3=>
  (hYwrong x3).bind fun y4=>
  if y4=true then
   some (.out (.inr s2))
  else
   some (.go (IntKind.i64.wrap (s2+1)))
 else
  some (.out (.inl ()))
noncomputable def sYIndexFunc_api_RefEvent_at_history_wrong (a0:List zE):Option (Int):=
 (iter (sYIndexFunc_api_RefEvent_at_history_wrong_l0 a0) 0).bind fun q6=>
 match q6 with
 | .inl v1=>
  some (-1)
 | .inr r5=>
  some r5
noncomputable def sYContainsFunc_api_RefEvent_at_history_wrong (a0:List zE):Option (Bool):=
 (sYIndexFunc_api_RefEvent_at_history_wrong a0).bind fun y1=>
 some (decide (0≤y1))
noncomputable def hYmissing_l1 (a1:zO) (a0:List (Int×zO)) (s4:Int):Option (Lp Int (Unit ⊕ Bool)):=
 if(decide (s4 < ((a1.Parents).length:Int)))=true then
  (idx a1.Parents s4).bind fun x5=>
  if((((mget inE a0 x5).getD (⟨0,0,[],[],0,[],ByteArray.empty,0⟩:zO)).Kind) != 3)=true then
   some (.out (.inr true))
  else
   some (.go (IntKind.i64.wrap (s4+1)))
 else
  some (.out (.inl ()))
noncomputable def hYmissing_l0 (a1:zO) (a0:List (Int×zO)) (s8:Int):Option (Lp Int (Unit ⊕ Bool)):=
 if(decide (s8 < ((a1.Items).length:Int)))=true then
  (idx a1.Items s8).bind fun x9=>
  (some (((((mget inE a0 x9.ID).getD (⟨0,0,[],[],0,[],ByteArray.empty,0⟩:zO)).Kind) != 1)&&((((mget inE a0 x9.ID).getD (⟨0,0,[],[],0,[],ByteArray.empty,0⟩:zO)).Kind) != 2))).bind fun v10=>
  if v10=true then
   some (.out (.inr true))
  else
   some (.go (IntKind.i64.wrap (s8+1)))
 else
  some (.out (.inl ()))
noncomputable def hYmissing (a0:List (Int×zO)) (a1:zO):Option (Bool):=
 (iter (hYmissing_l0 a1 a0) 0).bind fun q12=>
 match q12 with
 | .inl v1=>
  (iter (hYmissing_l1 a1 a0) 0).bind fun q7=>
  match q7 with
  | .inl v2=>
   (some ((a1.Kind==3)&&((((mget inE a0 a1.Tree).getD (⟨0,0,[],[],0,[],ByteArray.empty,0⟩:zO)).Kind) != 2))).bind fun v3=>
   some v3
  | .inr r6=>
   some r6
 | .inr r11=>
  some r11
noncomputable def hYValid_2_cb (a0:zO) (a1:List (Int×zO)):Option (Bool×(List (Int×zO))):=
 (hYmissing a1 a0).bind fun y1=>
 some (y1,a1)
noncomputable def sYIndexFunc_api_Object_at_history_Valid_2_b_l0 (a0:List zO) (s2:Int×(List (Int×zO))):Option (Lp (Int×(List (Int×zO))) ((List (Int×zO)) ⊕ (Int×(List (Int×zO))))):=
 if(decide (s2.1 < ((a0).length:Int)))=true then
  (idx a0 s2.1).bind fun x3=>
  (hYValid_2_cb x3 s2.2).bind fun y4=>
  if y4.1=true then
   some (.out (.inr (s2.1,y4.2)))
  else
   some (.go (IntKind.i64.wrap (s2.1+1),y4.2))
 else
  some (.out (.inl s2.2))
noncomputable def sYIndexFunc_api_Object_at_history_Valid_2_b (a0:List zO) (b10:List (Int×zO)):Option (Int×(List (Int×zO))):=
 (iter (sYIndexFunc_api_Object_at_history_Valid_2_b_l0 a0) (0,b10)).bind fun q6=>
 match q6 with
 | .inl v1=>
  some ((-1),v1)
 | .inr r5=>
  some r5
noncomputable def sYContainsFunc_api_Object_at_history_Valid_2_b (a0:List zO) (b10:List (Int×zO)):Option (Bool×(List (Int×zO))):=
 (sYIndexFunc_api_Object_at_history_Valid_2_b a0 b10).bind fun y1=>
 some ((decide (0≤y1.1)),y1.2)
noncomputable def sYIndexFunc_api_RefEvent_at_history_Valid_3_l0 (a0:List zE) (s2:Int):Option (Lp Int (Unit ⊕ Int)):=
 if(decide (s2 < ((a0).length:Int)))=true then
  (idx a0 s2).bind fun x3=>
  (hYValid_3 x3).bind fun y4=>
  if y4=true then
   some (.out (.inr s2))
  else
   some (.go (IntKind.i64.wrap (s2+1)))
 else
  some (.out (.inl ()))
noncomputable def sYIndexFunc_api_RefEvent_at_history_Valid_3 (a0:List zE):Option (Int):=
 (iter (sYIndexFunc_api_RefEvent_at_history_Valid_3_l0 a0) 0).bind fun q6=>
 match q6 with
 | .inl v1=>
  some (-1)
 | .inr r5=>
  some r5
noncomputable def sYContainsFunc_api_RefEvent_at_history_Valid_3 (a0:List zE):Option (Bool):=
 (sYIndexFunc_api_RefEvent_at_history_Valid_3 a0).bind fun y1=>
 some (decide (0≤y1))
noncomputable def sYIsSortedFunc_api_RefEvent_at_history_Valid_4_l0 (a0:List zE) (s2:Int):Option (Lp Int (Unit ⊕ Bool)):=
 if(decide (0 < s2))=true then
  (idx a0 s2).bind fun x3=>
  (idx a0 (IntKind.i64.wrap (s2 - 1))).bind fun x4=>
  (hYValid_4 x3 x4).bind fun y5=>
  if(decide (y5 < 0))=true then
   some (.out (.inr false))
  else
   some (.go (IntKind.i64.wrap (s2 - 1)))
 else
  some (.out (.inl ()))
noncomputable def sYIsSortedFunc_api_RefEvent_at_history_Valid_4 (a0:List zE):Option (Bool):=
 (iter (sYIsSortedFunc_api_RefEvent_at_history_Valid_4_l0 a0) (IntKind.i64.wrap (((a0).length:Int) - 1))).bind fun q7=>
 match q7 with
 | .inl v1=>
  some true
 | .inr r6=>
  some r6
noncomputable def hYValid_j1 (s9:Int×(List (ByteArray×Bool))) (v11:(List (ByteArray×Bool))):Option (Lp (Int×(List (ByteArray×Bool))) (Unit ⊕ Int)):=
 if(decide (32 < ((v11).length:Int)))=true then
  some (.out (.inr 3))
 else
  some (.go (IntKind.i64.wrap (s9.1+1),v11))
noncomputable def hYValid_l0 (a0:zR) (s9:Int×(List (ByteArray×Bool))):Option (Lp (Int×(List (ByteArray×Bool))) (Unit ⊕ Int)):=
 if(decide (s9.1 < ((a0.Events).length:Int)))=true then
  (idx a0.Events s9.1).bind fun x10=>
  if(x10.Kind==1)=true then
   hYValid_j1 s9 (mset stE s9.2 x10.Name true)
  else
   hYValid_j1 s9 (mdel stE s9.2 x10.Name)
 else
  some (.out (.inl ()))
noncomputable def hYValid (a0:zR):Option (Int):=
 (some ((decide (400 < ((a0.Objects).length:Int)))||(decide (300 < ((a0.Events).length:Int))))).bind fun v1=>
 if v1=true then
  some 3
 else
 Option.bind (
  (sYContainsFunc_api_Object_at_history_Valid_1 a0.Objects).bind fun y16=>
  if y16=true then
   some true
  else
  (sYContainsFunc_api_RefEvent_at_history_wrong a0.Events).bind fun y17=>
  some y17) fun v2=>
 if v2=true then
  some 1
 else
 (hYindex a0).bind fun y3=>
 if(!y3.2)=true then
  some 7
 else
 Option.bind (
  (sYContainsFunc_api_Object_at_history_Valid_2_b a0.Objects y3.1).bind fun y14=>
  if y14.1=true then
   some (true,y14.2)
  else
  (hYnameless a0 y14.2).bind fun y15=>
  some (y15,y14.2)) fun v4=>
 if v4.1=true then
  some 6
 else
 (hYcycle v4.2).bind fun y5=>
 if y5=true then
  some 8
 else
 (sYContainsFunc_api_RefEvent_at_history_Valid_3 a0.Events).bind fun y6=>
 if y6=true then
  some 2
 else
 (sYIsSortedFunc_api_RefEvent_at_history_Valid_4 a0.Events).bind fun y7=>
 if(!y7)=true then
  some 11
 else
 (iter (hYValid_l0 a0) (0,[])).bind fun q13=>
 match q13 with
 | .inl v8=>
  some 0
 | .inr r12=>
  some r12
noncomputable def hYrefs_l0 (a0:zR) (a1:Int) (s2:Int×(List (ByteArray×Int))):Option (Lp (Int×(List (ByteArray×Int))) (List (ByteArray×Int))):=
 if(decide (s2.1 < ((a0.Events).length:Int)))=true then
  (idx a0.Events s2.1).bind fun x3=>
  if(decide (a1 < x3.Time))=true then
   some (.out s2.2)
  else
  if(x3.Kind==1)=true then
   some (.go (IntKind.i64.wrap (s2.1+1),(mset stE s2.2 x3.Name x3.Commit)))
  else
   some (.go (IntKind.i64.wrap (s2.1+1),(mdel stE s2.2 x3.Name)))
 else
  some (.out s2.2)
noncomputable def hYrefs (a0:zR) (a1:Int):Option ((List (ByteArray×Int))):=
 (iter (hYrefs_l0 a0 a1) (0,[])).bind fun v1=>
 some v1
noncomputable def rYInts_l0 (a0:List Int) (a1:List Int) (s2:Int):Option (Lp Int (Unit ⊕ Bool)):=
 if(decide (s2 < ((a0).length:Int)))=true then
  (idx a0 s2).bind fun x3=>
  (idx a1 s2).bind fun x4=>
  if(x3 != x4)=true then
   some (.out (.inr false))
  else
   some (.go (IntKind.i64.wrap (s2+1)))
 else
  some (.out (.inl ()))
noncomputable def rYInts (a0:List Int) (a1:List Int):Option (Bool):=
 if(((a0).length:Int) != ((a1).length:Int))=true then
  some false
 else
 (iter (rYInts_l0 a0 a1) 0).bind fun q6=>
 match q6 with
 | .inl v1=>
  some true
 | .inr r5=>
  some r5
noncomputable def rYItems_l0 (a0:List zI) (a1:List zI) (s2:Int):Option (Lp Int (Unit ⊕ Bool)):=
 if(decide (s2 < ((a0).length:Int)))=true then
  (idx a0 s2).bind fun x3=>
  (idx a1 s2).bind fun x4=>
  if(!(((x3.Name).toList==(x4.Name).toList)&&(x3.ID==x4.ID)))=true then
   some (.out (.inr false))
  else
   some (.go (IntKind.i64.wrap (s2+1)))
 else
  some (.out (.inl ()))
noncomputable def rYItems (a0:List zI) (a1:List zI):Option (Bool):=
 if(((a0).length:Int) != ((a1).length:Int))=true then
  some false
 else
 (iter (rYItems_l0 a0 a1) 0).bind fun q6=>
 match q6 with
 | .inl v1=>
  some true
 | .inr r5=>
  some r5
end Go.Vl
namespace Go.Vl
open Go Go.Proofs
theorem zT_Next_ok {a0:zT} {a1:Int} {r:Int×zT} (h0:zT_Next a0 a1=some r):FnOK Tryz.prog 12 [zTa a0] [.ptr (InO 0) 0,.d (.int .i64 a1)] (.d (.int .i64 r.1)) [zTa r.2]:=by
 unfold zT_Next at h0
 refine fn_ok (nt:=37) (rs:=[.tmp 4]) Tryz.func12 rfl Tryz.ntmps12 rfl (by simp) (by decide) rfl fun K=>?_
 refine kr [0,1] (by simp;rfl) ?_
 refine trq ?_
 refine kd [[],[0],[1],[2],[],[4],[5],[6],[7],[3,8]] [] [] none [] 10 fol (by decide +kernel) (by simp) ?_
 refine dr_go 0 2 rfl (by simp (maxSteps:=1000000);rfl) ?_
 refine dr_go 2 2 rfl (by simp (maxSteps:=1000000);rfl) ?_
 refine dr_go 4 2 rfl (by simp (maxSteps:=1000000);rfl) ?_
 refine dr_go 6 2 rfl (by simp (maxSteps:=1000000);rfl) ?_
 refine dr_go 8 2 rfl (by simp (maxSteps:=1000000);rfl) ?_
 refine dr_end rfl (tpN ?_)
 refine trc (b:=(decide (((a0.L).length:Int)≤a0.at_))) (by simp) (fun c1=>?_) (fun c1=>?_)
 ·rw[if_pos c1] at h0
  refine kr [4] (by simp;rfl) ?_
  cases h0
  exact trr ⟨[],by simp,rfl,by simp⟩
 ·rw[if_neg (by rw[c1];decide)] at h0
  refine trk ?_
  refine kd [[],[0],[1],[2],[],[4],[5],[6],[3,7],[8],[9],[10]] [] [] none [] 12 fol (by decide +kernel) (by simp) ?_
  replace h0:=bnd h0;obtain⟨x1,p3,h0⟩:=h0
  replace p3:=idx_some p3
  have p3':=p3;try simp at p3'
  refine dr_go 0 2 rfl (by simp (maxSteps:=1000000) [p3,p3'];rfl) ?_
  refine dr_go 2 2 rfl (by simp (maxSteps:=1000000) [p3,p3'];rfl) ?_
  refine dr_go 4 2 rfl (by simp (maxSteps:=1000000) [p3,p3'];rfl) ?_
  refine dr_go 6 2 rfl (by simp (maxSteps:=1000000) [p3,p3'];rfl) ?_
  refine dr_go 8 2 rfl (by simp (maxSteps:=1000000) [p3,p3'];rfl) ?_
  refine dr_go 10 2 rfl (by simp (maxSteps:=1000000) [p3,p3'];rfl) ?_
  refine dr_end rfl (tpN ?_)
  refine kr [1,5] (by simp;rfl) ?_
  replace h0:=bnd h0;obtain⟨_,p4,h0⟩:=h0
  replace p4:=ck_some p4
  have p4':=p4;try simp at p4'
  refine kr [4] (by simp[p4,p4'];rfl) ?_
  cases h0
  exact trr ⟨[],by simp,rfl,by simp⟩
theorem zT_Between_ok {a0:zT} {a1:Int} {a2:Int} {r:Int×zT} (h0:zT_Between a0 a1 a2=some r):FnOK Tryz.prog 26 [zTa a0] [.ptr (InO 0) 0,.d (.int .i64 a1),.d (.int .i64 a2)] (.d (.int .i64 r.1)) [zTa r.2]:=by
 unfold zT_Between at h0
 refine fn_ok (nt:=15) (rs:=[.tmp 6]) Tryz.func26 rfl Tryz.ntmps26 rfl (by simp) (by decide) rfl fun K=>?_
 refine kr [0,1,2] (by simp;rfl) ?_
 refine kc ?_
 refine ko [7,8,12] 6 (by simp;rfl) ?_
 replace h0:=bnd h0;obtain⟨y1,hy1,h0⟩:=h0
 refine kcall [7,13] [1000000] (zT_Next_ok hy1) rfl rfl rfl Tryz.call12 (by simp) (by simp;rfl) ?_
 refine ko [6] 2 (by simp;rfl) ?_
 refine tpN ?_
 cases h0
 exact trr ⟨[],by simp,rfl,by simp⟩
theorem mYBytes_ok {a0:zT} {a1:Int} {r:(List Int)×zT} (h0:mYBytes a0 a1=some r):FnOK Tryz.prog 27 [zTa a0] [.ptr (InO 0) 0,.d (.int .i64 a1)] (.d (.slice (rowsF (iRow .u8) r.1))) [zTa r.2]:=by
 unfold mYBytes at h0
 refine fn_ok (nt:=47) (rs:=[.tmp 4]) Tryz.func27 rfl Tryz.ntmps27 rfl (by simp) (by decide) rfl fun K=>?_
 refine kr [0,1] (by simp;rfl) ?_
 refine kr [0,1,5] (by simp;rfl) ?_
 refine trq ?_
 refine kr [0,1,5,6] (by simp;rfl) ?_
 refine tr_wk (wk_own 5 27 5 1 (by simp) (by simp)) ?_
 replace h0:=bnd h0;obtain⟨e1,hI1,h0⟩:=h0
 refine tjv (fun v1:(List Int)×Int×(List Int)=>({ nt:=47,env:=[(5,.vec 27)],box:=[(1000000,[.d (.slice (rowsF (iRow .i64) v1.1)),.d (.int .i64 v1.2.1)])],vec:=[(27,⟨5,1,rowsF (iRow .u8) v1.2.2⟩)]}:St)) (fun v1=>v1=e1) (fun v1 hI1e _ W1=>?_) ?_
 ·subst hI1e
  refine tr_wk W1 ?_
  refine kr [4] (by simp;rfl) ?_
  cases h0
  exact trr ⟨[27],by simp,rfl,by simp⟩
 ·refine trb (tr_iter (fun s2:Int×(List Int)×Int×(List Int)=>({ nt:=47,env:=[(0,.ptr 1000000 0),(1,.d (.int .i64 a1)),(5,.vec 27),(6,.d (.int .i64 s2.1))],box:=[(1000000,[.d (.slice (rowsF (iRow .i64) s2.2.1)),.d (.int .i64 s2.2.2.1)])],vec:=[(27,⟨5,1,rowsF (iRow .u8) s2.2.2.2⟩)]}:St)) hI1 (wk (by simp[wkI])) fun G1 s2 o1 h1 hg1 he1=>?_)
  unfold mYBytes_l0 at h1
  refine trq ?_
  refine kr [0,1,5,6,9] (by simp;rfl) ?_
  refine trc (b:=(decide (s2.1 < a1))) (by simp) (fun c16=>?_) (fun c16=>?_)
  ·rw[if_pos c16] at h1
   refine trk ?_
   refine trq ?_
   refine trb ?_
   refine kc ?_
   refine ko [0,1,5,6,12] 1 (by simp;rfl) ?_
   replace h1:=bnd h1;obtain⟨y3,hy3,h1⟩:=h1
   refine kcall [0,1,5,6,13] [1000000] (zT_Next_ok hy3) rfl rfl rfl Tryz.call12 (by simp) (by simp;rfl) ?_
   refine tpN ?_
   refine trb ?_
   refine kr [0,1,5,6,13,20] (by simp;rfl) ?_
   refine trc (b:=(y3.1==0)) (by simp) (fun c17=>?_) (fun c17=>?_)
   ·rw[if_pos c17] at h1
    refine kc1 ?_
    refine ko [0,1,6,22,23] 2 (by simp;rfl) ?_
    replace h1:=bnd h1;obtain⟨y4,hy4,h1⟩:=h1
    refine kcall [0,1,6,22,24] [1000000] (zT_Next_ok hy4) rfl rfl rfl Tryz.call12 (by simp) (by simp;rfl) ?_
    replace h1:=bnd h1;obtain⟨x5,p21,h1⟩:=h1
    have ix22:indexVA Tryz.prog 9 (.d (.str (⟨#[32,10,61,37,43,47,45,46]⟩:ByteArray))) y4.1=some (.d (.int .u8 x5)):=index_str Tryz.underlying9 p21
    replace h1:=bnd h1;obtain⟨_,p23,h1⟩:=h1
    replace p23:=ck_some p23
    have p23':=p23;try simp at p23'
    refine ko [0,1,5,6] 4 (by simp[ix22, -indexVA,p23,p23'];rfl) ?_
    refine tpN ?_
    refine lr (by simp;rfl) ?_
    exact⟨_,hg1 _ (Option.some.inj h1),wk (by simp[wkI])⟩
   ·rw[if_neg (by rw[c17];decide)] at h1
    refine kr [0,1,5,6,13,28] (by simp;rfl) ?_
    refine trc (b:=(y3.1==1)) (by simp) (fun c18=>?_) (fun c18=>?_)
    ·rw[if_pos c18] at h1
     refine kc1 ?_
     refine ko [0,1,6,30,31] 2 (by simp;rfl) ?_
     replace h1:=bnd h1;obtain⟨y6,hy6,h1⟩:=h1
     refine kcall [0,1,6,30,32] [1000000] (zT_Next_ok hy6) rfl rfl rfl Tryz.call12 (by simp) (by simp;rfl) ?_
     replace h1:=bnd h1;obtain⟨_,p24,h1⟩:=h1
     replace p24:=ck_some p24
     have p24':=p24;try simp at p24'
     refine ko [0,1,5,6] 4 (by simp[p24,p24'];rfl) ?_
     refine tpN ?_
     refine lr (by simp;rfl) ?_
     exact⟨_,hg1 _ (Option.some.inj h1),Wk.trans (wk_ren 35 27) (wk (by simp[wkI]))⟩
    ·rw[if_neg (by rw[c18];decide)] at h1
     refine sjv (fun v7:Bool=>({ nt:=47,env:=[(0,.ptr 1000000 0),(1,.d (.int .i64 a1)),(5,.vec 27),(6,.d (.int .i64 s2.1)),(36,.d (.bool v7))],box:=[(1000000,[.d (.slice (rowsF (iRow .i64) y3.2.L)),.d (.int .i64 y3.2.at_)])],vec:=[(27,⟨5,1,rowsF (iRow .u8) s2.2.2.2⟩)]}:St)) (fun v7=>mYBytes_j1 y3 s2 v7=some o1) (fun v7 h1=>?_) ?_
     ·unfold mYBytes_j1 at h1
      refine trc (b:=v7) (by simp) (fun c20=>?_) (fun c20=>?_)
      ·rw[if_pos c20] at h1
       refine kc1 ?_
       refine ko [0,1,6,39,40] 2 (by simp;rfl) ?_
       replace h1:=bnd h1;obtain⟨y8,hy8,h1⟩:=h1
       refine kcall [0,1,6,39,41] [1000000] (zT_Next_ok hy8) rfl rfl rfl Tryz.call12 (by simp) (by simp;rfl) ?_
       replace h1:=bnd h1;obtain⟨_,p25,h1⟩:=h1
       replace p25:=ck_some p25
       have p25':=p25;try simp at p25'
       refine ko [0,1,5,6] 5 (by simp[p25,p25'];rfl) ?_
       refine tpN ?_
       refine lr (by simp;rfl) ?_
       exact⟨_,hg1 _ (Option.some.inj h1),Wk.trans (wk_ren 45 27) (wk (by simp[wkI]))⟩
      ·rw[if_neg (by rw[c20];decide)] at h1
       refine kc1 ?_
       refine ko [0,1,6,14,15] 2 (by simp;rfl) ?_
       replace h1:=bnd h1;obtain⟨y9,hy9,h1⟩:=h1
       refine kcall [0,1,6,14,16] [1000000] (zT_Next_ok hy9) rfl rfl rfl Tryz.call12 (by simp) (by simp;rfl) ?_
       replace h1:=bnd h1;obtain⟨x10,p26,h1⟩:=h1
       have ix27:indexVA Tryz.prog 9 (.d (.str (⟨#[97,98,99,100,101,102,116,107]⟩:ByteArray))) y9.1=some (.d (.int .u8 x10)):=index_str Tryz.underlying9 p26
       replace h1:=bnd h1;obtain⟨_,p28,h1⟩:=h1
       replace p28:=ck_some p28
       have p28':=p28;try simp at p28'
       refine ko [0,1,5,6] 4 (by simp[ix27, -indexVA,p28,p28'];rfl) ?_
       refine tpN ?_
       refine lr (by simp;rfl) ?_
       exact⟨_,hg1 _ (Option.some.inj h1),Wk.trans (wk_ren 19 27) (wk (by simp[wkI]))⟩
     ·refine kr [0,1,5,6,13,36] (by simp;rfl) ?_
      refine trc (b:=(y3.1==2)) (by simp) (fun c21=>?_) (fun c21=>?_)
      ·rw[if_pos c21] at h1
       refine trk ?_
       exact⟨_,h1,wk (by simp[wkI])⟩
      ·rw[if_neg (by rw[c21];decide)] at h1
       refine lr (by simp;rfl) ?_
       exact⟨_,h1,wk (by simp[wkI])⟩
  ·rw[if_neg (by rw[c16];decide)] at h1
   refine tr_exit ?_
   exact⟨_,he1 _ (Option.some.inj h1),wk (by simp[wkI])⟩
theorem mYEvents_ok {a0:zT} {a1:List Int} {r:(List zE)×zT} (h0:mYEvents a0 a1=some r):FnOK Tryz.prog 28 [zTa a0] [.ptr (InO 0) 0,.d (.slice (rowsF (iRow .i64) a1))] (.d (.slice (rowsF zEr r.1))) [zTa r.2]:=by
 unfold mYEvents at h0
 refine fn_ok (nt:=60) (rs:=[.tmp 4]) Tryz.func28 rfl Tryz.ntmps28 rfl (by simp) (by decide) rfl fun K=>?_
 refine kr [0,1] (by simp;rfl) ?_
 refine kr [0,1,5] (by simp;rfl) ?_
 refine kr [0,1,5,6] (by simp;rfl) ?_
 refine kc ?_
 refine ko [0,1,5,6,11] 1 (by simp;rfl) ?_
 replace h0:=bnd h0;obtain⟨y1,hy1,h0⟩:=h0
 refine kcall [0,1,5,6,12] [1000000] (zT_Next_ok hy1) rfl rfl rfl Tryz.call12 (by simp) (by simp;rfl) ?_
 refine ko [0,1,5,6,7] 1 (by simp;rfl) ?_
 refine tpN ?_
 refine trq ?_
 refine kc ?_
 refine ko [0,1,5,6,7,13] 1 (by simp;rfl) ?_
 replace h0:=bnd h0;obtain⟨y2,hy2,h0⟩:=h0
 refine kcall [0,1,5,6,7,14] [1000000] (zT_Next_ok hy2) rfl rfl rfl Tryz.call12 (by simp) (by simp;rfl) ?_
 refine ko [0,1,5,6,7,8] 1 (by simp;rfl) ?_
 refine tpN ?_
 refine tr_wk (wk_own 5 43 60 4 (by simp) (by simp)) ?_
 replace h0:=bnd h0;obtain⟨e1,hI1,h0⟩:=h0
 refine tjv (fun v3:(List Int)×Int×(List zE)=>({ nt:=60,env:=[(5,.vec 43)],box:=[(1000000,[.d (.slice (rowsF (iRow .i64) v3.1)),.d (.int .i64 v3.2.1)])],vec:=[(43,⟨60,4,rowsF zEr v3.2.2⟩)]}:St)) (fun v3=>v3=e1) (fun v3 hI1e _ W1=>?_) ?_
 ·subst hI1e
  refine tr_wk W1 ?_
  refine kr [4] (by simp;rfl) ?_
  cases h0
  exact trr ⟨[43],by simp,rfl,by simp⟩
 ·refine trb (tr_iter (fun s4:Int×Int×(List Int)×Int×(List (ByteArray×Bool))×(List zE)=>({ nt:=60,env:=[(0,.ptr 1000000 0),(1,.d (.slice (rowsF (iRow .i64) a1))),(5,.vec 43),(6,.vec 10),(7,.d (.int .i64 s4.1)),(8,.d (.int .i64 s4.2.1))],box:=[(1000000,[.d (.slice (rowsF (iRow .i64) s4.2.2.1)),.d (.int .i64 s4.2.2.2.1)])],vec:=[(10,⟨mTag 74 1 false false,2,rowsF (mRow sRow bRow) s4.2.2.2.2.1⟩),(43,⟨60,4,rowsF zEr s4.2.2.2.2.2⟩)]}:St)) hI1 (wk (by simp[wkI])) fun G1 s4 o1 h1 hg1 he1=>?_)
  unfold mYEvents_l0 at h1
  refine trq ?_
  refine kr [0,1,5,6,7,8,16] (by simp;rfl) ?_
  refine trc (b:=(decide (0 < s4.2.1))) (by simp) (fun c10=>?_) (fun c10=>?_)
  ·rw[if_pos c10] at h1
   refine trk ?_
   refine trq ?_
   refine trb ?_
   refine kc ?_
   refine ko [0,1,5,6,8,19,20] 2 (by simp;rfl) ?_
   replace h1:=bnd h1;obtain⟨y5,hy5,h1⟩:=h1
   refine kcall [0,1,5,6,8,19,21] [1000000] (zT_Next_ok hy5) rfl rfl rfl Tryz.call12 (by simp) (by simp;rfl) ?_
   refine ko [0,1,5,6,7,8] 2 (by simp;rfl) ?_
   refine tpN ?_
   refine kc ?_
   refine ko [0,1,5,6,7,8,23,24] 2 (by simp;rfl) ?_
   replace h1:=bnd h1;obtain⟨y6,hy6,h1⟩:=h1
   refine kcall [0,1,5,6,7,8,23,25] [1000000] (zT_Next_ok hy6) rfl rfl rfl Tryz.call12 (by simp) (by simp;rfl) ?_
   replace h1:=bnd h1;obtain⟨_,p16,h1⟩:=h1
   replace p16:=ck_some p16
   have p16':=p16;try simp at p16'
   have p16o:y6.1 < ((([(⟨#[109,97,105,110]⟩:ByteArray),(⟨#[111,108,100]⟩:ByteArray),(⟨#[120]⟩:ByteArray)])).length:Int):=by omega
   replace h1:=bnd h1;obtain⟨x7,p17,h1⟩:=h1
   replace p17:=idx_some p17
   have p17':=p17;try simp at p17'
   have p17q:(rowsF sRow [(⟨#[109,97,105,110]⟩:ByteArray),(⟨#[111,108,100]⟩:ByteArray),(⟨#[120]⟩:ByteArray)])[(Int.toNat y6.1)]? =some (sRow x7):=by(first |(rw [rowsF_get,p17.2];rfl) |(have q:=p17.2;simp at q;subst q;rfl))
   try simp[-getElem?_pos] at p17q
   refine ko [0,1,5,6,7,8,9] 3 (by simp[-getElem?_pos,List.getElem?_cons_zero,List.getElem?_cons_succ,p16,p16o,p17,p17q,p16',p17'];rfl) ?_
   refine tpN ?_
   refine trq ?_
   replace h1:=bnd h1;obtain⟨v8,hvv8,h1⟩:=h1
   refine sjv (fun v8_:Bool×(List Int)×Int=>({ nt:=60,env:=[(0,.ptr 1000000 0),(1,.d (.slice (rowsF (iRow .i64) a1))),(5,.vec 43),(6,.vec 10),(7,.d (.int .i64 (IntKind.i64.wrap (s4.1+y5.1)))),(8,.d (.int .i64 s4.2.1)),(9,.d (.str x7)),(35,.d (.bool v8_.1))],box:=[(1000000,[.d (.slice (rowsF (iRow .i64) v8_.2.1)),.d (.int .i64 v8_.2.2)])],vec:=[(10,⟨mTag 74 1 false false,2,rowsF (mRow sRow bRow) s4.2.2.2.2.1⟩),(43,⟨60,4,rowsF zEr s4.2.2.2.2.2⟩)]}:St)) (fun v8_=>v8=v8_) (fun v8_ e=>?_) ?_
   ·subst e
    refine trc (b:=v8.1) (by simp) (fun c13=>?_) (fun c13=>?_)
    ·rw[if_pos c13] at h1
     refine kr [0,1,5,6,7,8,9] (by simp;rfl) ?_
     replace h1:=bnd h1;obtain⟨_,p19,h1⟩:=h1
     replace p19:=ck_some p19
     have p19':=p19;try simp at p19'
     refine kr [0,1,5,6,7,8] (by simp[p19,p19'];rfl) ?_
     refine tr_exit ?_
     refine lr (by simp;rfl) ?_
     exact⟨_,hg1 _ (Option.some.inj h1),wk (by simp[wkI])⟩
    ·rw[if_neg (by rw[c13];decide)] at h1
     refine trk ?_
     refine kr [0,1,5,6,7,8,9] (by simp;rfl) ?_
     refine kc1 ?_
     refine ko [0,1,6,7,8,46,47,48,49,51] 6 (by simp;rfl) ?_
     replace h1:=bnd h1;obtain⟨y9,hy9,h1⟩:=h1
     refine kcall [0,1,6,7,8,46,47,48,52] [1000000] (zT_Next_ok hy9) rfl rfl rfl Tryz.call12 (by simp) (by simp;rfl) ?_
     replace h1:=bnd h1;obtain⟨x10,p20,h1⟩:=h1
     replace p20:=idx_some p20
     have p20':=p20;try simp at p20'
     replace h1:=bnd h1;obtain⟨_,p21,h1⟩:=h1
     replace p21:=ck_some p21
     have p21':=p21;try simp at p21'
     refine ko [0,1,5,6,7,8] 7 (by simp[p20,p21,p20',p21'];rfl) ?_
     refine tpN ?_
     refine lr (by simp;rfl) ?_
     exact⟨_,hg1 _ (Option.some.inj h1),Wk.trans (wk_ren 58 43) (wk (by simp[wkI]))⟩
   ·refine kc1 ?_
    refine ko [0,1,5,6,7,8,9,31] 4 (by simp;rfl) ?_
    refine tops_split 31 ((mget stE s4.2.2.2.2.1 x7).getD false) (by simp) (fun c14=>?_) (fun c14=>?_)
    ·rw[if_pos c14] at hvv8
     refine ko [0,1,5,6,7,8,9,31,32] 1 (by simp;rfl) ?_
     replace hvv8:=bnd hvv8;obtain⟨y11,hy11,hvv8⟩:=hvv8
     refine kcall [0,1,5,6,7,8,9,31,32,33] [1000000] (zT_Next_ok hy11) rfl rfl rfl Tryz.call12 (by simp) (by simp;rfl) ?_
     refine ko [0,1,5,6,7,8,9,32,33,34,35] 2 (by simp;rfl) ?_
     refine tpN ?_
     cases hvv8
     exact⟨_,rfl,wk (by simp[wkI])⟩
    ·rw[if_neg (by rw[c14];decide)] at hvv8
     refine kskip 3 [] (by kernel_rfl) ?_
     refine ko [0,1,5,6,7,8,9,35] 1 (by simp;rfl) ?_
     refine tpN ?_
     cases hvv8
     exact⟨_,rfl,wk (by simp[wkI])⟩
  ·rw[if_neg (by rw[c10];decide)] at h1
   refine tr_exit ?_
   exact⟨_,he1 _ (Option.some.inj h1),wk (by simp[wkI])⟩
theorem mYRepository_1_cbbo0_ok {a0:zO} {a1:Int} {a2:zR} {r:Int×Int×zR} (h0:mYRepository_1_cbbo0 a0 a1 a2=some r):FnOKv Tryz.prog 25 [[.d (.int .i64 a1)],[.vec (InV 0),.d (.slice (rowsF zEr a2.Events))]] [⟨47,8,rowsF zOr a2.Objects⟩] [.agg (zOa a0),.ptr (InO 0) 0,.ptr (InO 1) 0] (.d (.int .i64 r.1)) [[.d (.int .i64 r.2.1)],[.vec (InV 0),.d (.slice (rowsF zEr r.2.2.Events))]] [⟨47,8,rowsF zOr r.2.2.Objects⟩]:=by
 unfold mYRepository_1_cbbo0 at h0
 refine fn_okv (nt:=16) (rs:=[.tmp 4]) Tryz.func25 rfl Tryz.ntmps25 rfl (by simp) (by decide) rfl fun K=>?_
 refine kr [1,2,3] (by simp;rfl) ?_
 refine kr [1,2,3] (by simp;rfl) ?_
 refine kr [1,2,3] (by simp;rfl) ?_
 replace h0:=bnd h0;obtain⟨_,p2,h0⟩:=h0
 replace p2:=ck_some p2
 have p2':=p2;try simp at p2'
 refine kr [1] (by simp[p2,p2'];rfl) ?_
 refine kr [4] (by simp;rfl) ?_
 cases h0
 exact trr ⟨[],[13],by simp,by simp,by simp,by simp,by simp⟩
theorem mYRepository_ok {a0:zT} {r:zR×zT} (h0:mYRepository a0=some r):FnOK Tryz.prog 4 [zTa a0] [.ptr (InO 0) 0] (.agg (zRa r.1)) [zTa r.2]:=by
 unfold mYRepository at h0
 refine fn_ok (nt:=143) (rs:=[.cell 2 26]) Tryz.func4 rfl Tryz.ntmps4 rfl (by simp) (by decide) rfl fun K=>?_
 refine kr [0,2] (by simp;rfl) ?_
 refine kr [0,2,3] (by simp;rfl) ?_
 refine kr [0,2,3,4,5,6] (by simp;rfl) ?_
 refine kr [0,2,3,4,5,6,7] (by simp;rfl) ?_
 refine kr [0,2,3,4,5,6,8] (by simp;rfl) ?_
 refine trq ?_
 refine kc ?_
 refine ko [0,2,3,4,5,6,8,18] 1 (by simp;rfl) ?_
 replace h0:=bnd h0;obtain⟨y1,hy1,h0⟩:=h0
 refine kcall [0,2,3,4,5,6,8,19] [1000000] (zT_Between_ok hy1) rfl rfl rfl Tryz.call26 (by simp) (by simp;rfl) ?_
 refine ko [0,2,3,4,5,6,8,9] 1 (by simp;rfl) ?_
 refine tpN ?_
 refine tr_wk (wk_own 4 33 3 1 (by simp) (by simp)) ?_
 refine tr_wk (wk_ownbox 3 0 400120 47 8 (by simp;rfl) (by simp) (by simp)) ?_
 replace h0:=bnd h0;obtain⟨e1,hI1,h0⟩:=h0
 refine tjv (fun v2:(List Int)×Int×(List zE)×Int×(List Int)×(List zO)=>({ nt:=143,env:=[(0,.ptr 1000000 0),(2,.ptr 2 0),(3,.ptr 3 0),(4,.vec 33),(5,.nilS),(6,.nilS),(8,.fn 25 [.ptr 7 0,.ptr 3 0])],box:=[(2,[.nilS,.nilS]),(3,[.vec 400120,.d (.slice (rowsF zEr v2.2.2.1))]),(7,[.d (.int .i64 v2.2.2.2.1)]),(1000000,[.d (.slice (rowsF (iRow .i64) v2.1)),.d (.int .i64 v2.2.1)])],vec:=[(33,⟨3,1,rowsF (iRow .i64) v2.2.2.2.2.1⟩),(400120,⟨47,8,rowsF zOr v2.2.2.2.2.2⟩)]}:St)) (fun v2=>v2=e1) (fun v2 hI1e _ W1=>?_) ?_
 ·subst hI1e
  refine tr_wk W1 ?_
  refine trq ?_
  refine kc ?_
  refine ko [0,2,3,4,5,6,8,34] 1 (by simp;rfl) ?_
  replace h0:=bnd h0;obtain⟨y3,hy3,h0⟩:=h0
  refine kcall [0,2,3,4,5,6,8,35] [1000000] (zT_Between_ok hy3) rfl rfl rfl Tryz.call26 (by simp) (by simp;rfl) ?_
  refine ko [0,2,3,4,5,6,8,10] 1 (by simp;rfl) ?_
  refine tpN ?_
  refine tr_wk (wk_own 5 90 3 1 (by simp) (by simp)) ?_
  replace h0:=bnd h0;obtain⟨e2,hI2,h0⟩:=h0
  refine tjv (fun v4:(List Int)×Int×(List zE)×Int×(List zO)×(List Int)=>({ nt:=143,env:=[(0,.ptr 1000000 0),(2,.ptr 2 0),(3,.ptr 3 0),(5,.vec 90),(6,.nilS),(8,.fn 25 [.ptr 7 0,.ptr 3 0])],box:=[(2,[.nilS,.nilS]),(3,[.vec 400120,.d (.slice (rowsF zEr v4.2.2.1))]),(7,[.d (.int .i64 v4.2.2.2.1)]),(1000000,[.d (.slice (rowsF (iRow .i64) v4.1)),.d (.int .i64 v4.2.1)])],vec:=[(90,⟨3,1,rowsF (iRow .i64) v4.2.2.2.2.2⟩),(400120,⟨47,8,rowsF zOr v4.2.2.2.2.1⟩)]}:St)) (fun v4=>v4=e2) (fun v4 hI2e _ W2=>?_) ?_
  ·subst hI2e
   refine tr_wk W2 ?_
   refine trq ?_
   refine kc ?_
   refine ko [0,2,3,5,6,8,91] 1 (by simp;rfl) ?_
   replace h0:=bnd h0;obtain⟨y5,hy5,h0⟩:=h0
   refine kcall [0,2,3,5,6,8,92] [1000000] (zT_Between_ok hy5) rfl rfl rfl Tryz.call26 (by simp) (by simp;rfl) ?_
   refine ko [0,2,3,5,6,8,14] 1 (by simp;rfl) ?_
   refine tpN ?_
   refine tr_wk (wk_own 6 137 3 1 (by simp) (by simp)) ?_
   replace h0:=bnd h0;obtain⟨e3,hI3,h0⟩:=h0
   refine tjv (fun v6:(List Int)×Int×(List zE)×(List zO)×(List Int)=>({ nt:=143,env:=[(0,.ptr 1000000 0),(2,.ptr 2 0),(3,.ptr 3 0),(6,.vec 137)],box:=[(2,[.nilS,.nilS]),(3,[.vec 400120,.d (.slice (rowsF zEr v6.2.2.1))]),(1000000,[.d (.slice (rowsF (iRow .i64) v6.1)),.d (.int .i64 v6.2.1)])],vec:=[(137,⟨3,1,rowsF (iRow .i64) v6.2.2.2.2⟩),(400120,⟨47,8,rowsF zOr v6.2.2.2.1⟩)]}:St)) (fun v6=>v6=e3) (fun v6 hI3e _ W3=>?_) ?_
   ·subst hI3e
    refine tr_wk W3 ?_
    refine kc ?_
    refine ko [2,3,138,139] 2 (by simp;rfl) ?_
    refine tops_wk (wk_frz 137) ?_
    replace h0:=bnd h0;obtain⟨y7,hy7,h0⟩:=h0
    refine kcall [2,3,140] [1000000] (mYEvents_ok hy7) rfl rfl rfl Tryz.call28 (by simp) (by simp;rfl) ?_
    refine ko [2,3] 2 (by simp;rfl) ?_
    refine tpN ?_
    refine kr [2] (by simp;rfl) ?_
    cases h0
    exact trr ⟨[400120],by simp,rfl,by simp⟩
   ·refine trb (tr_iter (fun s8:Int×(List Int)×Int×(List zE)×Int×(List zO)×(List Int)=>({ nt:=143,env:=[(0,.ptr 1000000 0),(2,.ptr 2 0),(3,.ptr 3 0),(5,.vec 90),(6,.vec 137),(8,.fn 25 [.ptr 7 0,.ptr 3 0]),(14,.d (.int .i64 s8.1))],box:=[(2,[.nilS,.nilS]),(3,[.vec 400120,.d (.slice (rowsF zEr s8.2.2.2.1))]),(7,[.d (.int .i64 s8.2.2.2.2.1)]),(1000000,[.d (.slice (rowsF (iRow .i64) s8.2.1)),.d (.int .i64 s8.2.2.1)])],vec:=[(90,⟨3,1,rowsF (iRow .i64) v4.2.2.2.2.2⟩),(137,⟨3,1,rowsF (iRow .i64) s8.2.2.2.2.2.2⟩),(400120,⟨47,8,rowsF zOr s8.2.2.2.2.2.1⟩)]}:St)) hI3 (wk (by simp[wkI])) fun G3 s8 o3 h3 hg3 he3=>?_)
    unfold mYRepository_l2 at h3
    refine trq ?_
    refine kr [0,2,3,5,6,8,14,94] (by simp;rfl) ?_
    refine trc (b:=(decide (0 < s8.1))) (by simp) (fun c73=>?_) (fun c73=>?_)
    ·rw[if_pos c73] at h3
     refine trk ?_
     refine trq ?_
     refine trb ?_
     refine kd [[],[],[],[2],[1,3],[0,3,4],[3,5],[],[3,4,7],[3,6,8],[],[3,9,10]] [4,8,10,11] [(15,[10,11]),(1000000,[4,8])] none [] 12 fol (by decide +kernel) (by simp) ?_
     refine dr_go 0 2 rfl (by simp (maxSteps:=1000000);rfl) ?_
     refine dr_go 2 2 rfl (by simp (maxSteps:=1000000);rfl) ?_
     replace h3:=bnd h3;obtain⟨y9,hy9,h3⟩:=h3
     refine dr_call 4 [1000000] (zT_Next_ok hy9) rfl rfl rfl rfl rfl Tryz.call12 (by simp) ?_
     replace h3:=bnd h3;obtain⟨_,p279,h3⟩:=h3
     replace p279:=ck_some p279
     have p279':=p279;try simp at p279'
     have p279o:y9.1 < (((v4.2.2.2.2.2)).length:Int):=by omega
     replace h3:=bnd h3;obtain⟨x10,p280,h3⟩:=h3
     replace p280:=idx_some p280
     have p280':=p280;try simp at p280'
     refine dr_go 5 2 rfl (by simp (maxSteps:=1000000) [-getElem?_pos,List.getElem?_cons_zero,List.getElem?_cons_succ,p279,p279o,p280,p279',p280'];rfl) ?_
     refine dr_go 7 1 rfl (by simp (maxSteps:=1000000) [-getElem?_pos,List.getElem?_cons_zero,List.getElem?_cons_succ,p279,p279o,p280,p279',p280'];rfl) ?_
     replace h3:=bnd h3;obtain⟨y11,hy11,h3⟩:=h3
     refine dr_call 8 [1000000] (zT_Next_ok hy11) rfl rfl rfl rfl rfl Tryz.call12 (by simp) ?_
     refine dr_go 9 2 rfl (by simp (maxSteps:=1000000);rfl) ?_
     refine dr_go 11 1 rfl (by simp (maxSteps:=1000000);rfl) ?_
     refine dr_end rfl (tpN ?_)
     refine trq ?_
     refine kr [0,2,3,5,6,8,14,15,16] (by simp;rfl) ?_
     refine tr_wk (wk_ownbox 15 5 130 3 1 (by simp;rfl) (by simp) (by simp)) ?_
     replace h3:=bnd h3;obtain⟨e4,hI4,h3⟩:=h3
     refine tjv (fun v12:(List Int)×Int×(List Int)=>({ nt:=143,env:=[(0,.ptr 1000000 0),(2,.ptr 2 0),(3,.ptr 3 0),(5,.vec 90),(6,.vec 137),(8,.fn 25 [.ptr 7 0,.ptr 3 0]),(14,.d (.int .i64 s8.1)),(15,.ptr 15 0)],box:=[(2,[.nilS,.nilS]),(3,[.vec 400120,.d (.slice (rowsF zEr s8.2.2.2.1))]),(7,[.d (.int .i64 s8.2.2.2.2.1)]),(15,[.d (.int .i64 0),.d (.int .i64 3),.nilS,.nilS,.d (.int .i64 x10),.vec 130,.d (.str (⟨#[97,110,110]⟩:ByteArray)),.d (.int .i64 y11.1)]),(1000000,[.d (.slice (rowsF (iRow .i64) v12.1)),.d (.int .i64 v12.2.1)])],vec:=[(90,⟨3,1,rowsF (iRow .i64) v4.2.2.2.2.2⟩),(130,⟨3,1,rowsF (iRow .i64) v12.2.2⟩),(137,⟨3,1,rowsF (iRow .i64) s8.2.2.2.2.2.2⟩),(400120,⟨47,8,rowsF zOr s8.2.2.2.2.2.1⟩)]}:St)) (fun v12=>v12=e4) (fun v12 hI4e _ W4=>?_) ?_
     ·subst hI4e
      refine tr_wk W4 ?_
      refine kc1 ?_
      refine ko [0,2,3,5,8,14,132,133,134] 3 (by simp;rfl) ?_
      refine tops_wk (wk_frz 130) ?_
      replace h3:=bnd h3;obtain⟨y13,hy13,h3⟩:=h3
      refine kcallV [0,2,3,5,8,14,132,135] [7,3] [400120] [400120] (mYRepository_1_cbbo0_ok hy13) rfl rfl rfl Tryz.call25 (by simp) (by simp;rfl) ?_
      replace h3:=bnd h3;obtain⟨_,p311,h3⟩:=h3
      replace p311:=ck_some p311
      have p311':=p311;try simp at p311'
      refine ko [0,2,3,5,6,8,14] 3 (by simp[p311,p311'];rfl) ?_
      refine tpN ?_
      refine lr (by simp;rfl) ?_
      exact⟨_,hg3 _ (Option.some.inj h3),wk (by simp[wkI])⟩
     ·refine trb (tr_iter (fun s14:Int×(List Int)×Int×(List Int)=>({ nt:=143,env:=[(0,.ptr 1000000 0),(2,.ptr 2 0),(3,.ptr 3 0),(5,.vec 90),(6,.vec 137),(8,.fn 25 [.ptr 7 0,.ptr 3 0]),(14,.d (.int .i64 s8.1)),(15,.ptr 15 0),(16,.d (.int .i64 s14.1))],box:=[(2,[.nilS,.nilS]),(3,[.vec 400120,.d (.slice (rowsF zEr s8.2.2.2.1))]),(7,[.d (.int .i64 s8.2.2.2.2.1)]),(15,[.d (.int .i64 0),.d (.int .i64 3),.nilS,.nilS,.d (.int .i64 x10),.vec 130,.d (.str (⟨#[97,110,110]⟩:ByteArray)),.d (.int .i64 y11.1)]),(1000000,[.d (.slice (rowsF (iRow .i64) s14.2.1)),.d (.int .i64 s14.2.2.1)])],vec:=[(90,⟨3,1,rowsF (iRow .i64) v4.2.2.2.2.2⟩),(130,⟨3,1,rowsF (iRow .i64) s14.2.2.2⟩),(137,⟨3,1,rowsF (iRow .i64) s8.2.2.2.2.2.2⟩),(400120,⟨47,8,rowsF zOr s8.2.2.2.2.2.1⟩)]}:St)) hI4 (wk (by simp[wkI])) fun G4 s14 o4 h4 hg4 he4=>?_)
      unfold mYRepository_l3 at h4
      refine trq ?_
      replace h4:=bnd h4;obtain⟨v15,hvv15,h4⟩:=h4
      refine sjv (fun v15_:Bool=>({ nt:=143,env:=[(0,.ptr 1000000 0),(2,.ptr 2 0),(3,.ptr 3 0),(5,.vec 90),(6,.vec 137),(8,.fn 25 [.ptr 7 0,.ptr 3 0]),(14,.d (.int .i64 s8.1)),(15,.ptr 15 0),(16,.d (.int .i64 s14.1)),(117,.d (.bool v15_))],box:=[(2,[.nilS,.nilS]),(3,[.vec 400120,.d (.slice (rowsF zEr s8.2.2.2.1))]),(7,[.d (.int .i64 s8.2.2.2.2.1)]),(15,[.d (.int .i64 0),.d (.int .i64 3),.nilS,.nilS,.d (.int .i64 x10),.vec 130,.d (.str (⟨#[97,110,110]⟩:ByteArray)),.d (.int .i64 y11.1)]),(1000000,[.d (.slice (rowsF (iRow .i64) s14.2.1)),.d (.int .i64 s14.2.2.1)])],vec:=[(90,⟨3,1,rowsF (iRow .i64) v4.2.2.2.2.2⟩),(130,⟨3,1,rowsF (iRow .i64) s14.2.2.2⟩),(137,⟨3,1,rowsF (iRow .i64) s8.2.2.2.2.2.2⟩),(400120,⟨47,8,rowsF zOr s8.2.2.2.2.2.1⟩)]}:St)) (fun v15_=>v15=v15_) (fun v15_ e=>?_) ?_
      ·subst e
       refine trc (b:=v15) (by simp) (fun c85=>?_) (fun c85=>?_)
       ·rw[if_pos c85] at h4
        refine trk ?_
        refine trq ?_
        refine trb ?_
        refine kc ?_
        refine ko [0,2,3,5,6,8,14,15,16,120] 1 (by simp;rfl) ?_
        replace h4:=bnd h4;obtain⟨y16,hy16,h4⟩:=h4
        refine kcall [0,2,3,5,6,8,14,15,16,121] [1000000] (zT_Next_ok hy16) rfl rfl rfl Tryz.call12 (by simp) (by simp;rfl) ?_
        refine ko [0,2,3,5,6,8,14,15,16,122] 1 (by simp;rfl) ?_
        refine tpN ?_
        refine trc (b:=(y16.1==0)) (by simp) (fun c86=>?_) (fun c86=>?_)
        ·rw[if_pos c86] at h4
         refine tr_wk (wk_ren 130 700130) ?_
         refine kd1 [[],[0],[],[],[2,3],[4],[5],[1,6],[7],[1,7,8]] [7,9] [(15,[7,9])] (some (7,700130)) [124] 10 fol (by decide +kernel) (by simp) ?_
         replace h4:=bnd h4;obtain⟨_,p321,h4⟩:=h4
         replace p321:=ck_some p321
         have p321':=p321;try simp at p321'
         have p321o:s14.1 < (((s8.2.2.2.2.2.2)).length:Int):=by omega
         replace h4:=bnd h4;obtain⟨x17,p322,h4⟩:=h4
         replace p322:=idx_some p322
         have p322':=p322;try simp at p322'
         replace h4:=bnd h4;obtain⟨_,p323,h4⟩:=h4
         replace p323:=ck_some p323
         have p323':=p323;try simp at p323'
         refine dr_go 0 2 rfl (by simp (maxSteps:=1000000) [-getElem?_pos,List.getElem?_cons_zero,List.getElem?_cons_succ,p321,p321o,p322,p323,p321',p322',p323'];rfl) ?_
         refine dr_go 2 2 rfl (by simp (maxSteps:=1000000) [-getElem?_pos,List.getElem?_cons_zero,List.getElem?_cons_succ,p321,p321o,p322,p323,p321',p322',p323'];rfl) ?_
         refine dr_go 4 2 rfl (by simp (maxSteps:=1000000) [-getElem?_pos,List.getElem?_cons_zero,List.getElem?_cons_succ,p321,p321o,p322,p323,p321',p322',p323'];rfl) ?_
         refine dr_go 6 2 rfl (by simp (maxSteps:=1000000) [-getElem?_pos,List.getElem?_cons_zero,List.getElem?_cons_succ,p321,p321o,p322,p323,p321',p322',p323'];rfl) ?_
         refine dr_go 8 2 rfl (by simp (maxSteps:=1000000) [-getElem?_pos,List.getElem?_cons_zero,List.getElem?_cons_succ,p321,p321o,p322,p323,p321',p322',p323'];rfl) ?_
         refine dr_end rfl (tpN ?_)
         refine lr (by simp;rfl) ?_
         exact⟨_,hg4 _ (Option.some.inj h4),wk (by simp[wkI])⟩
        ·rw[if_neg (by rw[c86];decide)] at h4
         refine trk ?_
         refine lr (by simp;rfl) ?_
         exact⟨_,hg4 _ (Option.some.inj h4),wk (by simp[wkI])⟩
       ·rw[if_neg (by rw[c85];decide)] at h4
        refine tr_exit ?_
        exact⟨_,he4 _ (Option.some.inj h4),wk (by simp[wkI])⟩
      ·refine kc1 ?_
       refine ko [0,2,3,5,6,8,14,15,16,112] 3 (by simp;rfl) ?_
       refine tops_split 112 (decide (0≤s14.1)) (by simp) (fun c87=>?_) (fun c87=>?_)
       ·rw[c87] at hvv15
        refine ko [0,2,3,5,6,8,14,15,16,113,114,115,116,117] 5 (by simp;rfl) ?_
        refine tpN ?_
        cases hvv15
        exact⟨_,rfl,wk (by simp[wkI])⟩
       ·rw[c87] at hvv15
        refine kskip 4 [] (by kernel_rfl) ?_
        refine ko [0,2,3,5,6,8,14,15,16,117] 1 (by simp;rfl) ?_
        refine tpN ?_
        cases hvv15
        exact⟨_,rfl,wk (by simp[wkI])⟩
    ·rw[if_neg (by rw[c73];decide)] at h3
     refine tr_exit ?_
     exact⟨_,he3 _ (Option.some.inj h3),wk (by simp[wkI])⟩
  ·refine trb (tr_iter (fun s18:Int×(List Int)×Int×(List zE)×Int×(List zO)×(List Int)=>({ nt:=143,env:=[(0,.ptr 1000000 0),(2,.ptr 2 0),(3,.ptr 3 0),(4,.vec 33),(5,.vec 90),(6,.nilS),(8,.fn 25 [.ptr 7 0,.ptr 3 0]),(10,.d (.int .i64 s18.1))],box:=[(2,[.nilS,.nilS]),(3,[.vec 400120,.d (.slice (rowsF zEr s18.2.2.2.1))]),(7,[.d (.int .i64 s18.2.2.2.2.1)]),(1000000,[.d (.slice (rowsF (iRow .i64) s18.2.1)),.d (.int .i64 s18.2.2.1)])],vec:=[(33,⟨3,1,rowsF (iRow .i64) v2.2.2.2.2.1⟩),(90,⟨3,1,rowsF (iRow .i64) s18.2.2.2.2.2.2⟩),(400120,⟨47,8,rowsF zOr s18.2.2.2.2.2.1⟩)]}:St)) hI2 (wk (by simp[wkI])) fun G4 s18 o4 h4 hg4 he4=>?_)
   unfold mYRepository_l1 at h4
   refine trq ?_
   refine kr [0,2,3,4,5,6,8,10,37] (by simp;rfl) ?_
   refine trc (b:=(decide (0 < s18.1))) (by simp) (fun c88=>?_) (fun c88=>?_)
   ·rw[if_pos c88] at h4
    refine trk ?_
    refine trq ?_
    refine trb ?_
    refine kr [0,2,3,4,5,6,8,10,11] (by simp;rfl) ?_
    refine trq ?_
    refine kr [0,2,3,4,5,6,8,10,11,41,42,43] (by simp;rfl) ?_
    replace h4:=bnd h4;obtain⟨l19,hl19,h4⟩:=h4
    replace hl19:=Option.some.inj hl19
    refine tr_wk (wk_ownbox 11 3 63 57 2 (by simp;rfl) (by simp) (by simp)) ?_
    replace h4:=bnd h4;obtain⟨e5,hI5,h4⟩:=h4
    refine tjv (fun v20:(List Int)×Int×(List zI)=>({ nt:=143,env:=[(0,.ptr 1000000 0),(2,.ptr 2 0),(3,.ptr 3 0),(4,.vec 33),(5,.vec 90),(6,.nilS),(8,.fn 25 [.ptr 7 0,.ptr 3 0]),(10,.d (.int .i64 s18.1)),(11,.ptr 11 0)],box:=[(2,[.nilS,.nilS]),(3,[.vec 400120,.d (.slice (rowsF zEr s18.2.2.2.1))]),(7,[.d (.int .i64 s18.2.2.2.2.1)]),(11,[.d (.int .i64 0),.d (.int .i64 2),.nilS,.vec 63,.d (.int .i64 0),.nilS,.d (.str ByteArray.empty),.d (.int .i64 0)]),(1000000,[.d (.slice (rowsF (iRow .i64) v20.1)),.d (.int .i64 v20.2.1)])],vec:=[(33,⟨3,1,rowsF (iRow .i64) v2.2.2.2.2.1⟩),(63,⟨57,2,rowsF zIr v20.2.2⟩),(90,⟨3,1,rowsF (iRow .i64) s18.2.2.2.2.2.2⟩),(400120,⟨47,8,rowsF zOr s18.2.2.2.2.2.1⟩)]}:St)) (fun v20=>v20=e5) (fun v20 hI5e _ W5=>?_) ?_
    ·subst hI5e
     refine tr_wk W5 ?_
     refine kc1 ?_
     refine ko [0,2,3,4,6,8,10,85,86,87] 3 (by simp;rfl) ?_
     refine tops_wk (wk_frz 63) ?_
     replace h4:=bnd h4;obtain⟨y21,hy21,h4⟩:=h4
     refine kcallV [0,2,3,4,6,8,10,85,88] [7,3] [400120] [400120] (mYRepository_1_cbbo0_ok hy21) rfl rfl rfl Tryz.call25 (by simp) (by simp;rfl) ?_
     replace h4:=bnd h4;obtain⟨_,p384,h4⟩:=h4
     replace p384:=ck_some p384
     have p384':=p384;try simp at p384'
     refine ko [0,2,3,4,5,6,8,10] 3 (by simp[p384,p384'];rfl) ?_
     refine tpN ?_
     refine lr (by simp;rfl) ?_
     exact⟨_,hg4 _ (Option.some.inj h4),wk (by simp[wkI])⟩
    ·refine trb (tr_iter (fun s22:Int×(List Int)×Int×(List zI)=>({ nt:=143,env:=[(0,.ptr 1000000 0),(2,.ptr 2 0),(3,.ptr 3 0),(4,.vec 33),(5,.vec 90),(6,.nilS),(8,.fn 25 [.ptr 7 0,.ptr 3 0]),(10,.d (.int .i64 s18.1)),(11,.ptr 11 0),(41,.vec 41),(42,.d (.int .i64 (([(⟨#[97]⟩:ByteArray),(⟨#[98]⟩:ByteArray),(⟨#[100]⟩:ByteArray)]).length:Int))),(43,.d (.int .i64 s22.1))],box:=[(2,[.nilS,.nilS]),(3,[.vec 400120,.d (.slice (rowsF zEr s18.2.2.2.1))]),(7,[.d (.int .i64 s18.2.2.2.2.1)]),(11,[.d (.int .i64 0),.d (.int .i64 2),.nilS,.vec 63,.d (.int .i64 0),.nilS,.d (.str ByteArray.empty),.d (.int .i64 0)]),(1000000,[.d (.slice (rowsF (iRow .i64) s22.2.1)),.d (.int .i64 s22.2.2.1)])],vec:=[(33,⟨3,1,rowsF (iRow .i64) v2.2.2.2.2.1⟩),(41,⟨9,1,rowsF sRow l19⟩),(63,⟨57,2,rowsF zIr s22.2.2.2⟩),(90,⟨3,1,rowsF (iRow .i64) s18.2.2.2.2.2.2⟩),(400120,⟨47,8,rowsF zOr s18.2.2.2.2.2.1⟩)]}:St)) hI5 (wk (by subst hl19;simp[wkI])) fun G5 s22 o5 h5 hg5 he5=>?_)
     unfold mYRepository_l4 at h5
     refine kr [0,2,3,4,5,6,8,10,11,41,42,43,44] (by simp;rfl) ?_
     refine trq ?_
     refine trc (b:=(decide (s22.1 < (([(⟨#[97]⟩:ByteArray),(⟨#[98]⟩:ByteArray),(⟨#[100]⟩:ByteArray)]).length:Int)))) (by simp) (fun c101=>?_) (fun c101=>?_)
     ·rw[if_pos c101] at h5
      refine trk ?_
      refine trq ?_
      refine trb ?_
      replace h5:=bnd h5;obtain⟨_,p385,h5⟩:=h5
      replace p385:=ck_some p385
      have p385':=p385;try simp at p385'
      have p385o:s22.1 < (((l19)).length:Int):=by omega
      replace h5:=bnd h5;obtain⟨x23,p386,h5⟩:=h5
      replace p386:=idx_some p386
      have p386':=p386;try simp at p386'
      refine kr [0,2,3,4,5,6,8,10,11,13,41,42,43] (by simp[-getElem?_pos,List.getElem?_cons_zero,List.getElem?_cons_succ,p385,p385o,p386,p385',p386'];rfl) ?_
      refine kc ?_
      refine ko [0,2,3,4,5,6,8,10,11,13,41,42,43,47] 1 (by simp;rfl) ?_
      replace h5:=bnd h5;obtain⟨y24,hy24,h5⟩:=h5
      refine kcall [0,2,3,4,5,6,8,10,11,13,41,42,43,48] [1000000] (zT_Next_ok hy24) rfl rfl rfl Tryz.call12 (by simp) (by simp;rfl) ?_
      refine tpN ?_
      refine trb ?_
      refine kr [0,2,3,4,5,6,8,10,11,13,41,42,43,48,49] (by simp;rfl) ?_
      refine trc (b:=(y24.1==0)) (by simp) (fun c102=>?_) (fun c102=>?_)
      ·rw[if_pos c102] at h5
       refine tr_wk (wk_ren 63 700063) ?_
       refine kd1 [[],[0],[],[],[],[],[5],[4,6],[3,6,7],[6,8],[2,6,9],[6,10],[1,6,7,11],[6,12],[1,6,12,13]] [7,12,14] [(11,[12,14]),(1000000,[7,12])] (some (12,700063)) [52] 15 fol (by decide +kernel) (by simp) ?_
       refine dr_go 0 2 rfl (by simp (maxSteps:=1000000);rfl) ?_
       refine dr_go 2 2 rfl (by simp (maxSteps:=1000000);rfl) ?_
       refine dr_go 4 2 rfl (by simp (maxSteps:=1000000);rfl) ?_
       refine dr_go 6 1 rfl (by simp (maxSteps:=1000000);rfl) ?_
       replace h5:=bnd h5;obtain⟨y25,hy25,h5⟩:=h5
       refine dr_call 7 [1000000] (zT_Next_ok hy25) rfl rfl rfl rfl rfl Tryz.call12 (by simp) ?_
       replace h5:=bnd h5;obtain⟨_,p396,h5⟩:=h5
       replace p396:=ck_some p396
       have p396':=p396;try simp at p396'
       have p396o:y25.1 < (((v2.2.2.2.2.1)).length:Int):=by omega
       replace h5:=bnd h5;obtain⟨x26,p397,h5⟩:=h5
       replace p397:=idx_some p397
       have p397':=p397;try simp at p397'
       replace h5:=bnd h5;obtain⟨_,p398,h5⟩:=h5
       replace p398:=ck_some p398
       have p398':=p398;try simp at p398'
       refine dr_go 8 2 rfl (by simp (maxSteps:=1000000) [-getElem?_pos,List.getElem?_cons_zero,List.getElem?_cons_succ,p396,p396o,p397,p398,p396',p397',p398'];rfl) ?_
       refine dr_go 10 2 rfl (by simp (maxSteps:=1000000) [-getElem?_pos,List.getElem?_cons_zero,List.getElem?_cons_succ,p396,p396o,p397,p398,p396',p397',p398'];rfl) ?_
       refine dr_go 12 2 rfl (by simp (maxSteps:=1000000) [-getElem?_pos,List.getElem?_cons_zero,List.getElem?_cons_succ,p396,p396o,p397,p398,p396',p397',p398'];rfl) ?_
       refine dr_go 14 1 rfl (by simp (maxSteps:=1000000) [-getElem?_pos,List.getElem?_cons_zero,List.getElem?_cons_succ,p396,p396o,p397,p398,p396',p397',p398'];rfl) ?_
       refine dr_end rfl (tpN ?_)
       refine lr (by simp;rfl) ?_
       exact⟨_,hg5 _ (Option.some.inj h5),wk (by simp[wkI])⟩
      ·rw[if_neg (by rw[c102];decide)] at h5
       refine kr [0,2,3,4,5,6,8,10,11,13,41,42,43,65] (by simp;rfl) ?_
       refine trc (b:=(y24.1==1)) (by simp) (fun c103=>?_) (fun c103=>?_)
       ·rw[if_pos c103] at h5
        refine kr [0,2,3,4,5,6,8,10,11,13,41,42,43,69] (by simp;rfl) ?_
        refine trc (b:=(decide (0 < ((s18.2.2.2.2.2.2).length:Int)))) (by simp) (fun c104=>?_) (fun c104=>?_)
        ·rw[if_pos c104] at h5
         refine kd1 [[],[0],[],[],[],[],[5],[4,6],[3,6,7],[6,8],[2,6,9],[6,10],[1,6,7,11],[6,12],[1,6,12,13]] [7,12,14] [(11,[12,14]),(1000000,[7,12])] (some (12,63)) [71] 15 fol (by decide +kernel) (by simp) ?_
         refine dr_go 0 2 rfl (by simp (maxSteps:=1000000);rfl) ?_
         refine dr_go 2 2 rfl (by simp (maxSteps:=1000000);rfl) ?_
         refine dr_go 4 2 rfl (by simp (maxSteps:=1000000);rfl) ?_
         refine dr_go 6 1 rfl (by simp (maxSteps:=1000000);rfl) ?_
         replace h5:=bnd h5;obtain⟨y27,hy27,h5⟩:=h5
         refine dr_call 7 [1000000] (zT_Next_ok hy27) rfl rfl rfl rfl rfl Tryz.call12 (by simp) ?_
         replace h5:=bnd h5;obtain⟨_,p405,h5⟩:=h5
         replace p405:=ck_some p405
         have p405':=p405;try simp at p405'
         have p405o:y27.1 < (((s18.2.2.2.2.2.2)).length:Int):=by omega
         replace h5:=bnd h5;obtain⟨x28,p406,h5⟩:=h5
         replace p406:=idx_some p406
         have p406':=p406;try simp at p406'
         replace h5:=bnd h5;obtain⟨_,p407,h5⟩:=h5
         replace p407:=ck_some p407
         have p407':=p407;try simp at p407'
         refine dr_go 8 2 rfl (by simp (maxSteps:=1000000) [-getElem?_pos,List.getElem?_cons_zero,List.getElem?_cons_succ,p405,p405o,p406,p407,p405',p406',p407'];rfl) ?_
         refine dr_go 10 2 rfl (by simp (maxSteps:=1000000) [-getElem?_pos,List.getElem?_cons_zero,List.getElem?_cons_succ,p405,p405o,p406,p407,p405',p406',p407'];rfl) ?_
         refine dr_go 12 2 rfl (by simp (maxSteps:=1000000) [-getElem?_pos,List.getElem?_cons_zero,List.getElem?_cons_succ,p405,p405o,p406,p407,p405',p406',p407'];rfl) ?_
         refine dr_go 14 1 rfl (by simp (maxSteps:=1000000) [-getElem?_pos,List.getElem?_cons_zero,List.getElem?_cons_succ,p405,p405o,p406,p407,p405',p406',p407'];rfl) ?_
         refine dr_end rfl (tpN ?_)
         refine lr (by simp;rfl) ?_
         exact⟨_,hg5 _ (Option.some.inj h5),Wk.trans (wk_ren 82 63) (wk (by simp[wkI]))⟩
        ·rw[if_neg (by rw[c104];decide)] at h5
         refine trk ?_
         refine lr (by simp;rfl) ?_
         exact⟨_,hg5 _ (Option.some.inj h5),wk (by simp[wkI])⟩
       ·rw[if_neg (by rw[c103];decide)] at h5
        refine trk ?_
        refine lr (by simp;rfl) ?_
        exact⟨_,hg5 _ (Option.some.inj h5),wk (by simp[wkI])⟩
     ·rw[if_neg (by rw[c101];decide)] at h5
      refine tr_exit ?_
      exact⟨_,he5 _ (Option.some.inj h5),wk (by simp[wkI])⟩
   ·rw[if_neg (by rw[c88];decide)] at h4
    refine tr_exit ?_
    exact⟨_,he4 _ (Option.some.inj h4),wk (by simp[wkI])⟩
 ·refine trb (tr_iter (fun s29:Int×(List Int)×Int×(List zE)×Int×(List Int)×(List zO)=>({ nt:=143,env:=[(0,.ptr 1000000 0),(2,.ptr 2 0),(3,.ptr 3 0),(4,.vec 33),(5,.nilS),(6,.nilS),(8,.fn 25 [.ptr 7 0,.ptr 3 0]),(9,.d (.int .i64 s29.1))],box:=[(2,[.nilS,.nilS]),(3,[.vec 400120,.d (.slice (rowsF zEr s29.2.2.2.1))]),(7,[.d (.int .i64 s29.2.2.2.2.1)]),(1000000,[.d (.slice (rowsF (iRow .i64) s29.2.1)),.d (.int .i64 s29.2.2.1)])],vec:=[(33,⟨3,1,rowsF (iRow .i64) s29.2.2.2.2.2.1⟩),(400120,⟨47,8,rowsF zOr s29.2.2.2.2.2.2⟩)]}:St)) hI1 (Wk.trans (wk_nilb 3 1 (by simp;rfl) (by simp)) (wk (by simp[wkI]))) fun G5 s29 o5 h5 hg5 he5=>?_)
  unfold mYRepository_l0 at h5
  refine trq ?_
  refine kr [0,2,3,4,5,6,8,9,21] (by simp;rfl) ?_
  refine trc (b:=(decide (0 < s29.1))) (by simp) (fun c105=>?_) (fun c105=>?_)
  ·rw[if_pos c105] at h5
   refine trk ?_
   refine trq ?_
   refine trb ?_
   refine kc1 ?_
   refine ko [0,2,3,5,6,8,9,24,25,26,27] 4 (by simp;rfl) ?_
   replace h5:=bnd h5;obtain⟨y30,hy30,h5⟩:=h5
   refine kcall [0,2,3,5,6,8,9,24,25,26,28] [1000000] (zT_Next_ok hy30) rfl rfl rfl Tryz.call12 (by simp) (by simp;rfl) ?_
   replace h5:=bnd h5;obtain⟨y31,hy31,h5⟩:=h5
   refine kcall [0,2,3,5,6,8,9,24,25,29] [1000000] (mYBytes_ok hy31) rfl rfl rfl Tryz.call27 (by simp) (by simp;rfl) ?_
   refine ko [0,2,3,5,6,8,9,24,25,30] 1 (by simp;rfl) ?_
   replace h5:=bnd h5;obtain⟨y32,hy32,h5⟩:=h5
   refine kcallV [0,2,3,5,6,8,9,24,31] [7,3] [400120] [400120] (mYRepository_1_cbbo0_ok hy32) rfl rfl rfl Tryz.call25 (by simp) (by simp;rfl) ?_
   replace h5:=bnd h5;obtain⟨_,p408,h5⟩:=h5
   replace p408:=ck_some p408
   have p408':=p408;try simp at p408'
   refine ko [0,2,3,4,5,6,8,9] 3 (by simp[p408,p408'];rfl) ?_
   refine tpN ?_
   refine lr (by simp;rfl) ?_
   exact⟨_,hg5 _ (Option.some.inj h5),wk (by simp[wkI])⟩
  ·rw[if_neg (by rw[c105];decide)] at h5
   refine tr_exit ?_
   exact⟨_,he5 _ (Option.some.inj h5),wk (by simp[wkI])⟩
theorem oYNumber_ok {a0:Int} {r:Bool} (h0:oYNumber a0=some r):FnOK Tryz.prog 64 [] [.d (.int .i64 a0)] (.d (.bool r)) []:=by
 unfold oYNumber at h0
 refine fn_ok (nt:=9) (rs:=[.tmp 2]) Tryz.func64 rfl Tryz.ntmps64 rfl (by simp) (by decide) rfl fun K=>?_
 refine kr [0] (by simp;rfl) ?_
 replace h0:=bnd h0;obtain⟨v1,hvv1,h0⟩:=h0
 refine sjv (fun v1_:Bool=>({ nt:=9,env:=[(2,.d (.bool v1_))],box:=[],vec:=[]}:St)) (fun v1_=>v1=v1_) (fun v1_ e=>?_) ?_
 ·subst e
  cases h0
  exact trr ⟨[],by simp,rfl,by simp⟩
 ·refine kc1 ?_
  refine ko [0,5] 3 (by simp;rfl) ?_
  refine tops_split 5 (decide (1≤a0)) (by simp) (fun c3=>?_) (fun c3=>?_)
  ·rw[c3] at hvv1
   refine ko [2] 4 (by simp;rfl) ?_
   refine tpN ?_
   cases hvv1
   exact⟨_,rfl,wk (by simp[wkI])⟩
  ·rw[c3] at hvv1
   refine ko [2] 4 (by simp;rfl) ?_
   refine tpN ?_
   cases hvv1
   exact⟨_,rfl,wk (by simp[wkI])⟩
theorem oYName_ok {a0:ByteArray} {r:Bool} (h0:oYName a0=some r):FnOK Tryz.prog 67 [] [.d (.str a0)] (.d (.bool r)) []:=by
 unfold oYName at h0
 refine fn_ok (nt:=31) (rs:=[.tmp 2]) Tryz.func67 rfl Tryz.ntmps67 rfl (by simp) (by decide) rfl fun K=>?_
 refine kr [0] (by simp;rfl) ?_
 refine trq ?_
 refine kc ?_
 refine ko [0,5] 1 (by simp;rfl) ?_
 refine kstr [0,6] rfl rfl Tryz.underlying9 Tryz.underlying45 Tryz.underlying5 (by simp;rfl) (by simp;rfl) ?_
 refine ko [0,6,7,8] 2 (by simp;rfl) ?_
 refine tpN ?_
 replace h0:=bnd h0;obtain⟨e1,hI1,h0⟩:=h0
 refine tjv (fun v1:Unit=>({ nt:=31,env:=[(0,.d (.str a0))],box:=[],vec:=[]}:St)) (fun v1=>.inl v1=e1) (fun v1 hI1e _ W1=>?_) ?_
 ·subst hI1e
  dsimp only at h0
  refine tr_wk W1 ?_
  replace h0:=bnd h0;obtain⟨v2,hvv2,h0⟩:=h0
  refine sjv (fun v2_:Bool=>({ nt:=31,env:=[(2,.d (.bool v2_))],box:=[],vec:=[]}:St)) (fun v2_=>v2=v2_) (fun v2_ e=>?_) ?_
  ·subst e
   cases h0
   exact trr ⟨[],by simp,rfl,by simp⟩
  ·refine kc1 ?_
   refine ko [0,26] 4 (by simp;rfl) ?_
   refine tops_split 26 (decide (1≤((a0).size:Int))) (by simp) (fun c11=>?_) (fun c11=>?_)
   ·rw[c11] at hvv2
    refine ko [2] 5 (by simp;rfl) ?_
    refine tpN ?_
    cases hvv2
    exact⟨_,rfl,wk (by simp[wkI])⟩
   ·rw[c11] at hvv2
    refine kskip 3 [] (by kernel_rfl) ?_
    refine ko [2] 2 (by simp;rfl) ?_
    refine tpN ?_
    cases hvv2
    exact⟨_,rfl,wk (by simp[wkI])⟩
 ·refine trb (tr_iter (fun s3:Int=>({ nt:=31,env:=[(0,.d (.str a0)),(6,.d (.slice (rowsF (iRow .u8) (sbytes a0)))),(7,.d (.int .i64 (((sbytes a0)).length:Int))),(8,.d (.int .i64 s3))],box:=[],vec:=[]}:St)) hI1 (wk (by simp[wkI])) fun G1 s3 o1 h1 hg1 he1=>?_)
  unfold oYName_l0 at h1
  refine kr [0,6,7,8,9] (by simp;rfl) ?_
  refine trq ?_
  refine trc (b:=(decide (s3 < (((sbytes a0)).length:Int)))) (by simp) (fun c12=>?_) (fun c12=>?_)
  ·rw[if_pos c12] at h1
   refine trk ?_
   refine trq ?_
   refine trb ?_
   replace h1:=bnd h1;obtain⟨x4,p3,h1⟩:=h1
   replace p3:=idx_some p3
   have p3':=p3;try simp at p3'
   refine kr [0,4,6,7,8] (by simp[p3,p3'];rfl) ?_
   replace h1:=bnd h1;obtain⟨v5,hvv5,h1⟩:=h1
   refine sjv (fun v5_:Bool=>({ nt:=31,env:=[(0,.d (.str a0)),(6,.d (.slice (rowsF (iRow .u8) (sbytes a0)))),(7,.d (.int .i64 (((sbytes a0)).length:Int))),(8,.d (.int .i64 s3)),(21,.d (.bool v5_))],box:=[],vec:=[]}:St)) (fun v5_=>v5=v5_) (fun v5_ e=>?_) ?_
   ·subst e
    refine trc (b:=v5) (by simp) (fun c17=>?_) (fun c17=>?_)
    ·rw[if_pos c17] at h1
     refine kr [2] (by simp;rfl) ?_
     have k1:=he1 _ (Option.some.inj h1)
     subst k1
     dsimp only at h0
     cases h0
     exact trr ⟨[],by simp,rfl,by simp⟩
    ·rw[if_neg (by rw[c17];decide)] at h1
     refine trk ?_
     refine lr (by simp;rfl) ?_
     exact⟨_,hg1 _ (Option.some.inj h1),wk (by simp[wkI])⟩
   ·refine kc1 ?_
    refine ko [0,4,6,7,8,14] 3 (by simp;rfl) ?_
    refine tops_split 14 (decide (x4 < 33)) (by simp) (fun c18=>?_) (fun c18=>?_)
    ·rw[c18] at hvv5
     refine ko [0,6,7,8,15,16,19,20,21] 7 (by simp;rfl) ?_
     refine tpN ?_
     cases hvv5
     exact⟨_,rfl,wk (by simp[wkI])⟩
    ·rw[c18] at hvv5
     refine ko [0,4,6,7,8,15,16,18] 4 (by simp;rfl) ?_
     refine tops_split 18 (decide (126 < x4)) (by simp) (fun c19=>?_) (fun c19=>?_)
     ·rw[c19] at hvv5
      refine ko [0,6,7,8,15,16,19,20,21] 3 (by simp;rfl) ?_
      refine tpN ?_
      cases hvv5
      exact⟨_,rfl,wk (by simp[wkI])⟩
     ·rw[c19] at hvv5
      refine ko [0,6,7,8,15,16,19,20,21] 3 (by simp;rfl) ?_
      refine tpN ?_
      cases hvv5
      exact⟨_,rfl,wk (by simp[wkI])⟩
  ·rw[if_neg (by rw[c12];decide)] at h1
   refine tr_exit ?_
   exact⟨_,he1 _ (Option.some.inj h1),wk (by simp[wkI])⟩
theorem oYtree_ok {a0:zO} {r:Bool} (h0:oYtree a0=some r):FnOK Tryz.prog 96 [] [.agg (zOa a0)] (.d (.bool r)) []:=by
 unfold oYtree at h0
 refine fn_ok (nt:=40) (rs:=[.tmp 2]) Tryz.func96 rfl Tryz.ntmps96 rfl (by simp) (by decide) rfl fun K=>?_
 refine kr [1] (by simp;rfl) ?_
 refine trq ?_
 refine kr [1,6,7,8] (by simp;rfl) ?_
 replace h0:=bnd h0;obtain⟨e1,hI1,h0⟩:=h0
 refine tjv (fun v1:Unit=>({ nt:=40,env:=[],box:=[],vec:=[]}:St)) (fun v1=>.inl v1=e1) (fun v1 hI1e _ W1=>?_) ?_
 ·subst hI1e
  dsimp only at h0
  refine tr_wk W1 ?_
  refine kr [2] (by simp;rfl) ?_
  cases h0
  exact trr ⟨[],by simp,rfl,by simp⟩
 ·refine trb (tr_iter (fun s2:Int=>({ nt:=40,env:=[(1,.ptr 1 0),(6,.d (.slice (rowsF zIr a0.Items))),(7,.d (.int .i64 ((a0.Items).length:Int))),(8,.d (.int .i64 s2))],box:=[(1,[.d (.int .i64 a0.ID),.d (.int .i64 a0.Kind),.d (.slice (rowsF (iRow .u8) a0.Data)),.d (.slice (rowsF zIr a0.Items)),.d (.int .i64 a0.Tree),.d (.slice (rowsF (iRow .i64) a0.Parents)),.d (.str a0.Author),.d (.int .i64 a0.Time)])],vec:=[]}:St)) hI1 (wk (by simp[wkI])) fun G1 s2 o1 h1 hg1 he1=>?_)
  unfold oYtree_l0 at h1
  refine kr [1,6,7,8,9] (by simp;rfl) ?_
  refine trq ?_
  refine trc (b:=(decide (s2 < ((a0.Items).length:Int)))) (by simp) (fun c23=>?_) (fun c23=>?_)
  ·rw[if_pos c23] at h1
   refine trk ?_
   refine trq ?_
   refine trb ?_
   replace h1:=bnd h1;obtain⟨x3,p9,h1⟩:=h1
   replace p9:=idx_some p9
   have p9':=p9;try simp at p9'
   refine kr [1,3,4,6,7,8] (by simp[p9,p9'];rfl) ?_
   replace h1:=bnd h1;obtain⟨v4,hvv4,h1⟩:=h1
   refine sjv (fun v4_:Bool=>({ nt:=40,env:=[(1,.ptr 1 0),(6,.d (.slice (rowsF zIr a0.Items))),(7,.d (.int .i64 ((a0.Items).length:Int))),(8,.d (.int .i64 s2)),(38,.d (.bool v4_))],box:=[(1,[.d (.int .i64 a0.ID),.d (.int .i64 a0.Kind),.d (.slice (rowsF (iRow .u8) a0.Data)),.d (.slice (rowsF zIr a0.Items)),.d (.int .i64 a0.Tree),.d (.slice (rowsF (iRow .i64) a0.Parents)),.d (.str a0.Author),.d (.int .i64 a0.Time)])],vec:=[]}:St)) (fun v4_=>v4=v4_) (fun v4_ e=>?_) ?_
   ·subst e
    refine trc (b:=v4) (by simp) (fun c42=>?_) (fun c42=>?_)
    ·rw[if_pos c42] at h1
     refine kr [2] (by simp;rfl) ?_
     have k1:=he1 _ (Option.some.inj h1)
     subst k1
     dsimp only at h0
     cases h0
     exact trr ⟨[],by simp,rfl,by simp⟩
    ·rw[if_neg (by rw[c42];decide)] at h1
     refine trk ?_
     refine lr (by simp;rfl) ?_
     exact⟨_,hg1 _ (Option.some.inj h1),wk (by simp[wkI])⟩
   ·refine kd1 [[],[0],[1],[2],[3],[4],[4,5],[4,6],[4,7],[4,8],[9],[10],[10,11],[10,12],[13],[13,14],[13],[13,16],[13,15,17],[13,18],[13,19],[13],[13,21],[13,20,22],[10,13,23],[10,24]] [] [] none [] 26 fol (by decide +kernel) (by simp) ?_
    refine dr_go 0 2 rfl (by simp (maxSteps:=1000000);rfl) ?_
    replace hvv4:=bnd hvv4;obtain⟨y5,hy5,hvv4⟩:=hvv4
    refine dr_call 2 [] (oYName_ok hy5) rfl rfl rfl rfl rfl Tryz.call67 (by simp) ?_
    refine dr_go 3 2 rfl (by simp (maxSteps:=1000000);rfl) ?_
    refine dr_split 4 17 (!y5) (by simp) (fun c49=>?_) (fun c49=>?_)
    ·rw[if_pos c49] at hvv4
     refine dr_skip 5 40 [some 18,some 19,some 20,some 21] rfl rfl (by decide) (by kernel_rfl) (by simp only[skEf,List.map_cons,List.map_nil,List.cons_append,List.nil_append];rfl) ?_
     refine dr_go 9 2 rfl (by simp (maxSteps:=1000000);rfl) ?_
     refine dr_skip 11 40 [some 24,some 25,some 26,some 27,some 28,some 29,some 30,some 31,some 32,some 33,some 34,some 35,some 36,some 37] rfl rfl (by decide) (by kernel_rfl) (by simp only[skEf,List.map_cons,List.map_nil,List.cons_append,List.nil_append];rfl) ?_
     refine dr_go 25 1 rfl (by simp (maxSteps:=1000000);rfl) ?_
     refine dr_end rfl (tpN ?_)
     cases hvv4
     exact⟨_,rfl,wk (by simp[wkI])⟩
    ·rw[if_neg (by rw[c49];decide)] at hvv4
     refine dr_go 5 2 rfl (by simp (maxSteps:=1000000);rfl) ?_
     replace hvv4:=bnd hvv4;obtain⟨y6,hy6,hvv4⟩:=hvv4
     refine dr_call 7 [] (oYNumber_ok hy6) rfl rfl rfl rfl rfl Tryz.call64 (by simp) ?_
     refine dr_go 8 2 rfl (by simp (maxSteps:=1000000);rfl) ?_
     refine dr_go 10 1 rfl (by simp (maxSteps:=1000000);rfl) ?_
     refine dr_split 10 23 (!y6) (by simp) (fun c50=>?_) (fun c50=>?_)
     ·rw[if_pos c50] at hvv4
      refine dr_skip 11 40 [some 24,some 25,some 26,some 27,some 28,some 29,some 30,some 31,some 32,some 33,some 34,some 35,some 36,some 37] rfl rfl (by decide) (by kernel_rfl) (by simp only[skEf,List.map_cons,List.map_nil,List.cons_append,List.nil_append];rfl) ?_
      refine dr_go 25 1 rfl (by simp (maxSteps:=1000000);rfl) ?_
      refine dr_end rfl (tpN ?_)
      cases hvv4
      exact⟨_,rfl,wk (by simp[wkI])⟩
     ·rw[if_neg (by rw[c50];decide)] at hvv4
      refine dr_go 11 2 rfl (by simp (maxSteps:=1000000);rfl) ?_
      refine dr_go 13 1 rfl (by simp (maxSteps:=1000000);rfl) ?_
      refine dr_split 13 26 (decide (0 < s2)) (by simp) (fun c51=>?_) (fun c51=>?_)
      ·rw[if_pos c51] at hvv4
       replace hvv4:=bnd hvv4;obtain⟨x7,p18,hvv4⟩:=hvv4
       replace p18:=idx_some p18
       have p18':=p18;try simp at p18'
       refine dr_go 14 2 rfl (by simp (maxSteps:=1000000) [p18,p18'];rfl) ?_
       refine dr_go 16 2 rfl (by simp (maxSteps:=1000000) [p18,p18'];rfl) ?_
       refine dr_go 18 2 rfl (by simp (maxSteps:=1000000) [p18,p18'];rfl) ?_
       refine dr_go 20 2 rfl (by simp (maxSteps:=1000000) [p18,p18'];rfl) ?_
       refine dr_go 22 2 rfl (by simp (maxSteps:=1000000) [p18,p18'];rfl) ?_
       refine dr_go 24 2 rfl (by simp (maxSteps:=1000000) [p18,p18'];rfl) ?_
       refine dr_end rfl (tpN ?_)
       cases hvv4
       exact⟨_,rfl,wk (by simp[wkI])⟩
      ·rw[if_neg (by rw[c51];decide)] at hvv4
       refine dr_skip 14 40 [some 27,some 28,some 29,some 30,some 31,some 32,some 33,some 34,some 35,some 36] rfl rfl (by decide) (by kernel_rfl) (by simp only[skEf,List.map_cons,List.map_nil,List.cons_append,List.nil_append];rfl) ?_
       refine dr_go 24 2 rfl (by simp (maxSteps:=1000000);rfl) ?_
       refine dr_end rfl (tpN ?_)
       cases hvv4
       exact⟨_,rfl,wk (by simp[wkI])⟩
  ·rw[if_neg (by rw[c23];decide)] at h1
   refine tr_exit ?_
   exact⟨_,he1 _ (Option.some.inj h1),wk (by simp[wkI])⟩
theorem sYIndex_int_ok {a0:List Int} {a1:Int} {r:Int} (h0:sYIndex_int a0 a1=some r):FnOK Tryz.prog 131 [] [.d (.slice (rowsF (iRow .i64) a0)),.d (.int .i64 a1)] (.d (.int .i64 r)) []:=by
 unfold sYIndex_int at h0
 refine fn_ok (nt:=19) (rs:=[.tmp 4]) Tryz.func131 rfl Tryz.ntmps131 rfl (by simp) (by decide) rfl fun K=>?_
 refine kr [0,1] (by simp;rfl) ?_
 refine trq ?_
 refine kr [0,1,7,8] (by simp;rfl) ?_
 replace h0:=bnd h0;obtain⟨e1,hI1,h0⟩:=h0
 refine tjv (fun v1:Unit=>({ nt:=19,env:=[],box:=[],vec:=[]}:St)) (fun v1=>.inl v1=e1) (fun v1 hI1e _ W1=>?_) ?_
 ·subst hI1e
  dsimp only at h0
  refine tr_wk W1 ?_
  refine kr [4] (by simp;rfl) ?_
  cases h0
  exact trr ⟨[],by simp,rfl,by simp⟩
 ·refine trb (tr_iter (fun s2:Int=>({ nt:=19,env:=[(0,.d (.slice (rowsF (iRow .i64) a0))),(1,.d (.int .i64 a1)),(7,.d (.int .i64 ((a0).length:Int))),(8,.d (.int .i64 s2))],box:=[],vec:=[]}:St)) hI1 (wk (by simp[wkI])) fun G1 s2 o1 h1 hg1 he1=>?_)
  unfold sYIndex_int_l0 at h1
  refine kr [0,1,7,8,9] (by simp;rfl) ?_
  refine trq ?_
  refine trc (b:=(decide (s2 < ((a0).length:Int)))) (by simp) (fun c5=>?_) (fun c5=>?_)
  ·rw[if_pos c5] at h1
   refine trk ?_
   refine trq ?_
   refine trb ?_
   refine kr [0,1,5,7,8] (by simp;rfl) ?_
   replace h1:=bnd h1;obtain⟨x3,p3,h1⟩:=h1
   replace p3:=idx_some p3
   have p3':=p3;try simp at p3'
   refine kr [0,1,5,7,8,16] (by simp[p3,p3'];rfl) ?_
   refine trc (b:=(a1==x3)) (by simp) (fun c6=>?_) (fun c6=>?_)
   ·rw[if_pos c6] at h1
    refine kr [4] (by simp;rfl) ?_
    have k1:=he1 _ (Option.some.inj h1)
    subst k1
    dsimp only at h0
    cases h0
    exact trr ⟨[],by simp,rfl,by simp⟩
   ·rw[if_neg (by rw[c6];decide)] at h1
    refine trk ?_
    refine lr (by simp;rfl) ?_
    exact⟨_,hg1 _ (Option.some.inj h1),wk (by simp[wkI])⟩
  ·rw[if_neg (by rw[c5];decide)] at h1
   refine tr_exit ?_
   exact⟨_,he1 _ (Option.some.inj h1),wk (by simp[wkI])⟩
theorem sYContains_int_ok {a0:List Int} {a1:Int} {r:Bool} (h0:sYContains_int a0 a1=some r):FnOK Tryz.prog 122 [] [.d (.slice (rowsF (iRow .i64) a0)),.d (.int .i64 a1)] (.d (.bool r)) []:=by
 unfold sYContains_int at h0
 refine fn_ok (nt:=9) (rs:=[.tmp 4]) Tryz.func122 rfl Tryz.ntmps122 rfl (by simp) (by decide) rfl fun K=>?_
 refine kr [0,1] (by simp;rfl) ?_
 refine kc ?_
 refine ko [5,6] 2 (by simp;rfl) ?_
 replace h0:=bnd h0;obtain⟨y1,hy1,h0⟩:=h0
 refine kcall [7] [] (sYIndex_int_ok hy1) rfl rfl rfl Tryz.call131 (by simp) (by simp;rfl) ?_
 refine ko [4] 2 (by simp;rfl) ?_
 refine tpN ?_
 cases h0
 exact trr ⟨[],by simp,rfl,by simp⟩
theorem oYcommit_ok {a0:zO} {r:Bool} (h0:oYcommit a0=some r):FnOK Tryz.prog 97 [] [.agg (zOa a0)] (.d (.bool r)) []:=by
 unfold oYcommit at h0
 refine fn_ok (nt:=43) (rs:=[.tmp 2]) Tryz.func97 rfl Tryz.ntmps97 rfl (by simp) (by decide) rfl fun K=>?_
 refine kr [1] (by simp;rfl) ?_
 refine trq ?_
 refine kr [1,6,7,8] (by simp;rfl) ?_
 replace h0:=bnd h0;obtain⟨e1,hI1,h0⟩:=h0
 refine tjv (fun v1:Unit=>({ nt:=43,env:=[(1,.ptr 1 0)],box:=[(1,[.d (.int .i64 a0.ID),.d (.int .i64 a0.Kind),.d (.slice (rowsF (iRow .u8) a0.Data)),.d (.slice (rowsF zIr a0.Items)),.d (.int .i64 a0.Tree),.d (.slice (rowsF (iRow .i64) a0.Parents)),.d (.str a0.Author),.d (.int .i64 a0.Time)])],vec:=[]}:St)) (fun v1=>.inl v1=e1) (fun v1 hI1e _ W1=>?_) ?_
 ·subst hI1e
  dsimp only at h0
  refine tr_wk W1 ?_
  replace h0:=bnd h0;obtain⟨v2,hvv2,h0⟩:=h0
  refine sjv (fun v2_:Bool=>({ nt:=43,env:=[(2,.d (.bool v2_))],box:=[],vec:=[]}:St)) (fun v2_=>v2=v2_) (fun v2_ e=>?_) ?_
  ·subst e
   cases h0
   exact trr ⟨[],by simp,rfl,by simp⟩
  ·refine kc1 ?_
   refine ko [1,26] 2 (by simp;rfl) ?_
   replace hvv2:=bnd hvv2;obtain⟨y3,hy3,hvv2⟩:=hvv2
   refine kcall [1,27] [] (oYNumber_ok hy3) rfl rfl rfl Tryz.call64 (by simp) (by simp;rfl) ?_
   refine ko [1,28] 1 (by simp;rfl) ?_
   refine tops_split 28 y3 (by simp) (fun c13=>?_) (fun c13=>?_)
   ·rw[if_pos c13] at hvv2
    refine ko [1,28,30] 2 (by simp;rfl) ?_
    replace hvv2:=bnd hvv2;obtain⟨y4,hy4,hvv2⟩:=hvv2
    refine kcall [1,28,31] [] (oYName_ok hy4) rfl rfl rfl Tryz.call67 (by simp) (by simp;rfl) ?_
    refine ko [1,33] 2 (by simp;rfl) ?_
    refine tops_split 33 y4 (by simp) (fun c14=>?_) (fun c14=>?_)
    ·rw[if_pos c14] at hvv2
     refine ko [1,38] 5 (by simp;rfl) ?_
     refine tops_split 38 (decide (0≤a0.Time)) (by simp) (fun c15=>?_) (fun c15=>?_)
     ·rw[if_pos c15] at hvv2
      refine ko [2] 5 (by simp;rfl) ?_
      refine tpN ?_
      cases hvv2
      exact⟨_,rfl,wk (by simp[wkI])⟩
     ·rw[if_neg (by rw[c15];decide)] at hvv2
      refine kskip 3 [] (by kernel_rfl) ?_
      refine ko [2] 2 (by simp;rfl) ?_
      refine tpN ?_
      cases hvv2
      exact⟨_,rfl,wk (by simp[wkI])⟩
    ·rw[if_neg (by rw[c14];decide)] at hvv2
     refine kskip 3 [] (by kernel_rfl) ?_
     refine ko [1,38] 2 (by simp;rfl) ?_
     refine kskip 3 [] (by kernel_rfl) ?_
     refine ko [2] 2 (by simp;rfl) ?_
     refine tpN ?_
     cases hvv2
     exact⟨_,rfl,wk (by simp[wkI])⟩
   ·rw[if_neg (by rw[c13];decide)] at hvv2
    refine kskip 3 [] (by kernel_rfl) ?_
    refine ko [1,33] 2 (by simp;rfl) ?_
    refine kskip 3 [] (by kernel_rfl) ?_
    refine ko [1,38] 2 (by simp;rfl) ?_
    refine kskip 3 [] (by kernel_rfl) ?_
    refine ko [2] 2 (by simp;rfl) ?_
    refine tpN ?_
    cases hvv2
    exact⟨_,rfl,wk (by simp[wkI])⟩
 ·refine trb (tr_iter (fun s5:Int=>({ nt:=43,env:=[(1,.ptr 1 0),(6,.d (.slice (rowsF (iRow .i64) a0.Parents))),(7,.d (.int .i64 ((a0.Parents).length:Int))),(8,.d (.int .i64 s5))],box:=[(1,[.d (.int .i64 a0.ID),.d (.int .i64 a0.Kind),.d (.slice (rowsF (iRow .u8) a0.Data)),.d (.slice (rowsF zIr a0.Items)),.d (.int .i64 a0.Tree),.d (.slice (rowsF (iRow .i64) a0.Parents)),.d (.str a0.Author),.d (.int .i64 a0.Time)])],vec:=[]}:St)) hI1 (wk (by simp[wkI])) fun G1 s5 o1 h1 hg1 he1=>?_)
  unfold oYcommit_l0 at h1
  refine kr [1,6,7,8,9] (by simp;rfl) ?_
  refine trq ?_
  refine trc (b:=(decide (s5 < ((a0.Parents).length:Int)))) (by simp) (fun c16=>?_) (fun c16=>?_)
  ·rw[if_pos c16] at h1
   refine trk ?_
   refine trq ?_
   refine trb ?_
   replace h1:=bnd h1;obtain⟨x6,p5,h1⟩:=h1
   replace p5:=idx_some p5
   have p5':=p5;try simp at p5'
   refine kr [1,3,4,6,7,8] (by simp[p5,p5'];rfl) ?_
   replace h1:=bnd h1;obtain⟨v7,hvv7,h1⟩:=h1
   refine sjv (fun v7_:Bool=>({ nt:=43,env:=[(1,.ptr 1 0),(6,.d (.slice (rowsF (iRow .i64) a0.Parents))),(7,.d (.int .i64 ((a0.Parents).length:Int))),(8,.d (.int .i64 s5)),(23,.d (.bool v7_))],box:=[(1,[.d (.int .i64 a0.ID),.d (.int .i64 a0.Kind),.d (.slice (rowsF (iRow .u8) a0.Data)),.d (.slice (rowsF zIr a0.Items)),.d (.int .i64 a0.Tree),.d (.slice (rowsF (iRow .i64) a0.Parents)),.d (.str a0.Author),.d (.int .i64 a0.Time)])],vec:=[]}:St)) (fun v7_=>v7=v7_) (fun v7_ e=>?_) ?_
   ·subst e
    refine trc (b:=v7) (by simp) (fun c19=>?_) (fun c19=>?_)
    ·rw[if_pos c19] at h1
     refine kr [2] (by simp;rfl) ?_
     have k1:=he1 _ (Option.some.inj h1)
     subst k1
     dsimp only at h0
     cases h0
     exact trr ⟨[],by simp,rfl,by simp⟩
    ·rw[if_neg (by rw[c19];decide)] at h1
     refine trk ?_
     refine lr (by simp;rfl) ?_
     exact⟨_,hg1 _ (Option.some.inj h1),wk (by simp[wkI])⟩
   ·refine kc1 ?_
    refine ko [1,3,4,6,7,8,13] 1 (by simp;rfl) ?_
    replace hvv7:=bnd hvv7;obtain⟨y8,hy8,hvv7⟩:=hvv7
    refine kcall [1,3,4,6,7,8,14] [] (oYNumber_ok hy8) rfl rfl rfl Tryz.call64 (by simp) (by simp;rfl) ?_
    refine ko [1,3,4,6,7,8,16] 2 (by simp;rfl) ?_
    refine tops_split 16 (!y8) (by simp) (fun c20=>?_) (fun c20=>?_)
    ·rw[if_pos c20] at hvv7
     refine kskip 6 [] (by kernel_rfl) ?_
     refine ko [1,6,7,8,23] 1 (by simp;rfl) ?_
     refine tpN ?_
     cases hvv7
     exact⟨_,rfl,wk (by simp[wkI])⟩
    ·rw[if_neg (by rw[c20];decide)] at hvv7
     replace hvv7:=bnd hvv7;obtain⟨_,p8,hvv7⟩:=hvv7
     replace p8:=ck_some p8
     have p8':=p8;try simp at p8'
     refine ko [1,6,7,8,16,17,18,19,20,21] 5 (by simp[p8,p8'];rfl) ?_
     replace hvv7:=bnd hvv7;obtain⟨y9,hy9,hvv7⟩:=hvv7
     refine kcall [1,6,7,8,16,17,18,19,20,21,22] [] (sYContains_int_ok hy9) rfl rfl rfl Tryz.call122 (by simp) (by simp;rfl) ?_
     refine ko [1,6,7,8,17,18,19,20,21,22,23] 1 (by simp;rfl) ?_
     refine tpN ?_
     cases hvv7
     exact⟨_,rfl,wk (by simp[wkI])⟩
  ·rw[if_neg (by rw[c16];decide)] at h1
   refine tr_exit ?_
   exact⟨_,he1 _ (Option.some.inj h1),wk (by simp[wkI])⟩
theorem oYright_ok {a0:zO} {r:Bool} (h0:oYright a0=some r):FnOK Tryz.prog 65 [] [.agg (zOa a0)] (.d (.bool r)) []:=by
 unfold oYright at h0
 refine fn_ok (nt:=65) (rs:=[.tmp 2]) Tryz.func65 rfl Tryz.ntmps65 rfl (by simp) (by decide) rfl fun K=>?_
 refine kr [1] (by simp;rfl) ?_
 replace h0:=bnd h0;obtain⟨v1,hvv1,h0⟩:=h0
 refine sjv (fun v1_:Bool=>({ nt:=65,env:=[(1,.ptr 1 0),(3,.d (.bool v1_))],box:=[(1,[.d (.int .i64 a0.ID),.d (.int .i64 a0.Kind),.d (.slice (rowsF (iRow .u8) a0.Data)),.d (.slice (rowsF zIr a0.Items)),.d (.int .i64 a0.Tree),.d (.slice (rowsF (iRow .i64) a0.Parents)),.d (.str a0.Author),.d (.int .i64 a0.Time)])],vec:=[]}:St)) (fun v1_=>v1=v1_) (fun v1_ e=>?_) ?_
 ·subst e
  refine trq ?_
  refine kr [1,3,24] (by simp;rfl) ?_
  refine trb ?_
  refine kr [1,3,24,25] (by simp;rfl) ?_
  refine trc (b:=(a0.Kind==1)) (by simp) (fun c7=>?_) (fun c7=>?_)
  ·rw[if_pos c7] at h0
   replace h0:=bnd h0;obtain⟨v2,hvv2,h0⟩:=h0
   refine sjv (fun v2_:Bool=>({ nt:=65,env:=[(2,.d (.bool v2_))],box:=[],vec:=[]}:St)) (fun v2_=>v2=v2_) (fun v2_ e=>?_) ?_
   ·subst e
    cases h0
    exact trr ⟨[],by simp,rfl,by simp⟩
   ·refine kc1 ?_
    refine ko [3,31] 5 (by simp;rfl) ?_
    refine tops_split 31 (((a0.Items).length:Int)==0) (by simp) (fun c10=>?_) (fun c10=>?_)
    ·rw[c10] at hvv2
     refine ko [2] 4 (by simp;rfl) ?_
     refine tpN ?_
     cases hvv2
     exact⟨_,rfl,wk (by simp[wkI])⟩
    ·rw[c10] at hvv2
     refine ko [2] 4 (by simp;rfl) ?_
     refine tpN ?_
     cases hvv2
     exact⟨_,rfl,wk (by simp[wkI])⟩
  ·rw[if_neg (by rw[c7];decide)] at h0
   refine kr [1,3,24,35] (by simp;rfl) ?_
   refine trc (b:=(a0.Kind==2)) (by simp) (fun c11=>?_) (fun c11=>?_)
   ·rw[if_pos c11] at h0
    replace h0:=bnd h0;obtain⟨v3,hvv3,h0⟩:=h0
    refine sjv (fun v3_:Bool=>({ nt:=65,env:=[(2,.d (.bool v3_))],box:=[],vec:=[]}:St)) (fun v3_=>v3=v3_) (fun v3_ e=>?_) ?_
    ·subst e
     cases h0
     exact trr ⟨[],by simp,rfl,by simp⟩
    ·refine kc1 ?_
     refine ko [1,3,41] 5 (by simp;rfl) ?_
     refine tops_split 41 (((a0.Data).length:Int)==0) (by simp) (fun c16=>?_) (fun c16=>?_)
     ·rw[if_pos c16] at hvv3
      refine ko [1,45] 4 (by simp;rfl) ?_
      refine tops_split 45 (!v1) (by simp) (fun c17=>?_) (fun c17=>?_)
      ·rw[if_pos c17] at hvv3
       refine ko [45,46] 1 (by simp;rfl) ?_
       replace hvv3:=bnd hvv3;obtain⟨y4,hy4,hvv3⟩:=hvv3
       refine kcall [45,47] [] (oYtree_ok hy4) rfl rfl rfl Tryz.call96 (by simp) (by simp;rfl) ?_
       refine ko [2] 2 (by simp;rfl) ?_
       refine tpN ?_
       cases hvv3
       exact⟨_,rfl,wk (by simp[wkI])⟩
      ·rw[if_neg (by rw[c17];decide)] at hvv3
       refine ko [2] 4 (by simp;rfl) ?_
       refine tpN ?_
       cases hvv3
       exact⟨_,rfl,wk (by simp[wkI])⟩
     ·rw[if_neg (by rw[c16];decide)] at hvv3
      refine ko [2] 8 (by simp;rfl) ?_
      refine tpN ?_
      cases hvv3
      exact⟨_,rfl,wk (by simp[wkI])⟩
   ·rw[if_neg (by rw[c11];decide)] at h0
    refine kr [1,49] (by simp;rfl) ?_
    refine trc (b:=(a0.Kind==3)) (by simp) (fun c18=>?_) (fun c18=>?_)
    ·rw[if_pos c18] at h0
     replace h0:=bnd h0;obtain⟨v5,hvv5,h0⟩:=h0
     refine sjv (fun v5_:Bool=>({ nt:=65,env:=[(2,.d (.bool v5_))],box:=[],vec:=[]}:St)) (fun v5_=>v5=v5_) (fun v5_ e=>?_) ?_
     ·subst e
      cases h0
      exact trr ⟨[],by simp,rfl,by simp⟩
     ·refine kc1 ?_
      refine ko [1,55] 5 (by simp;rfl) ?_
      refine tops_split 55 (((a0.Data).length:Int)==0) (by simp) (fun c23=>?_) (fun c23=>?_)
      ·rw[if_pos c23] at hvv5
       refine ko [1,61] 6 (by simp;rfl) ?_
       refine tops_split 61 (((a0.Items).length:Int)==0) (by simp) (fun c24=>?_) (fun c24=>?_)
       ·rw[if_pos c24] at hvv5
        refine ko [61,62] 1 (by simp;rfl) ?_
        replace hvv5:=bnd hvv5;obtain⟨y6,hy6,hvv5⟩:=hvv5
        refine kcall [61,63] [] (oYcommit_ok hy6) rfl rfl rfl Tryz.call97 (by simp) (by simp;rfl) ?_
        refine ko [2] 2 (by simp;rfl) ?_
        refine tpN ?_
        cases hvv5
        exact⟨_,rfl,wk (by simp[wkI])⟩
       ·rw[if_neg (by rw[c24];decide)] at hvv5
        refine ko [2] 4 (by simp;rfl) ?_
        refine tpN ?_
        cases hvv5
        exact⟨_,rfl,wk (by simp[wkI])⟩
      ·rw[if_neg (by rw[c23];decide)] at hvv5
       refine kskip 4 [] (by kernel_rfl) ?_
       refine ko [2] 6 (by simp;rfl) ?_
       refine tpN ?_
       cases hvv5
       exact⟨_,rfl,wk (by simp[wkI])⟩
    ·rw[if_neg (by rw[c18];decide)] at h0
     refine trk ?_
     refine kr [2] (by simp;rfl) ?_
     cases h0
     exact trr ⟨[],by simp,rfl,by simp⟩
 ·refine kc1 ?_
  refine ko [1,7] 4 (by simp;rfl) ?_
  refine tops_split 7 (a0.Tree != 0) (by simp) (fun c25=>?_) (fun c25=>?_)
  ·rw[c25] at hvv1
   refine kskip 4 [] (by kernel_rfl) ?_
   refine ko [1,13] 2 (by simp;rfl) ?_
   refine kskip 3 [] (by kernel_rfl) ?_
   refine ko [1,18] 2 (by simp;rfl) ?_
   refine kskip 3 [] (by kernel_rfl) ?_
   refine ko [1,3] 2 (by simp;rfl) ?_
   refine tpN ?_
   cases hvv1
   exact⟨_,rfl,wk (by simp[wkI])⟩
  ·rw[c25] at hvv1
   refine ko [1,13] 6 (by simp;rfl) ?_
   refine tops_split 13 (decide (0 < ((a0.Parents).length:Int))) (by simp) (fun c26=>?_) (fun c26=>?_)
   ·rw[c26] at hvv1
    refine kskip 3 [] (by kernel_rfl) ?_
    refine ko [1,18] 2 (by simp;rfl) ?_
    refine kskip 3 [] (by kernel_rfl) ?_
    refine ko [1,3] 2 (by simp;rfl) ?_
    refine tpN ?_
    cases hvv1
    exact⟨_,rfl,wk (by simp[wkI])⟩
   ·rw[c26] at hvv1
    refine ko [1,18] 5 (by simp;rfl) ?_
    refine tops_split 18 (!((a0.Author).toList==((⟨#[]⟩:ByteArray)).toList)) (by simp) (fun c27=>?_) (fun c27=>?_)
    ·rw[c27] at hvv1
     refine kskip 3 [] (by kernel_rfl) ?_
     refine ko [1,3] 2 (by simp;rfl) ?_
     refine tpN ?_
     cases hvv1
     exact⟨_,rfl,wk (by simp[wkI])⟩
    ·rw[c27] at hvv1
     refine ko [1,3] 5 (by simp;rfl) ?_
     refine tpN ?_
     cases hvv1
     exact⟨_,rfl,wk (by simp[wkI])⟩
theorem oYValid_ok {a0:zO} {r:Int} (h0:oYValid a0=some r):FnOK Tryz.prog 31 [] [.agg (zOa a0)] (.d (.int .i64 r)) []:=by
 unfold oYValid at h0
 refine fn_ok (nt:=29) (rs:=[.tmp 2]) Tryz.func31 rfl Tryz.ntmps31 rfl (by simp) (by decide) rfl fun K=>?_
 refine kr [1] (by simp;rfl) ?_
 refine trq ?_
 refine trb ?_
 refine kc ?_
 refine ko [1,5] 2 (by simp;rfl) ?_
 replace h0:=bnd h0;obtain⟨y1,hy1,h0⟩:=h0
 refine kcall [1,6] [] (oYNumber_ok hy1) rfl rfl rfl Tryz.call64 (by simp) (by simp;rfl) ?_
 refine ko [1,3] 2 (by simp;rfl) ?_
 refine tpN ?_
 refine trc (b:=(!y1)) (by simp) (fun c1=>?_) (fun c1=>?_)
 ·rw[if_pos c1] at h0
  refine kr [2] (by simp;rfl) ?_
  cases h0
  exact trr ⟨[],by simp,rfl,by simp⟩
 ·rw[if_neg (by rw[c1];decide)] at h0
  replace h0:=bnd h0;obtain⟨v2,hvv2,h0⟩:=h0
  refine sjv (fun v2_:Bool=>({ nt:=29,env:=[(1,.ptr 1 0),(8,.d (.bool v2_))],box:=[(1,[.d (.int .i64 a0.ID),.d (.int .i64 a0.Kind),.d (.slice (rowsF (iRow .u8) a0.Data)),.d (.slice (rowsF zIr a0.Items)),.d (.int .i64 a0.Tree),.d (.slice (rowsF (iRow .i64) a0.Parents)),.d (.str a0.Author),.d (.int .i64 a0.Time)])],vec:=[]}:St)) (fun v2_=>v2=v2_) (fun v2_ e=>?_) ?_
  ·subst e
   refine trc (b:=v2) (by simp) (fun c6=>?_) (fun c6=>?_)
   ·rw[if_pos c6] at h0
    refine kr [2] (by simp;rfl) ?_
    cases h0
    exact trr ⟨[],by simp,rfl,by simp⟩
   ·rw[if_neg (by rw[c6];decide)] at h0
    refine kc ?_
    refine ko [26] 1 (by simp;rfl) ?_
    replace h0:=bnd h0;obtain⟨y3,hy3,h0⟩:=h0
    refine kcall [27] [] (oYright_ok hy3) rfl rfl rfl Tryz.call65 (by simp) (by simp;rfl) ?_
    refine ko [25] 2 (by simp;rfl) ?_
    refine tpN ?_
    refine trc (b:=(!y3)) (by simp) (fun c7=>?_) (fun c7=>?_)
    ·rw[if_pos c7] at h0
     refine kr [2] (by simp;rfl) ?_
     cases h0
     exact trr ⟨[],by simp,rfl,by simp⟩
    ·rw[if_neg (by rw[c7];decide)] at h0
     refine trk ?_
     refine kr [2] (by simp;rfl) ?_
     cases h0
     exact trr ⟨[],by simp,rfl,by simp⟩
  ·refine kc1 ?_
   refine ko [1,13] 5 (by simp;rfl) ?_
   refine tops_split 13 (decide (65536 < ((a0.Data).length:Int))) (by simp) (fun c8=>?_) (fun c8=>?_)
   ·rw[c8] at hvv2
    refine kskip 4 [] (by kernel_rfl) ?_
    refine ko [1,19] 2 (by simp;rfl) ?_
    refine kskip 4 [] (by kernel_rfl) ?_
    refine ko [1,8] 2 (by simp;rfl) ?_
    refine tpN ?_
    cases hvv2
    exact⟨_,rfl,wk (by simp[wkI])⟩
   ·rw[c8] at hvv2
    refine ko [1,19] 6 (by simp;rfl) ?_
    refine tops_split 19 (decide (64 < ((a0.Items).length:Int))) (by simp) (fun c9=>?_) (fun c9=>?_)
    ·rw[c9] at hvv2
     refine kskip 4 [] (by kernel_rfl) ?_
     refine ko [1,8] 2 (by simp;rfl) ?_
     refine tpN ?_
     cases hvv2
     exact⟨_,rfl,wk (by simp[wkI])⟩
    ·rw[c9] at hvv2
     refine ko [1,8] 6 (by simp;rfl) ?_
     refine tpN ?_
     cases hvv2
     exact⟨_,rfl,wk (by simp[wkI])⟩
theorem hYValid_1_ok {a0:zO} {r:Bool} (h0:hYValid_1 a0=some r):FnOK Tryz.prog 30 [] [.agg (zOa a0)] (.d (.bool r)) []:=by
 unfold hYValid_1 at h0
 refine fn_ok (nt:=6) (rs:=[.tmp 2]) Tryz.func30 rfl Tryz.ntmps30 rfl (by simp) (by decide) rfl fun K=>?_
 refine kr [1] (by simp;rfl) ?_
 refine kc ?_
 refine ko [3] 1 (by simp;rfl) ?_
 replace h0:=bnd h0;obtain⟨y1,hy1,h0⟩:=h0
 refine kcall [4] [] (oYValid_ok hy1) rfl rfl rfl Tryz.call31 (by simp) (by simp;rfl) ?_
 refine ko [2] 2 (by simp;rfl) ?_
 refine tpN ?_
 cases h0
 exact trr ⟨[],by simp,rfl,by simp⟩
theorem hYwrong_ok {a0:zE} {r:Bool} (h0:hYwrong a0=some r):FnOK Tryz.prog 33 [] [.agg (zEa a0)] (.d (.bool r)) []:=by
 unfold hYwrong at h0
 refine fn_ok (nt:=27) (rs:=[.tmp 2]) Tryz.func33 rfl Tryz.ntmps33 rfl (by simp) (by decide) rfl fun K=>?_
 refine kr [1] (by simp;rfl) ?_
 replace h0:=bnd h0;obtain⟨v1,hvv1,h0⟩:=h0
 refine sjv (fun v1_:Bool=>({ nt:=27,env:=[(2,.d (.bool v1_))],box:=[],vec:=[]}:St)) (fun v1_=>v1=v1_) (fun v1_ e=>?_) ?_
 ·subst e
  cases h0
  exact trr ⟨[],by simp,rfl,by simp⟩
 ·refine kc1 ?_
  refine ko [1,6] 4 (by simp;rfl) ?_
  refine tops_split 6 (a0.Kind != 1) (by simp) (fun c13=>?_) (fun c13=>?_)
  ·rw[if_pos c13] at hvv1
   refine ko [1,11] 5 (by simp;rfl) ?_
   refine tops_split 11 (a0.Kind != 2) (by simp) (fun c14=>?_) (fun c14=>?_)
   ·rw[if_pos c14] at hvv1
    refine kskip 4 [] (by kernel_rfl) ?_
    refine ko [1,17] 2 (by simp;rfl) ?_
    refine kskip 8 [] (by kernel_rfl) ?_
    refine ko [2] 2 (by simp;rfl) ?_
    refine tpN ?_
    cases hvv1
    exact⟨_,rfl,wk (by simp[wkI])⟩
   ·rw[if_neg (by rw[c14];decide)] at hvv1
    refine ko [1,11,13] 2 (by simp;rfl) ?_
    replace hvv1:=bnd hvv1;obtain⟨y2,hy2,hvv1⟩:=hvv1
    refine kcall [1,11,14] [] (oYName_ok hy2) rfl rfl rfl Tryz.call67 (by simp) (by simp;rfl) ?_
    refine ko [1,17] 3 (by simp;rfl) ?_
    refine tops_split 17 (!y2) (by simp) (fun c15=>?_) (fun c15=>?_)
    ·rw[if_pos c15] at hvv1
     refine kskip 8 [] (by kernel_rfl) ?_
     refine ko [2] 2 (by simp;rfl) ?_
     refine tpN ?_
     cases hvv1
     exact⟨_,rfl,wk (by simp[wkI])⟩
    ·rw[if_neg (by rw[c15];decide)] at hvv1
     refine ko [1,17,21] 4 (by simp;rfl) ?_
     refine tops_split 21 (a0.Kind==2) (by simp) (fun c16=>?_) (fun c16=>?_)
     ·rw[if_pos c16] at hvv1
      refine ko [2] 6 (by simp;rfl) ?_
      refine tpN ?_
      cases hvv1
      exact⟨_,rfl,wk (by simp[wkI])⟩
     ·rw[if_neg (by rw[c16];decide)] at hvv1
      refine kskip 3 [] (by kernel_rfl) ?_
      refine ko [2] 3 (by simp;rfl) ?_
      refine tpN ?_
      cases hvv1
      exact⟨_,rfl,wk (by simp[wkI])⟩
  ·rw[if_neg (by rw[c13];decide)] at hvv1
   refine kskip 3 [] (by kernel_rfl) ?_
   refine ko [1,11,13] 4 (by simp;rfl) ?_
   replace hvv1:=bnd hvv1;obtain⟨y3,hy3,hvv1⟩:=hvv1
   refine kcall [1,11,14] [] (oYName_ok hy3) rfl rfl rfl Tryz.call67 (by simp) (by simp;rfl) ?_
   refine ko [1,17] 3 (by simp;rfl) ?_
   refine tops_split 17 (!y3) (by simp) (fun c17=>?_) (fun c17=>?_)
   ·rw[if_pos c17] at hvv1
    refine kskip 8 [] (by kernel_rfl) ?_
    refine ko [2] 2 (by simp;rfl) ?_
    refine tpN ?_
    cases hvv1
    exact⟨_,rfl,wk (by simp[wkI])⟩
   ·rw[if_neg (by rw[c17];decide)] at hvv1
    refine ko [1,17,21] 4 (by simp;rfl) ?_
    refine tops_split 21 (a0.Kind==2) (by simp) (fun c18=>?_) (fun c18=>?_)
    ·rw[if_pos c18] at hvv1
     refine ko [2] 6 (by simp;rfl) ?_
     refine tpN ?_
     cases hvv1
     exact⟨_,rfl,wk (by simp[wkI])⟩
    ·rw[if_neg (by rw[c18];decide)] at hvv1
     refine kskip 3 [] (by kernel_rfl) ?_
     refine ko [2] 3 (by simp;rfl) ?_
     refine tpN ?_
     cases hvv1
     exact⟨_,rfl,wk (by simp[wkI])⟩
theorem hYindex_ok {a0:zR} {r:(List (Int×zO))×Bool} (h0:hYindex a0=some r):FnOK Tryz.prog 34 [] [.agg (zRa a0)] (.tup [.d (.mp (mTag 66 1 false true) 9 (rowsF (mRow (iRow .i64) zOr) r.1)),.d (.bool r.2)]) []:=by
 unfold hYindex at h0
 refine fn_ok (nt:=27) (rs:=[.tmp 2,.tmp 3]) Tryz.func34 rfl Tryz.ntmps34 rfl (by simp) (by decide) rfl fun K=>?_
 refine kr [1] (by simp;rfl) ?_
 refine kr [1,4] (by simp;rfl) ?_
 refine trq ?_
 refine kr [1,4,9,10,11] (by simp;rfl) ?_
 replace h0:=bnd h0;obtain⟨e1,hI1,h0⟩:=h0
 refine tjv (fun v1:(List (Int×zO))=>({ nt:=27,env:=[(1,.ptr 1 0),(4,.vec 7)],box:=[(1,[.d (.slice (rowsF zOr a0.Objects)),.d (.slice (rowsF zEr a0.Events))])],vec:=[(7,⟨mTag 66 1 false true,9,rowsF (mRow (iRow .i64) zOr) v1⟩)]}:St)) (fun v1=>v1=e1) (fun v1 hI1e _ W1=>?_) ?_
 ·subst hI1e
  refine tr_wk W1 ?_
  refine kany (S:=({ nt:=27,env:=[(2,.vec 7),(3,.d (.bool (((v1).length:Int)==((a0.Objects).length:Int))))],box:=[],vec:=[(7,⟨mTag 66 1 false true,9,rowsF (mRow (iRow .i64) zOr) v1⟩)]}:St)) fol ?_ ?_
  ·
   refine ao_pure 0 rfl (by decide +kernel) (by decide +kernel) (by simp[pureP,pureB]) (fun c s h=>by cases h.1) (by simp;rfl) ?_
   refine ao_pure 1 rfl (by decide +kernel) (by decide +kernel) (by simp[pureP,pureB]) (fun c s h=>by cases h.1) (by simp;rfl) ?_
   refine ao_pure 3 rfl (by decide +kernel) (by decide +kernel) (by simp[pureP,pureB]) (fun c s h=>by cases h.1) (by simp;rfl) ?_
   refine ao_all [2,4] (by decide +kernel) (by decide) ?_
   refine aall_cons rfl (by simp;rfl) ?_ ?_
   ·
    refine ao_pure 7 rfl (by decide +kernel) (by decide +kernel) (by simp[pureP,pureB]) (fun c s h=>by cases h.1) (by simp;rfl) ?_
    refine ao_all [4] (by decide +kernel) (by decide) ?_
    refine aall_cons rfl (by simp;rfl) ?_ ?_
    ·
     refine ao_all [5] (by decide +kernel) (by decide) ?_
     refine aall_cons rfl (by simp;rfl) ?_ ?_
     ·
      refine ao_all [6] (by decide +kernel) (by decide) ?_
      refine aall_cons rfl (by simp;rfl) ?_ ?_
      ·
       refine ao_pure 8 rfl (by decide +kernel) (by decide +kernel) (by simp[pureP,pureB]) (fun c s h=>by cases h.1) (by simp;rfl) ?_
       exact ao_end (by decide +kernel) ⟨rfl,wkI.2 (by simp)⟩
      exact trivial
     exact trivial
    exact trivial
   refine aall_cons rfl (by simp;rfl) ?_ ?_
   ·
    refine ao_all [2,5] (by decide +kernel) (by decide) ?_
    refine aall_cons rfl (by simp;rfl) ?_ ?_
    ·
     refine ao_pure 7 rfl (by decide +kernel) (by decide +kernel) (by simp[pureP,pureB]) (fun c s h=>by cases h.1) (by simp;rfl) ?_
     refine ao_all [5] (by decide +kernel) (by decide) ?_
     refine aall_cons rfl (by simp;rfl) ?_ ?_
     ·
      refine ao_all [6] (by decide +kernel) (by decide) ?_
      refine aall_cons rfl (by simp;rfl) ?_ ?_
      ·
       refine ao_pure 8 rfl (by decide +kernel) (by decide +kernel) (by simp[pureP,pureB]) (fun c s h=>by cases h.1) (by simp;rfl) ?_
       exact ao_end (by decide +kernel) ⟨rfl,wkI.2 (by simp)⟩
      exact trivial
     exact trivial
    refine aall_cons rfl (by simp;rfl) ?_ ?_
    ·
     refine ao_all [2] (by decide +kernel) (by decide) ?_
     refine aall_cons rfl (by simp;rfl) ?_ ?_
     ·
      refine ao_pure 7 rfl (by decide +kernel) (by decide +kernel) (by simp[pureP,pureB]) (fun c s h=>by cases h.1) (by simp;rfl) ?_
      refine ao_all [6] (by decide +kernel) (by decide) ?_
      refine aall_cons rfl (by simp;rfl) ?_ ?_
      ·
       refine ao_pure 8 rfl (by decide +kernel) (by decide +kernel) (by simp[pureP,pureB]) (fun c s h=>by cases h.1) (by simp;rfl) ?_
       exact ao_end (by decide +kernel) ⟨rfl,wkI.2 (by simp)⟩
      exact trivial
     exact trivial
    exact trivial
   exact trivial
  ·
   cases h0
   exact trr ⟨[7],by simp,rfl,by simp⟩
 ·refine trb (tr_iter (fun s2:Int×(List (Int×zO))=>({ nt:=27,env:=[(1,.ptr 1 0),(4,.vec 7),(9,.d (.slice (rowsF zOr a0.Objects))),(10,.d (.int .i64 ((a0.Objects).length:Int))),(11,.d (.int .i64 s2.1))],box:=[(1,[.d (.slice (rowsF zOr a0.Objects)),.d (.slice (rowsF zEr a0.Events))])],vec:=[(7,⟨mTag 66 1 false true,9,rowsF (mRow (iRow .i64) zOr) s2.2⟩)]}:St)) hI1 (wk (by simp[wkI])) fun G1 s2 o1 h1 hg1 he1=>?_)
  unfold hYindex_l0 at h1
  refine kr [1,4,9,10,11,12] (by simp;rfl) ?_
  refine trq ?_
  refine trc (b:=(decide (s2.1 < ((a0.Objects).length:Int)))) (by simp) (fun c3=>?_) (fun c3=>?_)
  ·rw[if_pos c3] at h1
   refine trk ?_
   refine trq ?_
   refine trb ?_
   replace h1:=bnd h1;obtain⟨x3,p3,h1⟩:=h1
   replace p3:=idx_some p3
   have p3':=p3;try simp at p3'
   refine kr [1,4,6,9,10,11] (by simp[p3,p3'];rfl) ?_
   refine lr (by simp;rfl) ?_
   refine lr (by simp;rfl) ?_
   exact⟨_,hg1 _ (Option.some.inj h1),wk (by simp[wkI])⟩
  ·rw[if_neg (by rw[c3];decide)] at h1
   refine tr_exit ?_
   exact⟨_,he1 _ (Option.some.inj h1),wk (by simp[wkI])⟩
theorem hYnameless_ok {a0:zR} {a1:List (Int×zO)} {r:Bool} (h0:hYnameless a0 a1=some r):FnOK Tryz.prog 37 [] [.agg (zRa a0),.d (.mp (mTag 66 1 false true) 9 (rowsF (mRow (iRow .i64) zOr) a1))] (.d (.bool r)) []:=by
 unfold hYnameless at h0
 refine fn_ok (nt:=46) (rs:=[.tmp 4]) Tryz.func37 rfl Tryz.ntmps37 rfl (by simp) (by decide) rfl fun K=>?_
 refine kr [1,2] (by simp;rfl) ?_
 refine kr [1,2,5] (by simp;rfl) ?_
 refine trq ?_
 refine kr [1,5,10,11,12] (by simp;rfl) ?_
 replace h0:=bnd h0;obtain⟨e1,hI1,h0⟩:=h0
 refine tjv (fun v1:Unit=>({ nt:=46,env:=[],box:=[],vec:=[]}:St)) (fun v1=>.inl v1=e1) (fun v1 hI1e _ W1=>?_) ?_
 ·subst hI1e
  dsimp only at h0
  refine tr_wk W1 ?_
  refine kr [4] (by simp;rfl) ?_
  cases h0
  exact trr ⟨[],by simp,rfl,by simp⟩
 ·refine trb (tr_iter (fun s2:Int×(List (ByteArray×Bool))=>({ nt:=46,env:=[(1,.d (.mp (mTag 66 1 false true) 9 (rowsF (mRow (iRow .i64) zOr) a1))),(5,.vec 8),(10,.d (.slice (rowsF zEr a0.Events))),(11,.d (.int .i64 ((a0.Events).length:Int))),(12,.d (.int .i64 s2.1))],box:=[],vec:=[(8,⟨mTag 74 1 false false,2,rowsF (mRow sRow bRow) s2.2⟩)]}:St)) hI1 (wk (by simp[wkI])) fun G1 s2 o1 h1 hg1 he1=>?_)
  unfold hYnameless_l0 at h1
  refine kr [1,5,10,11,12,13] (by simp;rfl) ?_
  refine trq ?_
  refine trc (b:=(decide (s2.1 < ((a0.Events).length:Int)))) (by simp) (fun c13=>?_) (fun c13=>?_)
  ·rw[if_pos c13] at h1
   refine trk ?_
   refine trq ?_
   refine trb ?_
   replace h1:=bnd h1;obtain⟨x3,p3,h1⟩:=h1
   replace p3:=idx_some p3
   have p3':=p3;try simp at p3'
   refine kr [1,5,7,10,11,12] (by simp[p3,p3'];rfl) ?_
   refine trq ?_
   replace h1:=bnd h1;obtain⟨v4,hvv4,h1⟩:=h1
   refine sjv (fun v4_:Bool=>({ nt:=46,env:=[(1,.d (.mp (mTag 66 1 false true) 9 (rowsF (mRow (iRow .i64) zOr) a1))),(5,.vec 8),(7,.ptr 7 0),(10,.d (.slice (rowsF zEr a0.Events))),(11,.d (.int .i64 ((a0.Events).length:Int))),(12,.d (.int .i64 s2.1)),(38,.d (.bool v4_))],box:=[(7,[.d (.int .i64 x3.Kind),.d (.str x3.Name),.d (.int .i64 x3.Commit),.d (.int .i64 x3.Time)])],vec:=[(8,⟨mTag 74 1 false false,2,rowsF (mRow sRow bRow) s2.2⟩)]}:St)) (fun v4_=>v4=v4_) (fun v4_ e=>?_) ?_
   ·subst e
    refine trc (b:=v4) (by simp) (fun c22=>?_) (fun c22=>?_)
    ·rw[if_pos c22] at h1
     refine kr [4] (by simp;rfl) ?_
     have k1:=he1 _ (Option.some.inj h1)
     subst k1
     dsimp only at h0
     cases h0
     exact trr ⟨[],by simp,rfl,by simp⟩
    ·rw[if_neg (by rw[c22];decide)] at h1
     refine trk ?_
     refine lr (by simp;rfl) ?_
     refine lr (by simp;rfl) ?_
     exact⟨_,hg1 _ (Option.some.inj h1),wk (by simp[wkI])⟩
   ·refine kc1 ?_
    refine ko [1,5,7,10,11,12,19] 4 (by simp;rfl) ?_
    refine tops_split 19 (x3.Kind==1) (by simp) (fun c23=>?_) (fun c23=>?_)
    ·rw[c23] at hvv4
     refine ko [1,5,7,10,11,12,20,21,22,23,24,25,27] 8 (by simp;rfl) ?_
     refine tops_split 27 ((((mget inE a1 x3.Commit).getD (⟨0,0,[],[],0,[],ByteArray.empty,0⟩:zO)).Kind) != 3) (by simp) (fun c24=>?_) (fun c24=>?_)
     ·rw[c24] at hvv4
      refine kskip 10 [] (by kernel_rfl) ?_
      refine ko [1,5,7,10,11,12,20,21,22,23,24,25,38] 1 (by simp;rfl) ?_
      refine tpN ?_
      cases hvv4
      exact⟨_,rfl,wk (by simp[wkI])⟩
     ·rw[c24] at hvv4
      refine ko [1,5,7,10,11,12,20,21,22,23,24,25,27,28,29,30,31] 4 (by simp;rfl) ?_
      refine tops_split 31 (x3.Kind==2) (by simp) (fun c25=>?_) (fun c25=>?_)
      ·rw[c25] at hvv4
       refine ko [1,5,7,10,11,12,20,21,22,23,24,25,28,29,30,31,32,33,34,35,36,37,38] 7 (by simp;rfl) ?_
       refine tpN ?_
       cases hvv4
       exact⟨_,rfl,wk (by simp[wkI])⟩
      ·rw[c25] at hvv4
       refine kskip 5 [] (by kernel_rfl) ?_
       refine ko [1,5,7,10,11,12,20,21,22,23,24,25,28,29,30,31,37,38] 2 (by simp;rfl) ?_
       refine tpN ?_
       cases hvv4
       exact⟨_,rfl,wk (by simp[wkI])⟩
    ·rw[c23] at hvv4
     refine kskip 6 [] (by kernel_rfl) ?_
     refine ko [1,5,7,10,11,12,27,28,29,30,31] 6 (by simp;rfl) ?_
     refine tops_split 31 (x3.Kind==2) (by simp) (fun c26=>?_) (fun c26=>?_)
     ·rw[c26] at hvv4
      refine ko [1,5,7,10,11,12,28,29,30,31,32,33,34,35,36,37,38] 7 (by simp;rfl) ?_
      refine tpN ?_
      cases hvv4
      exact⟨_,rfl,wk (by simp[wkI])⟩
     ·rw[c26] at hvv4
      refine kskip 5 [] (by kernel_rfl) ?_
      refine ko [1,5,7,10,11,12,28,29,30,31,37,38] 2 (by simp;rfl) ?_
      refine tpN ?_
      cases hvv4
      exact⟨_,rfl,wk (by simp[wkI])⟩
  ·rw[if_neg (by rw[c13];decide)] at h1
   refine tr_exit ?_
   exact⟨_,he1 _ (Option.some.inj h1),wk (by simp[wkI])⟩
theorem hYValid_3_ok {a0:zE} {r:Bool} (h0:hYValid_3 a0=some r):FnOK Tryz.prog 39 [] [.agg (zEa a0)] (.d (.bool r)) []:=by
 unfold hYValid_3 at h0
 refine fn_ok (nt:=11) (rs:=[.tmp 2]) Tryz.func39 rfl Tryz.ntmps39 rfl (by simp) (by decide) rfl fun K=>?_
 refine kr [1] (by simp;rfl) ?_
 replace h0:=bnd h0;obtain⟨v1,hvv1,h0⟩:=h0
 refine sjv (fun v1_:Bool=>({ nt:=11,env:=[(2,.d (.bool v1_))],box:=[],vec:=[]}:St)) (fun v1_=>v1=v1_) (fun v1_ e=>?_) ?_
 ·subst e
  cases h0
  exact trr ⟨[],by simp,rfl,by simp⟩
 ·refine kc1 ?_
  refine ko [1,6] 4 (by simp;rfl) ?_
  refine tops_split 6 (decide (a0.Time < 0)) (by simp) (fun c3=>?_) (fun c3=>?_)
  ·rw[c3] at hvv1
   refine kskip 3 [] (by kernel_rfl) ?_
   refine ko [2] 2 (by simp;rfl) ?_
   refine tpN ?_
   cases hvv1
   exact⟨_,rfl,wk (by simp[wkI])⟩
  ·rw[c3] at hvv1
   refine ko [2] 5 (by simp;rfl) ?_
   refine tpN ?_
   cases hvv1
   exact⟨_,rfl,wk (by simp[wkI])⟩
theorem cmp_isNaN_int_ok {a0:Int} {r:Bool} (h0:cmp_isNaN_int a0=some r):FnOK Tryz.prog 74 [] [.d (.int .i64 a0)] (.d (.bool r)) []:=by
 unfold cmp_isNaN_int at h0
 refine fn_ok (nt:=6) (rs:=[.tmp 2]) Tryz.func74 rfl Tryz.ntmps74 rfl (by simp) (by decide) rfl fun K=>?_
 refine kr [0] (by simp;rfl) ?_
 refine kr [2] (by simp;rfl) ?_
 cases h0
 exact trr ⟨[],by simp,rfl,by simp⟩
theorem cmp_Compare_int_ok {a0:Int} {a1:Int} {r:Int} (h0:cmp_Compare_int a0 a1=some r):FnOK Tryz.prog 42 [] [.d (.int .i64 a0),.d (.int .i64 a1)] (.d (.int .i64 r)) []:=by
 unfold cmp_Compare_int at h0
 refine fn_ok (nt:=20) (rs:=[.tmp 4]) Tryz.func42 rfl Tryz.ntmps42 rfl (by simp) (by decide) rfl fun K=>?_
 refine kr [0,1] (by simp;rfl) ?_
 refine kc ?_
 refine ko [0,1,7] 1 (by simp;rfl) ?_
 replace h0:=bnd h0;obtain⟨y1,hy1,h0⟩:=h0
 refine kcall [0,1,8] [] (cmp_isNaN_int_ok hy1) rfl rfl rfl Tryz.call74 (by simp) (by simp;rfl) ?_
 refine ko [0,1,5] 1 (by simp;rfl) ?_
 refine tpN ?_
 refine kc ?_
 refine ko [0,1,5,9] 1 (by simp;rfl) ?_
 replace h0:=bnd h0;obtain⟨y2,hy2,h0⟩:=h0
 refine kcall [0,1,5,10] [] (cmp_isNaN_int_ok hy2) rfl rfl rfl Tryz.call74 (by simp) (by simp;rfl) ?_
 refine ko [0,1,5,6] 1 (by simp;rfl) ?_
 refine tpN ?_
 refine trq ?_
 refine kr [0,1,6,11] (by simp;rfl) ?_
 refine trc (b:=y1) (by simp) (fun c1=>?_) (fun c1=>?_)
 ·rw[if_pos c1] at h0
  refine trq ?_
  refine kr [12] (by simp;rfl) ?_
  refine trc (b:=y2) (by simp) (fun c2=>?_) (fun c2=>?_)
  ·rw[if_pos c2] at h0
   refine kr [4] (by simp;rfl) ?_
   cases h0
   exact trr ⟨[],by simp,rfl,by simp⟩
  ·rw[if_neg (by rw[c2];decide)] at h0
   refine trk ?_
   refine kr [4] (by simp;rfl) ?_
   cases h0
   exact trr ⟨[],by simp,rfl,by simp⟩
 ·rw[if_neg (by rw[c1];decide)] at h0
  refine trk ?_
  refine trq ?_
  refine kr [0,1,13] (by simp;rfl) ?_
  refine trc (b:=y2) (by simp) (fun c3=>?_) (fun c3=>?_)
  ·rw[if_pos c3] at h0
   refine kr [4] (by simp;rfl) ?_
   cases h0
   exact trr ⟨[],by simp,rfl,by simp⟩
  ·rw[if_neg (by rw[c3];decide)] at h0
   refine trk ?_
   refine trq ?_
   refine kr [0,1,16] (by simp;rfl) ?_
   refine trc (b:=(decide (a0 < a1))) (by simp) (fun c4=>?_) (fun c4=>?_)
   ·rw[if_pos c4] at h0
    refine kr [4] (by simp;rfl) ?_
    cases h0
    exact trr ⟨[],by simp,rfl,by simp⟩
   ·rw[if_neg (by rw[c4];decide)] at h0
    refine trk ?_
    refine trq ?_
    refine kr [19] (by simp;rfl) ?_
    refine trc (b:=(decide (a1 < a0))) (by simp) (fun c5=>?_) (fun c5=>?_)
    ·rw[if_pos c5] at h0
     refine kr [4] (by simp;rfl) ?_
     cases h0
     exact trr ⟨[],by simp,rfl,by simp⟩
    ·rw[if_neg (by rw[c5];decide)] at h0
     refine trk ?_
     refine kr [4] (by simp;rfl) ?_
     cases h0
     exact trr ⟨[],by simp,rfl,by simp⟩
theorem hYValid_4_ok {a0:zE} {a1:zE} {r:Int} (h0:hYValid_4 a0 a1=some r):FnOK Tryz.prog 41 [] [.agg (zEa a0),.agg (zEa a1)] (.d (.int .i64 r)) []:=by
 unfold hYValid_4 at h0
 refine fn_ok (nt:=10) (rs:=[.tmp 4]) Tryz.func41 rfl Tryz.ntmps41 rfl (by simp) (by decide) rfl fun K=>?_
 refine kr [2,3] (by simp;rfl) ?_
 refine kc ?_
 refine ko [6,8] 4 (by simp;rfl) ?_
 replace h0:=bnd h0;obtain⟨y1,hy1,h0⟩:=h0
 refine kcall [9] [] (cmp_Compare_int_ok hy1) rfl rfl rfl Tryz.call42 (by simp) (by simp;rfl) ?_
 refine ko [4] 1 (by simp;rfl) ?_
 refine tpN ?_
 cases h0
 exact trr ⟨[],by simp,rfl,by simp⟩
theorem sYIndexFunc_api_Object_at_history_Valid_1_ok {a0:List zO} {r:Int} (h0:sYIndexFunc_api_Object_at_history_Valid_1 a0=some r):FnOK Tryz.prog 63 [] [.d (.slice (rowsF zOr a0)),.fn 30 []] (.d (.int .i64 r)) []:=by
 unfold sYIndexFunc_api_Object_at_history_Valid_1 at h0
 refine fn_ok (nt:=19) (rs:=[.tmp 4]) Tryz.func63 rfl Tryz.ntmps63 rfl (by simp) (by decide) rfl fun K=>?_
 refine kr [0,1] (by simp;rfl) ?_
 refine trq ?_
 refine kr [0,1,7,8] (by simp;rfl) ?_
 replace h0:=bnd h0;obtain⟨e1,hI1,h0⟩:=h0
 refine tjv (fun v1:Unit=>({ nt:=19,env:=[],box:=[],vec:=[]}:St)) (fun v1=>.inl v1=e1) (fun v1 hI1e _ W1=>?_) ?_
 ·subst hI1e
  dsimp only at h0
  refine tr_wk W1 ?_
  refine kr [4] (by simp;rfl) ?_
  cases h0
  exact trr ⟨[],by simp,rfl,by simp⟩
 ·refine trb (tr_iter (fun s2:Int=>({ nt:=19,env:=[(0,.d (.slice (rowsF zOr a0))),(1,.fn 30 []),(7,.d (.int .i64 ((a0).length:Int))),(8,.d (.int .i64 s2))],box:=[],vec:=[]}:St)) hI1 (wk (by simp[wkI])) fun G1 s2 o1 h1 hg1 he1=>?_)
  unfold sYIndexFunc_api_Object_at_history_Valid_1_l0 at h1
  refine kr [0,1,7,8,9] (by simp;rfl) ?_
  refine trq ?_
  refine trc (b:=(decide (s2 < ((a0).length:Int)))) (by simp) (fun c5=>?_) (fun c5=>?_)
  ·rw[if_pos c5] at h1
   refine trk ?_
   refine trq ?_
   refine trb ?_
   refine kr [0,1,5,7,8] (by simp;rfl) ?_
   refine kc ?_
   replace h1:=bnd h1;obtain⟨x3,p3,h1⟩:=h1
   replace p3:=idx_some p3
   have p3':=p3;try simp at p3'
   refine ko [0,1,5,7,8,11,15] 5 (by simp[p3,p3'];rfl) ?_
   replace h1:=bnd h1;obtain⟨y4,hy4,h1⟩:=h1
   refine kcallV [0,1,5,7,8,16] [] [] [] (hYValid_1_ok hy4) rfl rfl rfl Tryz.call30 (by simp) (by simp;rfl) ?_
   refine tpN ?_
   refine trc (b:=y4) (by simp) (fun c6=>?_) (fun c6=>?_)
   ·rw[if_pos c6] at h1
    refine kr [4] (by simp;rfl) ?_
    have k1:=he1 _ (Option.some.inj h1)
    subst k1
    dsimp only at h0
    cases h0
    exact trr ⟨[],by simp,rfl,by simp⟩
   ·rw[if_neg (by rw[c6];decide)] at h1
    refine trk ?_
    refine lr (by simp;rfl) ?_
    exact⟨_,hg1 _ (Option.some.inj h1),wk (by simp[wkI])⟩
  ·rw[if_neg (by rw[c5];decide)] at h1
   refine tr_exit ?_
   exact⟨_,he1 _ (Option.some.inj h1),wk (by simp[wkI])⟩
theorem sYContainsFunc_api_Object_at_history_Valid_1_ok {a0:List zO} {r:Bool} (h0:sYContainsFunc_api_Object_at_history_Valid_1 a0=some r):FnOK Tryz.prog 29 [] [.d (.slice (rowsF zOr a0)),.fn 30 []] (.d (.bool r)) []:=by
 unfold sYContainsFunc_api_Object_at_history_Valid_1 at h0
 refine fn_ok (nt:=9) (rs:=[.tmp 4]) Tryz.func29 rfl Tryz.ntmps29 rfl (by simp) (by decide) rfl fun K=>?_
 refine kr [0,1] (by simp;rfl) ?_
 refine kc ?_
 refine ko [5,6] 2 (by simp;rfl) ?_
 replace h0:=bnd h0;obtain⟨y1,hy1,h0⟩:=h0
 refine kcall [7] [] (sYIndexFunc_api_Object_at_history_Valid_1_ok hy1) rfl rfl rfl Tryz.call63 (by simp) (by simp;rfl) ?_
 refine ko [4] 2 (by simp;rfl) ?_
 refine tpN ?_
 cases h0
 exact trr ⟨[],by simp,rfl,by simp⟩
theorem sYIndexFunc_api_RefEvent_at_history_wrong_ok {a0:List zE} {r:Int} (h0:sYIndexFunc_api_RefEvent_at_history_wrong a0=some r):FnOK Tryz.prog 66 [] [.d (.slice (rowsF zEr a0)),.fn 33 []] (.d (.int .i64 r)) []:=by
 unfold sYIndexFunc_api_RefEvent_at_history_wrong at h0
 refine fn_ok (nt:=19) (rs:=[.tmp 4]) Tryz.func66 rfl Tryz.ntmps66 rfl (by simp) (by decide) rfl fun K=>?_
 refine kr [0,1] (by simp;rfl) ?_
 refine trq ?_
 refine kr [0,1,7,8] (by simp;rfl) ?_
 replace h0:=bnd h0;obtain⟨e1,hI1,h0⟩:=h0
 refine tjv (fun v1:Unit=>({ nt:=19,env:=[],box:=[],vec:=[]}:St)) (fun v1=>.inl v1=e1) (fun v1 hI1e _ W1=>?_) ?_
 ·subst hI1e
  dsimp only at h0
  refine tr_wk W1 ?_
  refine kr [4] (by simp;rfl) ?_
  cases h0
  exact trr ⟨[],by simp,rfl,by simp⟩
 ·refine trb (tr_iter (fun s2:Int=>({ nt:=19,env:=[(0,.d (.slice (rowsF zEr a0))),(1,.fn 33 []),(7,.d (.int .i64 ((a0).length:Int))),(8,.d (.int .i64 s2))],box:=[],vec:=[]}:St)) hI1 (wk (by simp[wkI])) fun G1 s2 o1 h1 hg1 he1=>?_)
  unfold sYIndexFunc_api_RefEvent_at_history_wrong_l0 at h1
  refine kr [0,1,7,8,9] (by simp;rfl) ?_
  refine trq ?_
  refine trc (b:=(decide (s2 < ((a0).length:Int)))) (by simp) (fun c5=>?_) (fun c5=>?_)
  ·rw[if_pos c5] at h1
   refine trk ?_
   refine trq ?_
   refine trb ?_
   refine kr [0,1,5,7,8] (by simp;rfl) ?_
   refine kc ?_
   replace h1:=bnd h1;obtain⟨x3,p3,h1⟩:=h1
   replace p3:=idx_some p3
   have p3':=p3;try simp at p3'
   refine ko [0,1,5,7,8,11,15] 5 (by simp[p3,p3'];rfl) ?_
   replace h1:=bnd h1;obtain⟨y4,hy4,h1⟩:=h1
   refine kcallV [0,1,5,7,8,16] [] [] [] (hYwrong_ok hy4) rfl rfl rfl Tryz.call33 (by simp) (by simp;rfl) ?_
   refine tpN ?_
   refine trc (b:=y4) (by simp) (fun c6=>?_) (fun c6=>?_)
   ·rw[if_pos c6] at h1
    refine kr [4] (by simp;rfl) ?_
    have k1:=he1 _ (Option.some.inj h1)
    subst k1
    dsimp only at h0
    cases h0
    exact trr ⟨[],by simp,rfl,by simp⟩
   ·rw[if_neg (by rw[c6];decide)] at h1
    refine trk ?_
    refine lr (by simp;rfl) ?_
    exact⟨_,hg1 _ (Option.some.inj h1),wk (by simp[wkI])⟩
  ·rw[if_neg (by rw[c5];decide)] at h1
   refine tr_exit ?_
   exact⟨_,he1 _ (Option.some.inj h1),wk (by simp[wkI])⟩
theorem sYContainsFunc_api_RefEvent_at_history_wrong_ok {a0:List zE} {r:Bool} (h0:sYContainsFunc_api_RefEvent_at_history_wrong a0=some r):FnOK Tryz.prog 32 [] [.d (.slice (rowsF zEr a0)),.fn 33 []] (.d (.bool r)) []:=by
 unfold sYContainsFunc_api_RefEvent_at_history_wrong at h0
 refine fn_ok (nt:=9) (rs:=[.tmp 4]) Tryz.func32 rfl Tryz.ntmps32 rfl (by simp) (by decide) rfl fun K=>?_
 refine kr [0,1] (by simp;rfl) ?_
 refine kc ?_
 refine ko [5,6] 2 (by simp;rfl) ?_
 replace h0:=bnd h0;obtain⟨y1,hy1,h0⟩:=h0
 refine kcall [7] [] (sYIndexFunc_api_RefEvent_at_history_wrong_ok hy1) rfl rfl rfl Tryz.call66 (by simp) (by simp;rfl) ?_
 refine ko [4] 2 (by simp;rfl) ?_
 refine tpN ?_
 cases h0
 exact trr ⟨[],by simp,rfl,by simp⟩
theorem hYmissing_ok {a0:List (Int×zO)} {a1:zO} {r:Bool} (h0:hYmissing a0 a1=some r):FnOK Tryz.prog 36 [] [.d (.mp (mTag 66 1 false true) 9 (rowsF (mRow (iRow .i64) zOr) a0)),.agg (zOa a1)] (.d (.bool r)) []:=by
 unfold hYmissing at h0
 refine fn_ok (nt:=53) (rs:=[.tmp 4]) Tryz.func36 rfl Tryz.ntmps36 rfl (by simp) (by decide) rfl fun K=>?_
 refine kr [0,3] (by simp;rfl) ?_
 refine trq ?_
 refine kr [0,3,11,12,13] (by simp;rfl) ?_
 replace h0:=bnd h0;obtain⟨e1,hI1,h0⟩:=h0
 refine tjv (fun v1:Unit=>({ nt:=53,env:=[(0,.d (.mp (mTag 66 1 false true) 9 (rowsF (mRow (iRow .i64) zOr) a0))),(3,.ptr 3 0)],box:=[(3,[.d (.int .i64 a1.ID),.d (.int .i64 a1.Kind),.d (.slice (rowsF (iRow .u8) a1.Data)),.d (.slice (rowsF zIr a1.Items)),.d (.int .i64 a1.Tree),.d (.slice (rowsF (iRow .i64) a1.Parents)),.d (.str a1.Author),.d (.int .i64 a1.Time)])],vec:=[]}:St)) (fun v1=>.inl v1=e1) (fun v1 hI1e _ W1=>?_) ?_
 ·subst hI1e
  dsimp only at h0
  refine tr_wk W1 ?_
  refine trq ?_
  refine kr [0,3,30,31,32] (by simp;rfl) ?_
  replace h0:=bnd h0;obtain⟨e2,hI2,h0⟩:=h0
  refine tjv (fun v2:Unit=>({ nt:=53,env:=[(0,.d (.mp (mTag 66 1 false true) 9 (rowsF (mRow (iRow .i64) zOr) a0))),(3,.ptr 3 0)],box:=[(3,[.d (.int .i64 a1.ID),.d (.int .i64 a1.Kind),.d (.slice (rowsF (iRow .u8) a1.Data)),.d (.slice (rowsF zIr a1.Items)),.d (.int .i64 a1.Tree),.d (.slice (rowsF (iRow .i64) a1.Parents)),.d (.str a1.Author),.d (.int .i64 a1.Time)])],vec:=[]}:St)) (fun v2=>.inl v2=e2) (fun v2 hI2e _ W2=>?_) ?_
  ·subst hI2e
   dsimp only at h0
   refine tr_wk W2 ?_
   replace h0:=bnd h0;obtain⟨v3,hvv3,h0⟩:=h0
   refine sjv (fun v3_:Bool=>({ nt:=53,env:=[(4,.d (.bool v3_))],box:=[],vec:=[]}:St)) (fun v3_=>v3=v3_) (fun v3_ e=>?_) ?_
   ·subst e
    cases h0
    exact trr ⟨[],by simp,rfl,by simp⟩
   ·refine kc1 ?_
    refine ko [0,3,45] 4 (by simp;rfl) ?_
    refine tops_split 45 (a1.Kind==3) (by simp) (fun c13=>?_) (fun c13=>?_)
    ·rw[c13] at hvv3
     refine ko [4] 8 (by simp;rfl) ?_
     refine tpN ?_
     cases hvv3
     exact⟨_,rfl,wk (by simp[wkI])⟩
    ·rw[c13] at hvv3
     refine kskip 6 [] (by kernel_rfl) ?_
     refine ko [4] 2 (by simp;rfl) ?_
     refine tpN ?_
     cases hvv3
     exact⟨_,rfl,wk (by simp[wkI])⟩
  ·refine trb (tr_iter (fun s4:Int=>({ nt:=53,env:=[(0,.d (.mp (mTag 66 1 false true) 9 (rowsF (mRow (iRow .i64) zOr) a0))),(3,.ptr 3 0),(30,.d (.slice (rowsF (iRow .i64) a1.Parents))),(31,.d (.int .i64 ((a1.Parents).length:Int))),(32,.d (.int .i64 s4))],box:=[(3,[.d (.int .i64 a1.ID),.d (.int .i64 a1.Kind),.d (.slice (rowsF (iRow .u8) a1.Data)),.d (.slice (rowsF zIr a1.Items)),.d (.int .i64 a1.Tree),.d (.slice (rowsF (iRow .i64) a1.Parents)),.d (.str a1.Author),.d (.int .i64 a1.Time)])],vec:=[]}:St)) hI2 (wk (by simp[wkI])) fun G2 s4 o2 h2 hg2 he2=>?_)
   unfold hYmissing_l1 at h2
   refine kr [0,3,30,31,32,33] (by simp;rfl) ?_
   refine trq ?_
   refine trc (b:=(decide (s4 < ((a1.Parents).length:Int)))) (by simp) (fun c14=>?_) (fun c14=>?_)
   ·rw[if_pos c14] at h2
    refine trk ?_
    refine trq ?_
    refine trb ?_
    replace h2:=bnd h2;obtain⟨x5,p5,h2⟩:=h2
    replace p5:=idx_some p5
    have p5':=p5;try simp at p5'
    refine kr [0,3,9,30,31,32] (by simp[p5,p5'];rfl) ?_
    refine kr [0,3,30,31,32,40] (by simp;rfl) ?_
    refine trc (b:=((((mget inE a0 x5).getD (⟨0,0,[],[],0,[],ByteArray.empty,0⟩:zO)).Kind) != 3)) (by simp) (fun c15=>?_) (fun c15=>?_)
    ·rw[if_pos c15] at h2
     refine kr [4] (by simp;rfl) ?_
     have k1:=he2 _ (Option.some.inj h2)
     subst k1
     dsimp only at h0
     cases h0
     exact trr ⟨[],by simp,rfl,by simp⟩
    ·rw[if_neg (by rw[c15];decide)] at h2
     refine trk ?_
     refine lr (by simp;rfl) ?_
     exact⟨_,hg2 _ (Option.some.inj h2),wk (by simp[wkI])⟩
   ·rw[if_neg (by rw[c14];decide)] at h2
    refine tr_exit ?_
    exact⟨_,he2 _ (Option.some.inj h2),wk (by simp[wkI])⟩
 ·refine trb (tr_iter (fun s8:Int=>({ nt:=53,env:=[(0,.d (.mp (mTag 66 1 false true) 9 (rowsF (mRow (iRow .i64) zOr) a0))),(3,.ptr 3 0),(11,.d (.slice (rowsF zIr a1.Items))),(12,.d (.int .i64 ((a1.Items).length:Int))),(13,.d (.int .i64 s8))],box:=[(3,[.d (.int .i64 a1.ID),.d (.int .i64 a1.Kind),.d (.slice (rowsF (iRow .u8) a1.Data)),.d (.slice (rowsF zIr a1.Items)),.d (.int .i64 a1.Tree),.d (.slice (rowsF (iRow .i64) a1.Parents)),.d (.str a1.Author),.d (.int .i64 a1.Time)])],vec:=[]}:St)) hI1 (wk (by simp[wkI])) fun G2 s8 o2 h2 hg2 he2=>?_)
  unfold hYmissing_l0 at h2
  refine kr [0,3,11,12,13,14] (by simp;rfl) ?_
  refine trq ?_
  refine trc (b:=(decide (s8 < ((a1.Items).length:Int)))) (by simp) (fun c16=>?_) (fun c16=>?_)
  ·rw[if_pos c16] at h2
   refine trk ?_
   refine trq ?_
   refine trb ?_
   replace h2:=bnd h2;obtain⟨x9,p6,h2⟩:=h2
   replace p6:=idx_some p6
   have p6':=p6;try simp at p6'
   refine kr [0,3,6,11,12,13] (by simp[p6,p6'];rfl) ?_
   refine kr [0,3,7,11,12,13] (by simp;rfl) ?_
   replace h2:=bnd h2;obtain⟨v10,hvv10,h2⟩:=h2
   refine sjv (fun v10_:Bool=>({ nt:=53,env:=[(0,.d (.mp (mTag 66 1 false true) 9 (rowsF (mRow (iRow .i64) zOr) a0))),(3,.ptr 3 0),(11,.d (.slice (rowsF zIr a1.Items))),(12,.d (.int .i64 ((a1.Items).length:Int))),(13,.d (.int .i64 s8)),(27,.d (.bool v10_))],box:=[(3,[.d (.int .i64 a1.ID),.d (.int .i64 a1.Kind),.d (.slice (rowsF (iRow .u8) a1.Data)),.d (.slice (rowsF zIr a1.Items)),.d (.int .i64 a1.Tree),.d (.slice (rowsF (iRow .i64) a1.Parents)),.d (.str a1.Author),.d (.int .i64 a1.Time)])],vec:=[]}:St)) (fun v10_=>v10=v10_) (fun v10_ e=>?_) ?_
   ·subst e
    refine trc (b:=v10) (by simp) (fun c19=>?_) (fun c19=>?_)
    ·rw[if_pos c19] at h2
     refine kr [4] (by simp;rfl) ?_
     have k1:=he2 _ (Option.some.inj h2)
     subst k1
     dsimp only at h0
     cases h0
     exact trr ⟨[],by simp,rfl,by simp⟩
    ·rw[if_neg (by rw[c19];decide)] at h2
     refine trk ?_
     refine lr (by simp;rfl) ?_
     exact⟨_,hg2 _ (Option.some.inj h2),wk (by simp[wkI])⟩
   ·refine kc1 ?_
    refine ko [0,3,7,11,12,13,24] 3 (by simp;rfl) ?_
    refine tops_split 24 ((((mget inE a0 x9.ID).getD (⟨0,0,[],[],0,[],ByteArray.empty,0⟩:zO)).Kind) != 1) (by simp) (fun c20=>?_) (fun c20=>?_)
    ·rw[c20] at hvv10
     refine ko [0,3,11,12,13,25,26,27] 3 (by simp;rfl) ?_
     refine tpN ?_
     cases hvv10
     exact⟨_,rfl,wk (by simp[wkI])⟩
    ·rw[c20] at hvv10
     refine ko [0,3,11,12,13,25,26,27] 3 (by simp;rfl) ?_
     refine tpN ?_
     cases hvv10
     exact⟨_,rfl,wk (by simp[wkI])⟩
  ·rw[if_neg (by rw[c16];decide)] at h2
   refine tr_exit ?_
   exact⟨_,he2 _ (Option.some.inj h2),wk (by simp[wkI])⟩
theorem hYValid_2_cb_ok {a0:zO} {a1:List (Int×zO)} {r:Bool×(List (Int×zO))} (h0:hYValid_2_cb a0 a1=some r):FnOK Tryz.prog 35 [[.d (.mp (mTag 66 1 false true) 9 (rowsF (mRow (iRow .i64) zOr) a1))]] [.agg (zOa a0),.ptr (InO 0) 0] (.d (.bool r.1)) [[.d (.mp (mTag 66 1 false true) 9 (rowsF (mRow (iRow .i64) zOr) r.2))]]:=by
 unfold hYValid_2_cb at h0
 refine fn_ok (nt:=7) (rs:=[.tmp 3]) Tryz.func35 rfl Tryz.ntmps35 rfl (by simp) (by decide) rfl fun K=>?_
 refine kr [1,2] (by simp;rfl) ?_
 refine kc ?_
 refine ko [4,5] 2 (by simp;rfl) ?_
 replace h0:=bnd h0;obtain⟨y1,hy1,h0⟩:=h0
 refine kcall [6] [] (hYmissing_ok hy1) rfl rfl rfl Tryz.call36 (by simp) (by simp;rfl) ?_
 refine ko [3] 1 (by simp;rfl) ?_
 refine tpN ?_
 cases h0
 exact trr ⟨[],by simp,rfl,by simp⟩
theorem sYIndexFunc_api_Object_at_history_Valid_2_b_ok {a0:List zO} {b10:List (Int×zO)} {r:Int×(List (Int×zO))} (h0:sYIndexFunc_api_Object_at_history_Valid_2_b a0 b10=some r):FnOK Tryz.prog 63 [[.d (.mp (mTag 66 1 false true) 9 (rowsF (mRow (iRow .i64) zOr) b10))]] [.d (.slice (rowsF zOr a0)),.fn 35 [.ptr (InO 0) 0]] (.d (.int .i64 r.1)) [[.d (.mp (mTag 66 1 false true) 9 (rowsF (mRow (iRow .i64) zOr) r.2))]]:=by
 unfold sYIndexFunc_api_Object_at_history_Valid_2_b at h0
 refine fn_ok (nt:=19) (rs:=[.tmp 4]) Tryz.func63 rfl Tryz.ntmps63 rfl (by simp) (by decide) rfl fun K=>?_
 refine kr [0,1] (by simp;rfl) ?_
 refine trq ?_
 refine kr [0,1,7,8] (by simp;rfl) ?_
 replace h0:=bnd h0;obtain⟨e1,hI1,h0⟩:=h0
 refine tjv (fun v1:(List (Int×zO))=>({ nt:=19,env:=[],box:=[(1000000,[.d (.mp (mTag 66 1 false true) 9 (rowsF (mRow (iRow .i64) zOr) v1))])],vec:=[]}:St)) (fun v1=>.inl v1=e1) (fun v1 hI1e _ W1=>?_) ?_
 ·subst hI1e
  dsimp only at h0
  refine tr_wk W1 ?_
  refine kr [4] (by simp;rfl) ?_
  cases h0
  exact trr ⟨[],by simp,rfl,by simp⟩
 ·refine trb (tr_iter (fun s2:Int×(List (Int×zO))=>({ nt:=19,env:=[(0,.d (.slice (rowsF zOr a0))),(1,.fn 35 [.ptr 1000000 0]),(7,.d (.int .i64 ((a0).length:Int))),(8,.d (.int .i64 s2.1))],box:=[(1000000,[.d (.mp (mTag 66 1 false true) 9 (rowsF (mRow (iRow .i64) zOr) s2.2))])],vec:=[]}:St)) hI1 (wk (by simp[wkI])) fun G1 s2 o1 h1 hg1 he1=>?_)
  unfold sYIndexFunc_api_Object_at_history_Valid_2_b_l0 at h1
  refine kr [0,1,7,8,9] (by simp;rfl) ?_
  refine trq ?_
  refine trc (b:=(decide (s2.1 < ((a0).length:Int)))) (by simp) (fun c5=>?_) (fun c5=>?_)
  ·rw[if_pos c5] at h1
   refine trk ?_
   refine trq ?_
   refine trb ?_
   refine kr [0,1,5,7,8] (by simp;rfl) ?_
   refine kc ?_
   replace h1:=bnd h1;obtain⟨x3,p3,h1⟩:=h1
   replace p3:=idx_some p3
   have p3':=p3;try simp at p3'
   refine ko [0,1,5,7,8,11,15] 5 (by simp[p3,p3'];rfl) ?_
   replace h1:=bnd h1;obtain⟨y4,hy4,h1⟩:=h1
   refine kcallV [0,1,5,7,8,16] [1000000] [] [] (hYValid_2_cb_ok hy4) rfl rfl rfl Tryz.call35 (by simp) (by simp;rfl) ?_
   refine tpN ?_
   refine trc (b:=y4.1) (by simp) (fun c6=>?_) (fun c6=>?_)
   ·rw[if_pos c6] at h1
    refine kr [4] (by simp;rfl) ?_
    have k1:=he1 _ (Option.some.inj h1)
    subst k1
    dsimp only at h0
    cases h0
    exact trr ⟨[],by simp,rfl,by simp⟩
   ·rw[if_neg (by rw[c6];decide)] at h1
    refine trk ?_
    refine lr (by simp;rfl) ?_
    exact⟨_,hg1 _ (Option.some.inj h1),wk (by simp[wkI])⟩
  ·rw[if_neg (by rw[c5];decide)] at h1
   refine tr_exit ?_
   exact⟨_,he1 _ (Option.some.inj h1),wk (by simp[wkI])⟩
theorem sYContainsFunc_api_Object_at_history_Valid_2_b_ok {a0:List zO} {b10:List (Int×zO)} {r:Bool×(List (Int×zO))} (h0:sYContainsFunc_api_Object_at_history_Valid_2_b a0 b10=some r):FnOK Tryz.prog 29 [[.d (.mp (mTag 66 1 false true) 9 (rowsF (mRow (iRow .i64) zOr) b10))]] [.d (.slice (rowsF zOr a0)),.fn 35 [.ptr (InO 0) 0]] (.d (.bool r.1)) [[.d (.mp (mTag 66 1 false true) 9 (rowsF (mRow (iRow .i64) zOr) r.2))]]:=by
 unfold sYContainsFunc_api_Object_at_history_Valid_2_b at h0
 refine fn_ok (nt:=9) (rs:=[.tmp 4]) Tryz.func29 rfl Tryz.ntmps29 rfl (by simp) (by decide) rfl fun K=>?_
 refine kr [0,1] (by simp;rfl) ?_
 refine kc ?_
 refine ko [5,6] 2 (by simp;rfl) ?_
 replace h0:=bnd h0;obtain⟨y1,hy1,h0⟩:=h0
 refine kcall [7] [1000000] (sYIndexFunc_api_Object_at_history_Valid_2_b_ok hy1) rfl rfl rfl Tryz.call63 (by simp) (by simp;rfl) ?_
 refine ko [4] 2 (by simp;rfl) ?_
 refine tpN ?_
 cases h0
 exact trr ⟨[],by simp,rfl,by simp⟩
theorem sYIndexFunc_api_RefEvent_at_history_Valid_3_ok {a0:List zE} {r:Int} (h0:sYIndexFunc_api_RefEvent_at_history_Valid_3 a0=some r):FnOK Tryz.prog 66 [] [.d (.slice (rowsF zEr a0)),.fn 39 []] (.d (.int .i64 r)) []:=by
 unfold sYIndexFunc_api_RefEvent_at_history_Valid_3 at h0
 refine fn_ok (nt:=19) (rs:=[.tmp 4]) Tryz.func66 rfl Tryz.ntmps66 rfl (by simp) (by decide) rfl fun K=>?_
 refine kr [0,1] (by simp;rfl) ?_
 refine trq ?_
 refine kr [0,1,7,8] (by simp;rfl) ?_
 replace h0:=bnd h0;obtain⟨e1,hI1,h0⟩:=h0
 refine tjv (fun v1:Unit=>({ nt:=19,env:=[],box:=[],vec:=[]}:St)) (fun v1=>.inl v1=e1) (fun v1 hI1e _ W1=>?_) ?_
 ·subst hI1e
  dsimp only at h0
  refine tr_wk W1 ?_
  refine kr [4] (by simp;rfl) ?_
  cases h0
  exact trr ⟨[],by simp,rfl,by simp⟩
 ·refine trb (tr_iter (fun s2:Int=>({ nt:=19,env:=[(0,.d (.slice (rowsF zEr a0))),(1,.fn 39 []),(7,.d (.int .i64 ((a0).length:Int))),(8,.d (.int .i64 s2))],box:=[],vec:=[]}:St)) hI1 (wk (by simp[wkI])) fun G1 s2 o1 h1 hg1 he1=>?_)
  unfold sYIndexFunc_api_RefEvent_at_history_Valid_3_l0 at h1
  refine kr [0,1,7,8,9] (by simp;rfl) ?_
  refine trq ?_
  refine trc (b:=(decide (s2 < ((a0).length:Int)))) (by simp) (fun c5=>?_) (fun c5=>?_)
  ·rw[if_pos c5] at h1
   refine trk ?_
   refine trq ?_
   refine trb ?_
   refine kr [0,1,5,7,8] (by simp;rfl) ?_
   refine kc ?_
   replace h1:=bnd h1;obtain⟨x3,p3,h1⟩:=h1
   replace p3:=idx_some p3
   have p3':=p3;try simp at p3'
   refine ko [0,1,5,7,8,11,15] 5 (by simp[p3,p3'];rfl) ?_
   replace h1:=bnd h1;obtain⟨y4,hy4,h1⟩:=h1
   refine kcallV [0,1,5,7,8,16] [] [] [] (hYValid_3_ok hy4) rfl rfl rfl Tryz.call39 (by simp) (by simp;rfl) ?_
   refine tpN ?_
   refine trc (b:=y4) (by simp) (fun c6=>?_) (fun c6=>?_)
   ·rw[if_pos c6] at h1
    refine kr [4] (by simp;rfl) ?_
    have k1:=he1 _ (Option.some.inj h1)
    subst k1
    dsimp only at h0
    cases h0
    exact trr ⟨[],by simp,rfl,by simp⟩
   ·rw[if_neg (by rw[c6];decide)] at h1
    refine trk ?_
    refine lr (by simp;rfl) ?_
    exact⟨_,hg1 _ (Option.some.inj h1),wk (by simp[wkI])⟩
  ·rw[if_neg (by rw[c5];decide)] at h1
   refine tr_exit ?_
   exact⟨_,he1 _ (Option.some.inj h1),wk (by simp[wkI])⟩
theorem sYContainsFunc_api_RefEvent_at_history_Valid_3_ok {a0:List zE} {r:Bool} (h0:sYContainsFunc_api_RefEvent_at_history_Valid_3 a0=some r):FnOK Tryz.prog 32 [] [.d (.slice (rowsF zEr a0)),.fn 39 []] (.d (.bool r)) []:=by
 unfold sYContainsFunc_api_RefEvent_at_history_Valid_3 at h0
 refine fn_ok (nt:=9) (rs:=[.tmp 4]) Tryz.func32 rfl Tryz.ntmps32 rfl (by simp) (by decide) rfl fun K=>?_
 refine kr [0,1] (by simp;rfl) ?_
 refine kc ?_
 refine ko [5,6] 2 (by simp;rfl) ?_
 replace h0:=bnd h0;obtain⟨y1,hy1,h0⟩:=h0
 refine kcall [7] [] (sYIndexFunc_api_RefEvent_at_history_Valid_3_ok hy1) rfl rfl rfl Tryz.call66 (by simp) (by simp;rfl) ?_
 refine ko [4] 2 (by simp;rfl) ?_
 refine tpN ?_
 cases h0
 exact trr ⟨[],by simp,rfl,by simp⟩
theorem sYIsSortedFunc_api_RefEvent_at_history_Valid_4_ok {a0:List zE} {r:Bool} (h0:sYIsSortedFunc_api_RefEvent_at_history_Valid_4 a0=some r):FnOK Tryz.prog 40 [] [.d (.slice (rowsF zEr a0)),.fn 41 []] (.d (.bool r)) []:=by
 unfold sYIsSortedFunc_api_RefEvent_at_history_Valid_4 at h0
 refine fn_ok (nt:=25) (rs:=[.tmp 4]) Tryz.func40 rfl Tryz.ntmps40 rfl (by simp) (by decide) rfl fun K=>?_
 refine kr [0,1] (by simp;rfl) ?_
 refine trq ?_
 refine kr [0,1,5] (by simp;rfl) ?_
 replace h0:=bnd h0;obtain⟨e1,hI1,h0⟩:=h0
 refine tjv (fun v1:Unit=>({ nt:=25,env:=[],box:=[],vec:=[]}:St)) (fun v1=>.inl v1=e1) (fun v1 hI1e _ W1=>?_) ?_
 ·subst hI1e
  dsimp only at h0
  refine tr_wk W1 ?_
  refine kr [4] (by simp;rfl) ?_
  cases h0
  exact trr ⟨[],by simp,rfl,by simp⟩
 ·refine trb (tr_iter (fun s2:Int=>({ nt:=25,env:=[(0,.d (.slice (rowsF zEr a0))),(1,.fn 41 []),(5,.d (.int .i64 s2))],box:=[],vec:=[]}:St)) hI1 (wk (by simp[wkI])) fun G1 s2 o1 h1 hg1 he1=>?_)
  unfold sYIsSortedFunc_api_RefEvent_at_history_Valid_4_l0 at h1
  refine trq ?_
  refine kr [0,1,5,10] (by simp;rfl) ?_
  refine trc (b:=(decide (0 < s2))) (by simp) (fun c5=>?_) (fun c5=>?_)
  ·rw[if_pos c5] at h1
   refine trk ?_
   refine trq ?_
   refine trb ?_
   refine kd [[],[],[],[1,2],[3],[],[],[6],[5,7],[8],[0,4,9],[10]] [] [] none [] 12 fol (by decide +kernel) (by simp) ?_
   replace h1:=bnd h1;obtain⟨x3,p17,h1⟩:=h1
   replace p17:=idx_some p17
   have p17':=p17;try simp at p17'
   replace h1:=bnd h1;obtain⟨x4,p18,h1⟩:=h1
   replace p18:=idx_some p18
   have p18':=p18;try simp at p18'
   refine dr_go 0 2 rfl (by simp (maxSteps:=1000000) [p17,p18,p17',p18'];rfl) ?_
   refine dr_go 2 2 rfl (by simp (maxSteps:=1000000) [p17,p18,p17',p18'];rfl) ?_
   refine dr_go 4 2 rfl (by simp (maxSteps:=1000000) [p17,p18,p17',p18'];rfl) ?_
   refine dr_go 6 2 rfl (by simp (maxSteps:=1000000) [p17,p18,p17',p18'];rfl) ?_
   refine dr_go 8 2 rfl (by simp (maxSteps:=1000000) [p17,p18,p17',p18'];rfl) ?_
   replace h1:=bnd h1;obtain⟨y5,hy5,h1⟩:=h1
   refine dr_call 10 [] (hYValid_4_ok hy5) rfl rfl rfl rfl rfl Tryz.call41 (by simp) ?_
   refine dr_go 11 1 rfl (by simp (maxSteps:=1000000);rfl) ?_
   refine dr_end rfl (tpN ?_)
   refine trc (b:=(decide (y5 < 0))) (by simp) (fun c6=>?_) (fun c6=>?_)
   ·rw[if_pos c6] at h1
    refine kr [4] (by simp;rfl) ?_
    have k1:=he1 _ (Option.some.inj h1)
    subst k1
    dsimp only at h0
    cases h0
    exact trr ⟨[],by simp,rfl,by simp⟩
   ·rw[if_neg (by rw[c6];decide)] at h1
    refine trk ?_
    refine lr (by simp;rfl) ?_
    exact⟨_,hg1 _ (Option.some.inj h1),wk (by simp[wkI])⟩
  ·rw[if_neg (by rw[c5];decide)] at h1
   refine tr_exit ?_
   exact⟨_,he1 _ (Option.some.inj h1),wk (by simp[wkI])⟩
theorem hYValid_ok {a0:zR} {r:Int} (h0:hYValid a0=some r):FnOK Tryz.prog 7 [] [.agg (zRa a0)] (.d (.int .i64 r)) []:=by
 unfold hYValid at h0
 refine fn_ok (nt:=77) (rs:=[.tmp 2]) Tryz.func7 rfl Tryz.ntmps7 rfl (by simp) (by decide) rfl fun K=>?_
 refine kr [1] (by simp;rfl) ?_
 refine trq ?_
 replace h0:=bnd h0;obtain⟨v1,hvv1,h0⟩:=h0
 refine sjv (fun v1_:Bool=>({ nt:=77,env:=[(1,.ptr 1 0),(17,.d (.bool v1_))],box:=[(1,[.d (.slice (rowsF zOr a0.Objects)),.d (.slice (rowsF zEr a0.Events))])],vec:=[]}:St)) (fun v1_=>v1=v1_) (fun v1_ e=>?_) ?_
 ·subst e
  refine trc (b:=v1) (by simp) (fun c3=>?_) (fun c3=>?_)
  ·rw[if_pos c3] at h0
   refine kr [2] (by simp;rfl) ?_
   cases h0
   exact trr ⟨[],by simp,rfl,by simp⟩
  ·rw[if_neg (by rw[c3];decide)] at h0
   refine trk ?_
   refine trq ?_
   replace h0:=bnd h0;obtain⟨v2,hvv2,h0⟩:=h0
   refine sjv (fun v2_:Bool=>({ nt:=77,env:=[(1,.ptr 1 0),(25,.d (.bool v2_))],box:=[(1,[.d (.slice (rowsF zOr a0.Objects)),.d (.slice (rowsF zEr a0.Events))])],vec:=[]}:St)) (fun v2_=>v2=v2_) (fun v2_ e=>?_) ?_
   ·subst e
    refine trc (b:=v2) (by simp) (fun c6=>?_) (fun c6=>?_)
    ·rw[if_pos c6] at h0
     refine kr [2] (by simp;rfl) ?_
     cases h0
     exact trr ⟨[],by simp,rfl,by simp⟩
    ·rw[if_neg (by rw[c6];decide)] at h0
     refine trk ?_
     refine kc ?_
     refine ko [1,27] 1 (by simp;rfl) ?_
     replace h0:=bnd h0;obtain⟨y3,hy3,h0⟩:=h0
     refine kcall [1,28] [] (hYindex_ok hy3) rfl rfl rfl Tryz.call34 (by simp) (by simp;rfl) ?_
     refine ko [1,3,4] 6 (by simp;rfl) ?_
     refine tpN ?_
     refine trq ?_
     refine trb ?_
     refine kr [1,3,31] (by simp;rfl) ?_
     refine trc (b:=(!y3.2)) (by simp) (fun c7=>?_) (fun c7=>?_)
     ·rw[if_pos c7] at h0
      refine kr [2] (by simp;rfl) ?_
      cases h0
      exact trr ⟨[],by simp,rfl,by simp⟩
     ·rw[if_neg (by rw[c7];decide)] at h0
      replace h0:=bnd h0;obtain⟨v4,hvv4,h0⟩:=h0
      refine sjv (fun v4_:Bool×(List (Int×zO))=>({ nt:=77,env:=[(1,.ptr 1 0),(3,.ptr 3 0),(34,.d (.bool v4_.1))],box:=[(1,[.d (.slice (rowsF zOr a0.Objects)),.d (.slice (rowsF zEr a0.Events))]),(3,[.d (.mp (mTag 66 1 false true) 9 (rowsF (mRow (iRow .i64) zOr) v4_.2))])],vec:=[]}:St)) (fun v4_=>v4=v4_) (fun v4_ e=>?_) ?_
      ·subst e
       refine trc (b:=v4.1) (by simp) (fun c10=>?_) (fun c10=>?_)
       ·rw[if_pos c10] at h0
        refine kr [2] (by simp;rfl) ?_
        cases h0
        exact trr ⟨[],by simp,rfl,by simp⟩
       ·rw[if_neg (by rw[c10];decide)] at h0
        refine kc ?_
        refine ko [1,45] 1 (by simp;rfl) ?_
        replace h0:=bnd h0;obtain⟨y5,hy5,h0⟩:=h0
        refine kcall [1,46] [] (hYcycle_ok hy5) rfl rfl rfl Tryz.call38 (by simp) (by simp;rfl) ?_
        refine ko [1,44] 1 (by simp;rfl) ?_
        refine tpN ?_
        refine trc (b:=y5) (by simp) (fun c11=>?_) (fun c11=>?_)
        ·rw[if_pos c11] at h0
         refine kr [2] (by simp;rfl) ?_
         cases h0
         exact trr ⟨[],by simp,rfl,by simp⟩
        ·rw[if_neg (by rw[c11];decide)] at h0
         refine kc ?_
         refine ko [1,49] 2 (by simp;rfl) ?_
         replace h0:=bnd h0;obtain⟨y6,hy6,h0⟩:=h0
         refine kcall [1,50] [] (sYContainsFunc_api_RefEvent_at_history_Valid_3_ok hy6) rfl rfl rfl Tryz.call32 (by simp) (by simp;rfl) ?_
         refine ko [1,47] 1 (by simp;rfl) ?_
         refine tpN ?_
         refine trc (b:=y6) (by simp) (fun c12=>?_) (fun c12=>?_)
         ·rw[if_pos c12] at h0
          refine kr [2] (by simp;rfl) ?_
          cases h0
          exact trr ⟨[],by simp,rfl,by simp⟩
         ·rw[if_neg (by rw[c12];decide)] at h0
          refine kc ?_
          refine ko [1,53] 2 (by simp;rfl) ?_
          replace h0:=bnd h0;obtain⟨y7,hy7,h0⟩:=h0
          refine kcall [1,54] [] (sYIsSortedFunc_api_RefEvent_at_history_Valid_4_ok hy7) rfl rfl rfl Tryz.call40 (by simp) (by simp;rfl) ?_
          refine ko [1,51] 2 (by simp;rfl) ?_
          refine tpN ?_
          refine trc (b:=(!y7)) (by simp) (fun c13=>?_) (fun c13=>?_)
          ·rw[if_pos c13] at h0
           refine kr [2] (by simp;rfl) ?_
           cases h0
           exact trr ⟨[],by simp,rfl,by simp⟩
          ·rw[if_neg (by rw[c13];decide)] at h0
           refine trk ?_
           refine kr [1,5] (by simp;rfl) ?_
           refine trq ?_
           refine kr [5,58,59,60] (by simp;rfl) ?_
           replace h0:=bnd h0;obtain⟨e1,hI1,h0⟩:=h0
           refine tjv (fun v8:Unit=>({ nt:=77,env:=[],box:=[],vec:=[]}:St)) (fun v8=>.inl v8=e1) (fun v8 hI1e _ W1=>?_) ?_
           ·subst hI1e
            dsimp only at h0
            refine tr_wk W1 ?_
            refine kr [2] (by simp;rfl) ?_
            cases h0
            exact trr ⟨[],by simp,rfl,by simp⟩
           ·refine trb (tr_iter (fun s9:Int×(List (ByteArray×Bool))=>({ nt:=77,env:=[(5,.vec 56),(58,.d (.slice (rowsF zEr a0.Events))),(59,.d (.int .i64 ((a0.Events).length:Int))),(60,.d (.int .i64 s9.1))],box:=[],vec:=[(56,⟨mTag 74 1 false false,2,rowsF (mRow sRow bRow) s9.2⟩)]}:St)) hI1 (wk (by simp[wkI])) fun G1 s9 o1 h1 hg1 he1=>?_)
            unfold hYValid_l0 at h1
            refine kr [5,58,59,60,61] (by simp;rfl) ?_
            refine trq ?_
            refine trc (b:=(decide (s9.1 < ((a0.Events).length:Int)))) (by simp) (fun c20=>?_) (fun c20=>?_)
            ·rw[if_pos c20] at h1
             refine trk ?_
             refine trq ?_
             refine trb ?_
             replace h1:=bnd h1;obtain⟨x10,p3,h1⟩:=h1
             replace p3:=idx_some p3
             have p3':=p3;try simp at p3'
             refine kr [5,7,58,59,60] (by simp[p3,p3'];rfl) ?_
             refine sjv (fun v11:(List (ByteArray×Bool))=>({ nt:=77,env:=[(5,.vec 56),(58,.d (.slice (rowsF zEr a0.Events))),(59,.d (.int .i64 ((a0.Events).length:Int))),(60,.d (.int .i64 s9.1))],box:=[],vec:=[(56,⟨mTag 74 1 false false,2,rowsF (mRow sRow bRow) v11⟩)]}:St)) (fun v11=>hYValid_j1 s9 v11=some o1) (fun v11 h1=>?_) ?_
             ·unfold hYValid_j1 at h1
              refine kr [5,58,59,60,75] (by simp;rfl) ?_
              refine trc (b:=(decide (32 < ((v11).length:Int)))) (by simp) (fun c22=>?_) (fun c22=>?_)
              ·rw[if_pos c22] at h1
               refine kr [2] (by simp;rfl) ?_
               have k1:=he1 _ (Option.some.inj h1)
               subst k1
               dsimp only at h0
               cases h0
               exact trr ⟨[],by simp,rfl,by simp⟩
              ·rw[if_neg (by rw[c22];decide)] at h1
               refine trk ?_
               refine lr (by simp;rfl) ?_
               exact⟨_,hg1 _ (Option.some.inj h1),wk (by simp[wkI])⟩
             ·refine kr [5,7,58,59,60,66] (by simp;rfl) ?_
              refine trc (b:=(x10.Kind==1)) (by simp) (fun c23=>?_) (fun c23=>?_)
              ·rw[if_pos c23] at h1
               refine lr (by simp;rfl) ?_
               exact⟨_,h1,wk (by simp[wkI])⟩
              ·rw[if_neg (by rw[c23];decide)] at h1
               refine lr (by simp;rfl) ?_
               exact⟨_,h1,wk (by simp[wkI])⟩
            ·rw[if_neg (by rw[c20];decide)] at h1
             refine tr_exit ?_
             exact⟨_,he1 _ (Option.some.inj h1),wk (by simp[wkI])⟩
      ·refine kc1 ?_
       refine ko [1,3,36,37] 3 (by simp;rfl) ?_
       replace hvv4:=bnd hvv4;obtain⟨y14,hy14,hvv4⟩:=hvv4
       refine kcall [1,3,38] [3] (sYContainsFunc_api_Object_at_history_Valid_2_b_ok hy14) rfl rfl rfl Tryz.call29 (by simp) (by simp;rfl) ?_
       refine ko [1,3,39] 1 (by simp;rfl) ?_
       refine tops_split 39 y14.1 (by simp) (fun c24=>?_) (fun c24=>?_)
       ·rw[if_pos c24] at hvv4
        refine kskip 3 [] (by kernel_rfl) ?_
        refine ko [1,3,34] 2 (by simp;rfl) ?_
        refine tpN ?_
        cases hvv4
        exact⟨_,rfl,wk (by simp[wkI])⟩
       ·rw[if_neg (by rw[c24];decide)] at hvv4
        refine ko [1,3,39,40,41] 2 (by simp;rfl) ?_
        replace hvv4:=bnd hvv4;obtain⟨y15,hy15,hvv4⟩:=hvv4
        refine kcall [1,3,39,42] [] (hYnameless_ok hy15) rfl rfl rfl Tryz.call37 (by simp) (by simp;rfl) ?_
        refine ko [1,3,34] 2 (by simp;rfl) ?_
        refine tpN ?_
        cases hvv4
        exact⟨_,rfl,wk (by simp[wkI])⟩
   ·refine kc1 ?_
    refine ko [1,19] 2 (by simp;rfl) ?_
    replace hvv2:=bnd hvv2;obtain⟨y16,hy16,hvv2⟩:=hvv2
    refine kcall [1,20] [] (sYContainsFunc_api_Object_at_history_Valid_1_ok hy16) rfl rfl rfl Tryz.call29 (by simp) (by simp;rfl) ?_
    refine ko [1,21] 1 (by simp;rfl) ?_
    refine tops_split 21 y16 (by simp) (fun c25=>?_) (fun c25=>?_)
    ·rw[if_pos c25] at hvv2
     refine kskip 3 [] (by kernel_rfl) ?_
     refine ko [1,25] 1 (by simp;rfl) ?_
     refine tpN ?_
     cases hvv2
     exact⟨_,rfl,wk (by simp[wkI])⟩
    ·rw[if_neg (by rw[c25];decide)] at hvv2
     refine ko [1,21,23] 2 (by simp;rfl) ?_
     replace hvv2:=bnd hvv2;obtain⟨y17,hy17,hvv2⟩:=hvv2
     refine kcall [1,21,24] [] (sYContainsFunc_api_RefEvent_at_history_wrong_ok hy17) rfl rfl rfl Tryz.call32 (by simp) (by simp;rfl) ?_
     refine ko [1,25] 1 (by simp;rfl) ?_
     refine tpN ?_
     cases hvv2
     exact⟨_,rfl,wk (by simp[wkI])⟩
 ·refine kc1 ?_
  refine ko [1,12] 5 (by simp;rfl) ?_
  refine tops_split 12 (decide (400 < ((a0.Objects).length:Int))) (by simp) (fun c26=>?_) (fun c26=>?_)
  ·rw[c26] at hvv1
   refine kskip 4 [] (by kernel_rfl) ?_
   refine ko [1,17] 1 (by simp;rfl) ?_
   refine tpN ?_
   cases hvv1
   exact⟨_,rfl,wk (by simp[wkI])⟩
  ·rw[c26] at hvv1
   refine ko [1,17] 5 (by simp;rfl) ?_
   refine tpN ?_
   cases hvv1
   exact⟨_,rfl,wk (by simp[wkI])⟩
theorem hYrefs_ok {a0:zR} {a1:Int} {r:(List (ByteArray×Int))} (h0:hYrefs a0 a1=some r):FnOK Tryz.prog 50 [] [.agg (zRa a0),.d (.int .i64 a1)] (.d (.mp (mTag 82 1 false false) 2 (rowsF (mRow sRow (iRow .i64)) r))) []:=by
 unfold hYrefs at h0
 refine fn_ok (nt:=33) (rs:=[.tmp 4]) Tryz.func50 rfl Tryz.ntmps50 rfl (by simp) (by decide) rfl fun K=>?_
 refine kr [1,2] (by simp;rfl) ?_
 refine kr [1,2,5] (by simp;rfl) ?_
 refine trq ?_
 refine kr [1,5,10,11,12] (by simp;rfl) ?_
 replace h0:=bnd h0;obtain⟨e1,hI1,h0⟩:=h0
 refine tjv (fun v1:(List (ByteArray×Int))=>({ nt:=33,env:=[(5,.vec 8)],box:=[],vec:=[(8,⟨mTag 82 1 false false,2,rowsF (mRow sRow (iRow .i64)) v1⟩)]}:St)) (fun v1=>v1=e1) (fun v1 hI1e _ W1=>?_) ?_
 ·subst hI1e
  refine tr_wk W1 ?_
  refine kr [4] (by simp;rfl) ?_
  cases h0
  exact trr ⟨[8],by simp,rfl,by simp⟩
 ·refine trb (tr_iter (fun s2:Int×(List (ByteArray×Int))=>({ nt:=33,env:=[(1,.d (.int .i64 a1)),(5,.vec 8),(10,.d (.slice (rowsF zEr a0.Events))),(11,.d (.int .i64 ((a0.Events).length:Int))),(12,.d (.int .i64 s2.1))],box:=[],vec:=[(8,⟨mTag 82 1 false false,2,rowsF (mRow sRow (iRow .i64)) s2.2⟩)]}:St)) hI1 (wk (by simp[wkI])) fun G1 s2 o1 h1 hg1 he1=>?_)
  unfold hYrefs_l0 at h1
  refine kr [1,5,10,11,12,13] (by simp;rfl) ?_
  refine trq ?_
  refine trc (b:=(decide (s2.1 < ((a0.Events).length:Int)))) (by simp) (fun c7=>?_) (fun c7=>?_)
  ·rw[if_pos c7] at h1
   refine trk ?_
   refine trq ?_
   refine trb ?_
   replace h1:=bnd h1;obtain⟨x3,p3,h1⟩:=h1
   replace p3:=idx_some p3
   have p3':=p3;try simp at p3'
   refine kr [1,5,7,10,11,12] (by simp[p3,p3'];rfl) ?_
   refine trq ?_
   refine kr [1,5,7,10,11,12,19] (by simp;rfl) ?_
   refine trc (b:=(decide (a1 < x3.Time))) (by simp) (fun c8=>?_) (fun c8=>?_)
   ·rw[if_pos c8] at h1
    refine tr_exit ?_
    exact⟨_,he1 _ (Option.some.inj h1),wk (by simp[wkI])⟩
   ·rw[if_neg (by rw[c8];decide)] at h1
    refine trk ?_
    refine kr [1,5,7,10,11,12,22] (by simp;rfl) ?_
    refine trc (b:=(x3.Kind==1)) (by simp) (fun c9=>?_) (fun c9=>?_)
    ·rw[if_pos c9] at h1
     refine lr (by simp;rfl) ?_
     refine lr (by simp;rfl) ?_
     exact⟨_,hg1 _ (Option.some.inj h1),wk (by simp[wkI])⟩
    ·rw[if_neg (by rw[c9];decide)] at h1
     refine lr (by simp;rfl) ?_
     refine lr (by simp;rfl) ?_
     exact⟨_,hg1 _ (Option.some.inj h1),wk (by simp[wkI])⟩
  ·rw[if_neg (by rw[c7];decide)] at h1
   refine tr_exit ?_
   exact⟨_,he1 _ (Option.some.inj h1),wk (by simp[wkI])⟩
theorem rYInts_ok {a0:List Int} {a1:List Int} {r:Bool} (h0:rYInts a0 a1=some r):FnOK Tryz.prog 9 [] [.d (.slice (rowsF (iRow .i64) a0)),.d (.slice (rowsF (iRow .i64) a1))] (.d (.bool r)) []:=by
 unfold rYInts at h0
 refine fn_ok (nt:=26) (rs:=[.tmp 4]) Tryz.func9 rfl Tryz.ntmps9 rfl (by simp) (by decide) rfl fun K=>?_
 refine kr [0,1] (by simp;rfl) ?_
 refine trq ?_
 refine kr [0,1,10] (by simp;rfl) ?_
 refine trc (b:=(((a0).length:Int) != ((a1).length:Int))) (by simp) (fun c1=>?_) (fun c1=>?_)
 ·rw[if_pos c1] at h0
  refine kr [4] (by simp;rfl) ?_
  cases h0
  exact trr ⟨[],by simp,rfl,by simp⟩
 ·rw[if_neg (by rw[c1];decide)] at h0
  refine trk ?_
  refine trq ?_
  refine kr [0,1,5] (by simp;rfl) ?_
  replace h0:=bnd h0;obtain⟨e1,hI1,h0⟩:=h0
  refine tjv (fun v1:Unit=>({ nt:=26,env:=[],box:=[],vec:=[]}:St)) (fun v1=>.inl v1=e1) (fun v1 hI1e _ W1=>?_) ?_
  ·subst hI1e
   dsimp only at h0
   refine tr_wk W1 ?_
   refine kr [4] (by simp;rfl) ?_
   cases h0
   exact trr ⟨[],by simp,rfl,by simp⟩
  ·refine trb (tr_iter (fun s2:Int=>({ nt:=26,env:=[(0,.d (.slice (rowsF (iRow .i64) a0))),(1,.d (.slice (rowsF (iRow .i64) a1))),(5,.d (.int .i64 s2))],box:=[],vec:=[]}:St)) hI1 (wk (by simp[wkI])) fun G1 s2 o1 h1 hg1 he1=>?_)
   unfold rYInts_l0 at h1
   refine trq ?_
   refine kr [0,1,5,14] (by simp;rfl) ?_
   refine trc (b:=(decide (s2 < ((a0).length:Int)))) (by simp) (fun c6=>?_) (fun c6=>?_)
   ·rw[if_pos c6] at h1
    refine trk ?_
    refine trq ?_
    refine trb ?_
    refine kd [[],[],[0,1],[2],[],[],[4,5],[6],[3,7]] [] [] none [] 9 fol (by decide +kernel) (by simp) ?_
    replace h1:=bnd h1;obtain⟨x3,p17,h1⟩:=h1
    replace p17:=idx_some p17
    have p17':=p17;try simp at p17'
    replace h1:=bnd h1;obtain⟨x4,p18,h1⟩:=h1
    replace p18:=idx_some p18
    have p18':=p18;try simp at p18'
    refine dr_go 0 2 rfl (by simp (maxSteps:=1000000) [p17,p18,p17',p18'];rfl) ?_
    refine dr_go 2 2 rfl (by simp (maxSteps:=1000000) [p17,p18,p17',p18'];rfl) ?_
    refine dr_go 4 2 rfl (by simp (maxSteps:=1000000) [p17,p18,p17',p18'];rfl) ?_
    refine dr_go 6 2 rfl (by simp (maxSteps:=1000000) [p17,p18,p17',p18'];rfl) ?_
    refine dr_go 8 1 rfl (by simp (maxSteps:=1000000) [p17,p18,p17',p18'];rfl) ?_
    refine dr_end rfl (tpN ?_)
    refine trc (b:=(x3 != x4)) (by simp) (fun c7=>?_) (fun c7=>?_)
    ·rw[if_pos c7] at h1
     refine kr [4] (by simp;rfl) ?_
     have k1:=he1 _ (Option.some.inj h1)
     subst k1
     dsimp only at h0
     cases h0
     exact trr ⟨[],by simp,rfl,by simp⟩
    ·rw[if_neg (by rw[c7];decide)] at h1
     refine trk ?_
     refine lr (by simp;rfl) ?_
     exact⟨_,hg1 _ (Option.some.inj h1),wk (by simp[wkI])⟩
   ·rw[if_neg (by rw[c6];decide)] at h1
    refine tr_exit ?_
    exact⟨_,he1 _ (Option.some.inj h1),wk (by simp[wkI])⟩
theorem rYItems_ok {a0:List zI} {a1:List zI} {r:Bool} (h0:rYItems a0 a1=some r):FnOK Tryz.prog 13 [] [.d (.slice (rowsF zIr a0)),.d (.slice (rowsF zIr a1))] (.d (.bool r)) []:=by
 unfold rYItems at h0
 refine fn_ok (nt:=26) (rs:=[.tmp 4]) Tryz.func13 rfl Tryz.ntmps13 rfl (by simp) (by decide) rfl fun K=>?_
 refine kr [0,1] (by simp;rfl) ?_
 refine trq ?_
 refine kr [0,1,10] (by simp;rfl) ?_
 refine trc (b:=(((a0).length:Int) != ((a1).length:Int))) (by simp) (fun c1=>?_) (fun c1=>?_)
 ·rw[if_pos c1] at h0
  refine kr [4] (by simp;rfl) ?_
  cases h0
  exact trr ⟨[],by simp,rfl,by simp⟩
 ·rw[if_neg (by rw[c1];decide)] at h0
  refine trk ?_
  refine trq ?_
  refine kr [0,1,5] (by simp;rfl) ?_
  replace h0:=bnd h0;obtain⟨e1,hI1,h0⟩:=h0
  refine tjv (fun v1:Unit=>({ nt:=26,env:=[],box:=[],vec:=[]}:St)) (fun v1=>.inl v1=e1) (fun v1 hI1e _ W1=>?_) ?_
  ·subst hI1e
   dsimp only at h0
   refine tr_wk W1 ?_
   refine kr [4] (by simp;rfl) ?_
   cases h0
   exact trr ⟨[],by simp,rfl,by simp⟩
  ·refine trb (tr_iter (fun s2:Int=>({ nt:=26,env:=[(0,.d (.slice (rowsF zIr a0))),(1,.d (.slice (rowsF zIr a1))),(5,.d (.int .i64 s2))],box:=[],vec:=[]}:St)) hI1 (wk (by simp[wkI])) fun G1 s2 o1 h1 hg1 he1=>?_)
   unfold rYItems_l0 at h1
   refine trq ?_
   refine kr [0,1,5,14] (by simp;rfl) ?_
   refine trc (b:=(decide (s2 < ((a0).length:Int)))) (by simp) (fun c6=>?_) (fun c6=>?_)
   ·rw[if_pos c6] at h1
    refine trk ?_
    refine trq ?_
    refine trb ?_
    refine kd [[],[],[0,1],[2],[],[],[4,5],[6],[3,7]] [] [] none [] 9 fol (by decide +kernel) (by simp) ?_
    replace h1:=bnd h1;obtain⟨x3,p17,h1⟩:=h1
    replace p17:=idx_some p17
    have p17':=p17;try simp at p17'
    replace h1:=bnd h1;obtain⟨x4,p18,h1⟩:=h1
    replace p18:=idx_some p18
    have p18':=p18;try simp at p18'
    refine dr_go 0 2 rfl (by simp (maxSteps:=1000000) [p17,p18,p17',p18'];rfl) ?_
    refine dr_go 2 2 rfl (by simp (maxSteps:=1000000) [p17,p18,p17',p18'];rfl) ?_
    refine dr_go 4 2 rfl (by simp (maxSteps:=1000000) [p17,p18,p17',p18'];rfl) ?_
    refine dr_go 6 2 rfl (by simp (maxSteps:=1000000) [p17,p18,p17',p18'];rfl) ?_
    refine dr_go 8 1 rfl (by simp (maxSteps:=1000000) [p17,p18,p17',p18'];rfl) ?_
    refine dr_end rfl (tpN ?_)
    refine trc (b:=(!(((x3.Name).toList==(x4.Name).toList)&&(x3.ID==x4.ID)))) (by simp) (fun c7=>?_) (fun c7=>?_)
    ·rw[if_pos c7] at h1
     refine kr [4] (by simp;rfl) ?_
     have k1:=he1 _ (Option.some.inj h1)
     subst k1
     dsimp only at h0
     cases h0
     exact trr ⟨[],by simp,rfl,by simp⟩
    ·rw[if_neg (by rw[c7];decide)] at h1
     refine trk ?_
     refine lr (by simp;rfl) ?_
     exact⟨_,hg1 _ (Option.some.inj h1),wk (by simp[wkI])⟩
   ·rw[if_neg (by rw[c6];decide)] at h1
    refine tr_exit ?_
    exact⟨_,he1 _ (Option.some.inj h1),wk (by simp[wkI])⟩
end Go.Vl
