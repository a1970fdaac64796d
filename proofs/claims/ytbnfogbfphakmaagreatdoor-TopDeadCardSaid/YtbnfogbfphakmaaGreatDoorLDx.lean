/- Plain functions that mirror functions of the given program. Conditions: none. -/
import Derived.Test.YtbnfogbfphakmaaGreatDoorLCx
import Derived.Test.YtbnfogbfphakmaaGreatDoorLsx
import Derived.Test.YtbnfogbfphakmaaGreatDoorVmQq
import Derived.Test.YtbnfogbfphakmaaGreatDoorVmLz
import Derived.Test.YtbnfogbfphakmaaGreatDoorLq
import Derived.Test.YtbnfogbfphakmaaGreatDoorTyL
set_option maxHeartbeats 16000000
set_option linter.unusedSimpArgs false
set_option linter.unusedVariables false
namespace Go.Vl
open Go
noncomputable def zT_Next (a0:zT) (a1:Int):Option (Int×zT):=
 if(decide (((a0.L).length:Int)≤a0.at_))=true then
  some (0,a0)
 else
 (idx a0.L a0.at_).bind fun x1=>
 (ck (a1≠0)).bind fun _=>
 some (((J9 .i64 x1 65535)).tmod a1,(⟨a0.L,IntKind.i64.wrap (a0.at_+1)⟩:zT))
noncomputable def zT_Between (a0:zT) (a1:Int) (a2:Int):Option (Int×zT):=
 (zT_Next a0 (IntKind.i64.wrap ((IntKind.i64.wrap (a2 - a1))+1))).bind fun y1=>
 some (IntKind.i64.wrap (a1+y1.1),y1.2)
noncomputable def mYPick (a0:zT) (a1:List Int):Option (Int×zT):=
 (zT_Next a0 ((a1).length:Int)).bind fun y1=>
 (idx a1 y1.1).bind fun x2=>
 some (x2,y1.2)
noncomputable def ref36_in (a0:Int) (a1:Int) (a2:Int):Option (Bool):=
 (some ((decide (a1≤a0))&&(decide (a0≤a2)))).bind fun v1=>
 some v1
noncomputable def ref36_New_l0 (a0:Int) (s4:Int×(List AC)):Option (Lp (Int×(List AC)) (List AC)):=
 if(decide (s4.1 < a0))=true then
  (ck ((s4.2).length+([(⟨0,true⟩:AC)]).length≤268435456)).bind fun _=>
  some (.go (IntKind.i64.wrap (s4.1+1),(s4.2++[(⟨0,true⟩:AC)])))
 else
  some (.out s4.2)
noncomputable def ref36_New (a0:Int) (a1:Int) (a2:Bool):Option (AA×Int):=
 Option.bind (
  (ref36_in a0 1 5).bind fun y5=>
  if(!y5)=true then
   some true
  else
  (ref36_in a1 0 3).bind fun y6=>
  some (!y6)) fun v1=>
 if v1=true then
  some ((⟨false,[],[],[]⟩:AA),39)
 else
 (some ([a1]:List Int)).bind fun l2=>
 (iter (ref36_New_l0 a0) (0,[])).bind fun v3=>
 some ((⟨a2,l2,v3,[]⟩:AA),0)
noncomputable def mYEvent (a0:zT) (a1:AA):Option (AP×zT):=
 (zT_Between a0 1 4).bind fun y1=>
 if(y1.1==1)=true then
  (mYPick y1.2 [1,2,2,3,0]).bind fun y2=>
  some ((⟨y1.1,0,0,y2.1⟩:AP),y2.2)
 else
 if(y1.1==4)=true then
  (zT_Next y1.2 ((a1.Replicas).length:Int)).bind fun y3=>
  (zT_Next y3.2 (IntKind.i64.wrap (((a1.Snapshots).length:Int)+1))).bind fun y4=>
  some ((⟨y1.1,y3.1,y4.1,0⟩:AP),y4.2)
 else
 (zT_Next y1.2 ((a1.Replicas).length:Int)).bind fun y5=>
 some ((⟨y1.1,y5.1,0,0⟩:AP),y5.2)
noncomputable def ref36_Valid_l2 (a0:AA) (s5:Int):Option (Lp Int (Unit ⊕ Bool)):=
 if(decide (s5 < ((a0.Snapshots).length:Int)))=true then
  (idx a0.Snapshots s5).bind fun x6=>
  (ref36_in x6 0 (IntKind.i64.wrap (((a0.Sets).length:Int) - 1))).bind fun y7=>
  if(!y7)=true then
   some (.out (.inr false))
  else
   some (.go (IntKind.i64.wrap (s5+1)))
 else
  some (.out (.inl ()))
noncomputable def ref36_Valid_l1 (a0:AA) (s10:Int):Option (Lp Int (Unit ⊕ Bool)):=
 if(decide (s10 < ((a0.Replicas).length:Int)))=true then
  (idx a0.Replicas s10).bind fun x11=>
  (ref36_in x11.Generation 0 (IntKind.i64.wrap (((a0.Sets).length:Int) - 1))).bind fun y12=>
  if(!y12)=true then
   some (.out (.inr false))
  else
   some (.go (IntKind.i64.wrap (s10+1)))
 else
  some (.out (.inl ()))
noncomputable def ref36_Valid_l0 (a0:AA) (s15:Int):Option (Lp Int (Unit ⊕ Bool)):=
 if(decide (s15 < ((a0.Sets).length:Int)))=true then
  (idx a0.Sets s15).bind fun x16=>
  (ref36_in x16 0 3).bind fun y17=>
  if(!y17)=true then
   some (.out (.inr false))
  else
   some (.go (IntKind.i64.wrap (s15+1)))
 else
  some (.out (.inl ()))
noncomputable def ref36_Valid (a0:AA):Option (Bool):=
 Option.bind (
  (ref36_in ((a0.Replicas).length:Int) 1 5).bind fun y20=>
  if(!y20)=true then
   some true
  else
  (ref36_in ((a0.Sets).length:Int) 1 121).bind fun y21=>
  if(!y21)=true then
   some true
  else
   some (decide (120 < ((a0.Snapshots).length:Int)))) fun v1=>
 if v1=true then
  some false
 else
 (iter (ref36_Valid_l0 a0) 0).bind fun q19=>
 match q19 with
 | .inl v2=>
  (iter (ref36_Valid_l1 a0) 0).bind fun q14=>
  match q14 with
  | .inl v3=>
   (iter (ref36_Valid_l2 a0) 0).bind fun q9=>
   match q9 with
   | .inl v4=>
    some true
   | .inr r8=>
    some r8
  | .inr r13=>
   some r13
 | .inr r18=>
  some r18
noncomputable def ref36_Copy_own1_2_3 (a0:AA):Option (AA):=
 (ck ((a0.Sets).length≤268435456)).bind fun _=>
 (ck ((a0.Replicas).length≤268435456)).bind fun _=>
 (ck ((a0.Snapshots).length≤268435456)).bind fun _=>
 some a0
noncomputable def ref36_Apply_j0 (a1:AP) (y2:AA) (v3:Int×Int):Option (AA×Int):=
 Option.bind (
  if(!((a1.Kind==a1.Kind)&&((a1.Replica==v3.1)&&((a1.Snapshot==v3.2)&&(a1.Bits==0)))))=true then
   some true
  else
  (ref36_in a1.Kind 2 4).bind fun y9=>
  if(!y9)=true then
   some true
  else
  (ref36_in a1.Replica 0 (IntKind.i64.wrap (((y2.Replicas).length:Int) - 1))).bind fun y10=>
  if(!y10)=true then
   some true
  else
  if(a1.Kind==4)=true then
   (ref36_in a1.Snapshot 0 (IntKind.i64.wrap (((y2.Snapshots).length:Int) - 1))).bind fun y11=>
   some (!y11)
  else
   some false) fun v4=>
 if v4=true then
  some ((⟨false,[],[],[]⟩:AA),39)
 else
 (ck (0≤a1.Replica∧(Int.toNat a1.Replica) < (y2.Replicas).length)).bind fun _=>
 if(a1.Kind==2)=true then
  (idx y2.Replicas a1.Replica).bind fun x5=>
  some ((⟨y2.Fence,y2.Sets,(y2.Replicas.set (Int.toNat a1.Replica) (⟨IntKind.i64.wrap (((y2.Sets).length:Int) - 1),true⟩:AC)),y2.Snapshots⟩:AA),0)
 else
 if(a1.Kind==3)=true then
  if(decide (120≤((y2.Snapshots).length:Int)))=true then
   some ((⟨false,[],[],[]⟩:AA),3)
  else
  (idx y2.Replicas a1.Replica).bind fun x6=>
  (ck ((y2.Snapshots).length+([x6.Generation]).length≤268435456)).bind fun _=>
  some ((⟨y2.Fence,y2.Sets,y2.Replicas,(y2.Snapshots++[x6.Generation])⟩:AA),0)
 else
 (ck (0≤a1.Snapshot∧(Int.toNat a1.Snapshot) < (y2.Snapshots).length)).bind fun _=>
 (idx y2.Snapshots a1.Snapshot).bind fun x7=>
 (idx y2.Replicas a1.Replica).bind fun x8=>
 some ((⟨y2.Fence,y2.Sets,(y2.Replicas.set (Int.toNat a1.Replica) (⟨x7,(!y2.Fence)⟩:AC)),y2.Snapshots⟩:AA),0)
noncomputable def ref36_Apply_j1 (a1:AP) (y2:AA) (v14:Bool):Option (AA×Int):=
 if v14=true then
  ref36_Apply_j0 a1 y2 (a1.Replica,0)
 else
 if(a1.Kind==4)=true then
  ref36_Apply_j0 a1 y2 (a1.Replica,a1.Snapshot)
 else
  ref36_Apply_j0 a1 y2 (0,0)
noncomputable def ref36_Apply (a0:AA) (a1:AP):Option (AA×Int):=
 (ref36_Valid a0).bind fun y1=>
 if(!y1)=true then
  some ((⟨false,[],[],[]⟩:AA),39)
 else
 (ref36_Copy_own1_2_3 a0).bind fun y2=>
 if(a1.Kind==1)=true then
  Option.bind (
   if(!((a1.Kind==a1.Kind)&&((a1.Replica==0)&&((a1.Snapshot==0)&&(a1.Bits==a1.Bits)))))=true then
    some true
   else
   (ref36_in a1.Bits 0 3).bind fun y13=>
   some (!y13)) fun v12=>
  if v12=true then
   some ((⟨false,[],[],[]⟩:AA),39)
  else
  if(decide (120 < ((y2.Sets).length:Int)))=true then
   some ((⟨false,[],[],[]⟩:AA),3)
  else
  (ck ((y2.Sets).length+([a1.Bits]).length≤268435456)).bind fun _=>
  some ((⟨y2.Fence,(y2.Sets++[a1.Bits]),y2.Replicas,y2.Snapshots⟩:AA),0)
 else
 if(a1.Kind==2)=true then
  ref36_Apply_j1 a1 y2 (a1.Kind==2)
 else
  ref36_Apply_j1 a1 y2 (a1.Kind==3)
noncomputable def mYCluster_l0 (s7:Int×(List Int)×Int×Bool×(List Int)×(List AC)×(List Int)):Option (Lp (Int×(List Int)×Int×Bool×(List Int)×(List AC)×(List Int)) ((List Int)×Int×Bool×(List Int)×(List AC)×(List Int))):=
 if(decide (0 < s7.1))=true then
  (mYEvent (⟨s7.2.1,s7.2.2.1⟩:zT) (⟨s7.2.2.2.1,s7.2.2.2.2.1,s7.2.2.2.2.2.1,s7.2.2.2.2.2.2⟩:AA)).bind fun y8=>
  (ref36_Apply (⟨s7.2.2.2.1,s7.2.2.2.2.1,s7.2.2.2.2.2.1,s7.2.2.2.2.2.2⟩:AA) y8.1).bind fun y9=>
  if(y9.2==0)=true then
   some (.go (IntKind.i64.wrap (s7.1 - 1),y8.2.L,y8.2.at_,y9.1.Fence,y9.1.Sets,y9.1.Replicas,y9.1.Snapshots))
  else
   some (.go (IntKind.i64.wrap (s7.1 - 1),y8.2.L,y8.2.at_,s7.2.2.2.1,s7.2.2.2.2.1,s7.2.2.2.2.2.1,s7.2.2.2.2.2.2))
 else
  some (.out (s7.2.1,s7.2.2.1,s7.2.2.2.1,s7.2.2.2.2.1,s7.2.2.2.2.2.1,s7.2.2.2.2.2.2))
noncomputable def mYCluster (a0:zT):Option (AA×zT):=
 (zT_Between a0 1 3).bind fun y1=>
 (mYPick y1.2 [1,1,3,2]).bind fun y2=>
 (zT_Next y2.2 2).bind fun y3=>
 (ref36_New y1.1 y2.1 (y3.1==1)).bind fun y4=>
 (zT_Next y3.2 12).bind fun y5=>
 (iter (mYCluster_l0) (y5.1,y5.2.L,y5.2.at_,y4.1.Fence,y4.1.Sets,y4.1.Replicas,y4.1.Snapshots)).bind fun v6=>
 some ((⟨v6.2.2.1,v6.2.2.2.1,v6.2.2.2.2.1,v6.2.2.2.2.2⟩:AA),(⟨v6.1,v6.2.1⟩:zT))
noncomputable def cluster_fits_j0 (a1:AP) (y1:Bool) (a0:AA) (v4:Bool):Option Bool:=
 if v4=true then
  (some (((a1.Kind==a1.Kind)&&((a1.Replica==a1.Replica)&&((a1.Snapshot==0)&&(a1.Bits==0))))&&y1)).bind fun v5=>
  some v5
 else
 if(a1.Kind==4)=true then
  Option.bind (
   if((a1.Kind==a1.Kind)&&((a1.Replica==a1.Replica)&&((a1.Snapshot==a1.Snapshot)&&(a1.Bits==0))))=true then
    if y1=true then
     (cluster_among a1.Snapshot 0 (IntKind.i64.wrap (((a0.Snapshots).length:Int) - 1))).bind fun y7=>
     some y7
    else
     some false
   else
    some false) fun v6=>
  some v6
 else
  some false
noncomputable def cluster_fits (a0:AA) (a1:AP):Option (Bool):=
 (cluster_among a1.Replica 0 (IntKind.i64.wrap (((a0.Replicas).length:Int) - 1))).bind fun y1=>
 if(a1.Kind==1)=true then
  Option.bind (
   if((a1.Kind==a1.Kind)&&((a1.Replica==0)&&((a1.Snapshot==0)&&(a1.Bits==a1.Bits))))=true then
    (cluster_among a1.Bits 0 3).bind fun y3=>
    some y3
   else
    some false) fun v2=>
  some v2
 else
 if(a1.Kind==2)=true then
  cluster_fits_j0 a1 y1 a0 (a1.Kind==2)
 else
  cluster_fits_j0 a1 y1 a0 (a1.Kind==3)
noncomputable def sYClone_int (a0:List Int):Option (List Int):=
 (ck ((a0).length≤268435456)).bind fun _=>
 some a0
noncomputable def sYClone_int_own0 (a0:List Int):Option (List Int):=
 (ck ((a0).length≤268435456∧0 < (a0).length)).bind fun _=>
 some a0
noncomputable def sYClone_api_Replica_own0 (a0:List AC):Option (List AC):=
 (ck ((a0).length≤268435456∧0 < (a0).length)).bind fun _=>
 some a0
noncomputable def cluster_Copy_own1_2 (a0:AA):Option (AA):=
 (sYClone_int_own0 a0.Sets).bind fun y1=>
 (sYClone_api_Replica_own0 a0.Replicas).bind fun y2=>
 (sYClone_int a0.Snapshots).bind fun y3=>
 some (⟨a0.Fence,y1,y2,y3⟩:AA)
noncomputable def cluster_Apply (a0:AA) (a1:AP):Option (AA×Int):=
 Option.bind (
  (cluster_Check a0).bind fun y7=>
  if(y7 != 0)=true then
   some true
  else
  (cluster_fits a0 a1).bind fun y8=>
  some (!y8)) fun v1=>
 if v1=true then
  some ((⟨false,[],[],[]⟩:AA),39)
 else
 (some (bif (a1.Kind==1) then((decide (120 < ((a0.Sets).length:Int)))||((a1.Kind==3)&&(decide (120≤((a0.Snapshots).length:Int))))) else((a1.Kind==3)&&(decide (120≤((a0.Snapshots).length:Int)))))).bind fun v2=>
 if v2=true then
  some ((⟨false,[],[],[]⟩:AA),3)
 else
 (cluster_Copy_own1_2 a0).bind fun y3=>
 (ck (0≤a1.Replica∧(Int.toNat a1.Replica) < (y3.Replicas).length)).bind fun _=>
 if(a1.Kind==1)=true then
  (ck ((y3.Sets).length+([a1.Bits]).length≤268435456)).bind fun _=>
  some ((⟨y3.Fence,(y3.Sets++[a1.Bits]),y3.Replicas,y3.Snapshots⟩:AA),0)
 else
 if(a1.Kind==2)=true then
  (idx y3.Replicas a1.Replica).bind fun x4=>
  some ((⟨y3.Fence,y3.Sets,(y3.Replicas.set (Int.toNat a1.Replica) (⟨IntKind.i64.wrap (((a0.Sets).length:Int) - 1),true⟩:AC)),y3.Snapshots⟩:AA),0)
 else
 if(a1.Kind==3)=true then
  none
 else
 if(a1.Kind==4)=true then
  (idx a0.Snapshots a1.Snapshot).bind fun x5=>
  (idx y3.Replicas a1.Replica).bind fun x6=>
  some ((⟨y3.Fence,y3.Sets,(y3.Replicas.set (Int.toNat a1.Replica) (⟨x5,(!a0.Fence)⟩:AC)),y3.Snapshots⟩:AA),0)
 else
  some (y3,0)
noncomputable def cluster_asked (a0:Int):Option (Bool):=
 (some ((a0==1)||(a0==2))).bind fun v1=>
 some v1
noncomputable def cluster_has (a0:AA) (a1:Int) (a2:Int):Option (Bool):=
 (idx a0.Sets a1).bind fun x1=>
 some ((J9 .i64 x1 a2) != 0)
noncomputable def cluster_accepts (a0:AA) (a1:AC) (a2:Int):Option (Bool):=
 Option.bind (
  if a1.Serving=true then
   (cluster_has a0 a1.Generation a2).bind fun y2=>
   some y2
  else
   some false) fun v1=>
 some v1
noncomputable def cluster_Accepts (a0:AA) (a1:Int) (a2:Int):Option (Bool):=
 Option.bind (
  (cluster_Check a0).bind fun y2=>
  if(y2==0)=true then
   (cluster_asked a2).bind fun y3=>
   if y3=true then
    (cluster_among a1 0 (IntKind.i64.wrap (((a0.Replicas).length:Int) - 1))).bind fun y4=>
    if y4=true then
     (idx a0.Replicas a1).bind fun x5=>
     (cluster_accepts a0 x5 a2).bind fun y6=>
     some y6
    else
     some false
   else
    some false
  else
   some false) fun v1=>
 some v1
noncomputable def probe_ask (a0:AA) (a1:Int):Option (AQ):=
 (idx a0.Replicas a1).bind fun x1=>
 (cluster_Accepts a0 a1 1).bind fun y2=>
 some (⟨a1,x1.Generation,(!y2)⟩:AQ)
noncomputable def probe_All_l0 (a0:AA) (s3:Int×(List AQ)):Option (Lp (Int×(List AQ)) (List AQ)):=
 if(decide (s3.1 < ((a0.Replicas).length:Int)))=true then
  (probe_ask a0 s3.1).bind fun y4=>
  (ck ((s3.2).length+([y4]).length≤268435456)).bind fun _=>
  some (.go (IntKind.i64.wrap (s3.1+1),(s3.2++[y4])))
 else
  some (.out s3.2)
noncomputable def probe_All (a0:AA):Option ((List AQ)×Int):=
 (cluster_Check a0).bind fun y1=>
 if(y1 != 0)=true then
  some ([],y1)
 else
 (iter (probe_All_l0 a0) (0,[])).bind fun v2=>
 some (v2,0)
noncomputable def probe_exists (a0:AA) (a1:Int):Option (Bool):=
 (some ((decide (0≤a1))&&(decide (a1 < ((a0.Replicas).length:Int))))).bind fun v1=>
 some v1
noncomputable def probe_Right_1_cb (a0:AQ) (a1:AA):Option (Bool×AA):=
 Option.bind (
  (probe_exists a1 a0.Replica).bind fun y2=>
  if(!y2)=true then
   some true
  else
  (probe_ask a1 a0.Replica).bind fun y3=>
  some (!((a0.Replica==y3.Replica)&&((a0.Generation==y3.Generation)&&(a0.Refused==y3.Refused))))) fun v1=>
 some (v1,a1)
noncomputable def sYIndexFunc_api_Evidence_at_probe_Right_1_b_l0 (a0:List AQ) (s2:Int×Bool×(List Int)×(List AC)×(List Int)):Option (Lp (Int×Bool×(List Int)×(List AC)×(List Int)) ((Bool×(List Int)×(List AC)×(List Int)) ⊕ (Int×AA))):=
 if(decide (s2.1 < ((a0).length:Int)))=true then
  (idx a0 s2.1).bind fun x3=>
  (probe_Right_1_cb x3 (⟨s2.2.1,s2.2.2.1,s2.2.2.2.1,s2.2.2.2.2⟩:AA)).bind fun y4=>
  if y4.1=true then
   some (.out (.inr (s2.1,y4.2)))
  else
   some (.go (IntKind.i64.wrap (s2.1+1),y4.2.Fence,y4.2.Sets,y4.2.Replicas,y4.2.Snapshots))
 else
  some (.out (.inl (s2.2.1,s2.2.2.1,s2.2.2.2.1,s2.2.2.2.2)))
noncomputable def sYIndexFunc_api_Evidence_at_probe_Right_1_b (a0:List AQ) (b10:AA):Option (Int×AA):=
 (iter (sYIndexFunc_api_Evidence_at_probe_Right_1_b_l0 a0) (0,b10.Fence,b10.Sets,b10.Replicas,b10.Snapshots)).bind fun q6=>
 match q6 with
 | .inl v1=>
  some ((-1),(⟨v1.1,v1.2.1,v1.2.2.1,v1.2.2.2⟩:AA))
 | .inr r5=>
  some r5
noncomputable def sYContainsFunc_api_Evidence_at_probe_Right_1_b (a0:List AQ) (b10:AA):Option (Bool×AA):=
 (sYIndexFunc_api_Evidence_at_probe_Right_1_b a0 b10).bind fun y1=>
 some ((decide (0≤y1.1)),y1.2)
noncomputable def probe_Right (a0:AA) (a1:List AQ):Option (Bool):=
 Option.bind (
  (cluster_Check a0).bind fun y2=>
  if(y2==0)=true then
   (sYContainsFunc_api_Evidence_at_probe_Right_1_b a1 a0).bind fun y3=>
   some (!y3.1)
  else
   some false) fun v1=>
 some v1
noncomputable def probe_Since_l0 (a0:AA) (a1:Int) (s3:Int):Option (Lp Int Int):=
 Option.bind (
  if(decide (0 < s3))=true then
   (idx a0.Sets (IntKind.i64.wrap (s3 - 1))).bind fun x5=>
   some ((J9 .i64 x5 a1)==0)
  else
   some false) fun v4=>
 if v4=true then
  some (.go (IntKind.i64.wrap (s3 - 1)))
 else
  some (.out s3)
noncomputable def probe_Since (a0:AA) (a1:Int):Option (Int×Bool):=
 Option.bind (
  (cluster_Check a0).bind fun y6=>
  if(y6 != 0)=true then
   some true
  else
  if(a1 != 1)=true then
   some (a1 != 2)
  else
   some false) fun v1=>
 if v1=true then
  some (0,false)
 else
 (iter (probe_Since_l0 a0 a1) ((a0.Sets).length:Int)).bind fun v2=>
 if(v2==((a0.Sets).length:Int))=true then
  some (0,false)
 else
  some (v2,true)
noncomputable def probe_Missing_1_cbbbb (a0:AQ) (a1:Int) (a2:Bool) (a3:Int) (a4:AA):Option (Bool×Int×Bool×Int×AA):=
 (some ((a0.Replica==a1)&&(a0.Refused&&(a2&&((decide (a3≤a0.Generation))&&(decide (a0.Generation < ((a4.Sets).length:Int)))))))).bind fun v1=>
 some (v1,a1,a2,a3,a4)
noncomputable def sYIndexFunc_api_Evidence_at_probe_Missing_1_bbbb_l0 (a0:List AQ) (s2:Int×Int×Bool×Int×Bool×(List Int)×(List AC)×(List Int)):Option (Lp (Int×Int×Bool×Int×Bool×(List Int)×(List AC)×(List Int)) ((Int×Bool×Int×Bool×(List Int)×(List AC)×(List Int)) ⊕ (Int×Int×Bool×Int×AA))):=
 if(decide (s2.1 < ((a0).length:Int)))=true then
  (idx a0 s2.1).bind fun x3=>
  (probe_Missing_1_cbbbb x3 s2.2.1 s2.2.2.1 s2.2.2.2.1 (⟨s2.2.2.2.2.1,s2.2.2.2.2.2.1,s2.2.2.2.2.2.2.1,s2.2.2.2.2.2.2.2⟩:AA)).bind fun y4=>
  if y4.1=true then
   some (.out (.inr (s2.1,y4.2.1,y4.2.2.1,y4.2.2.2.1,y4.2.2.2.2)))
  else
   some (.go (IntKind.i64.wrap (s2.1+1),y4.2.1,y4.2.2.1,y4.2.2.2.1,y4.2.2.2.2.Fence,y4.2.2.2.2.Sets,y4.2.2.2.2.Replicas,y4.2.2.2.2.Snapshots))
 else
  some (.out (.inl (s2.2.1,s2.2.2.1,s2.2.2.2.1,s2.2.2.2.2.1,s2.2.2.2.2.2.1,s2.2.2.2.2.2.2.1,s2.2.2.2.2.2.2.2)))
noncomputable def sYIndexFunc_api_Evidence_at_probe_Missing_1_bbbb (a0:List AQ) (b10:Int) (b11:Bool) (b12:Int) (b13:AA):Option (Int×Int×Bool×Int×AA):=
 (iter (sYIndexFunc_api_Evidence_at_probe_Missing_1_bbbb_l0 a0) (0,b10,b11,b12,b13.Fence,b13.Sets,b13.Replicas,b13.Snapshots)).bind fun q6=>
 match q6 with
 | .inl v1=>
  some ((-1),v1.1,v1.2.1,v1.2.2.1,(⟨v1.2.2.2.1,v1.2.2.2.2.1,v1.2.2.2.2.2.1,v1.2.2.2.2.2.2⟩:AA))
 | .inr r5=>
  some r5
noncomputable def sYContainsFunc_api_Evidence_at_probe_Missing_1_bbbb (a0:List AQ) (b10:Int) (b11:Bool) (b12:Int) (b13:AA):Option (Bool×Int×Bool×Int×AA):=
 (sYIndexFunc_api_Evidence_at_probe_Missing_1_bbbb a0 b10 b11 b12 b13).bind fun y1=>
 some ((decide (0≤y1.1)),y1.2.1,y1.2.2.1,y1.2.2.2.1,y1.2.2.2.2)
noncomputable def probe_Missing_l0 (a0:AA) (a1:List AQ) (s4:Int×Bool×(List Int)×(List AC)×(List Int)×Int×Bool×(List Int)):Option (Lp (Int×Bool×(List Int)×(List AC)×(List Int)×Int×Bool×(List Int)) (List Int)):=
 if(decide (s4.1 < ((a0.Replicas).length:Int)))=true then
  (sYContainsFunc_api_Evidence_at_probe_Missing_1_bbbb a1 s4.1 s4.2.2.2.2.2.2.1 s4.2.2.2.2.2.1 (⟨s4.2.1,s4.2.2.1,s4.2.2.2.1,s4.2.2.2.2.1⟩:AA)).bind fun y5=>
  if(!y5.1)=true then
   (ck ((s4.2.2.2.2.2.2.2).length+([y5.2.1]).length≤268435456)).bind fun _=>
   some (.go (IntKind.i64.wrap (s4.1+1),y5.2.2.2.2.Fence,y5.2.2.2.2.Sets,y5.2.2.2.2.Replicas,y5.2.2.2.2.Snapshots,y5.2.2.2.1,y5.2.2.1,(s4.2.2.2.2.2.2.2++[y5.2.1])))
  else
   some (.go (IntKind.i64.wrap (s4.1+1),y5.2.2.2.2.Fence,y5.2.2.2.2.Sets,y5.2.2.2.2.Replicas,y5.2.2.2.2.Snapshots,y5.2.2.2.1,y5.2.2.1,s4.2.2.2.2.2.2.2))
 else
  some (.out s4.2.2.2.2.2.2.2)
noncomputable def probe_Missing (a0:AA) (a1:List AQ):Option ((List Int)):=
 (cluster_Check a0).bind fun y1=>
 if(y1 != 0)=true then
  some []
 else
 (probe_Since a0 1).bind fun y2=>
 (iter (probe_Missing_l0 a0 a1) (0,a0.Fence,a0.Sets,a0.Replicas,a0.Snapshots,y2.1,y2.2,[])).bind fun v3=>
 some v3
noncomputable def probe_Enough (a0:AA) (a1:List AQ):Option (Bool):=
 Option.bind (
  (cluster_Check a0).bind fun y2=>
  if(y2==0)=true then
   (probe_Missing a0 a1).bind fun y3=>
   some (((y3).length:Int)==0)
  else
   some false) fun v1=>
 some v1
noncomputable def cluster_some_1_cbb (a0:AC) (a1:AA) (a2:Int):Option (Bool×AA×Int):=
 (cluster_accepts a1 a0 a2).bind fun y1=>
 some (y1,a1,a2)
noncomputable def sYIndexFunc_api_Replica_at_cluster_some_1_bb_l0 (a0:List AC) (s2:Int×Bool×(List Int)×(List AC)×(List Int)×Int):Option (Lp (Int×Bool×(List Int)×(List AC)×(List Int)×Int) ((Bool×(List Int)×(List AC)×(List Int)×Int) ⊕ (Int×AA×Int))):=
 if(decide (s2.1 < ((a0).length:Int)))=true then
  (idx a0 s2.1).bind fun x3=>
  (cluster_some_1_cbb x3 (⟨s2.2.1,s2.2.2.1,s2.2.2.2.1,s2.2.2.2.2.1⟩:AA) s2.2.2.2.2.2).bind fun y4=>
  if y4.1=true then
   some (.out (.inr (s2.1,y4.2.1,y4.2.2)))
  else
   some (.go (IntKind.i64.wrap (s2.1+1),y4.2.1.Fence,y4.2.1.Sets,y4.2.1.Replicas,y4.2.1.Snapshots,y4.2.2))
 else
  some (.out (.inl (s2.2.1,s2.2.2.1,s2.2.2.2.1,s2.2.2.2.2.1,s2.2.2.2.2.2)))
noncomputable def sYIndexFunc_api_Replica_at_cluster_some_1_bb (a0:List AC) (b10:AA) (b11:Int):Option (Int×AA×Int):=
 (iter (sYIndexFunc_api_Replica_at_cluster_some_1_bb_l0 a0) (0,b10.Fence,b10.Sets,b10.Replicas,b10.Snapshots,b11)).bind fun q6=>
 match q6 with
 | .inl v1=>
  some ((-1),(⟨v1.1,v1.2.1,v1.2.2.1,v1.2.2.2.1⟩:AA),v1.2.2.2.2)
 | .inr r5=>
  some r5
noncomputable def sYContainsFunc_api_Replica_at_cluster_some_1_bb (a0:List AC) (b10:AA) (b11:Int):Option (Bool×AA×Int):=
 (sYIndexFunc_api_Replica_at_cluster_some_1_bb a0 b10 b11).bind fun y1=>
 some ((decide (0≤y1.1)),y1.2.1,y1.2.2)
noncomputable def cluster_some (a0:AA) (a1:Int):Option (Bool):=
 (sYContainsFunc_api_Replica_at_cluster_some_1_bb a0.Replicas a0 a1).bind fun y1=>
 some y1.1
noncomputable def cluster_Dead (a0:AA) (a1:Int):Option (Bool):=
 Option.bind (
  (cluster_Check a0).bind fun y2=>
  if(y2==0)=true then
   (cluster_asked a1).bind fun y3=>
   if y3=true then
    (cluster_has a0 (IntKind.i64.wrap (((a0.Sets).length:Int) - 1)) a1).bind fun y4=>
    if(!y4)=true then
     (cluster_some a0 a1).bind fun y5=>
     some (!y5)
    else
     some false
   else
    some false
  else
   some false) fun v1=>
 some v1
noncomputable def cluster_Revives_1_cbb (a0:Int) (a1:AA) (a2:Int):Option (Bool×AA×Int):=
 (cluster_has a1 a0 a2).bind fun y1=>
 some (y1,a1,a2)
noncomputable def sYIndexFunc_int_at_cluster_Revives_1_bb_l0 (a0:List Int) (s2:Int×Bool×(List Int)×(List AC)×(List Int)×Int):Option (Lp (Int×Bool×(List Int)×(List AC)×(List Int)×Int) ((Bool×(List Int)×(List AC)×(List Int)×Int) ⊕ (Int×AA×Int))):=
 if(decide (s2.1 < ((a0).length:Int)))=true then
  (idx a0 s2.1).bind fun x3=>
  (cluster_Revives_1_cbb x3 (⟨s2.2.1,s2.2.2.1,s2.2.2.2.1,s2.2.2.2.2.1⟩:AA) s2.2.2.2.2.2).bind fun y4=>
  if y4.1=true then
   some (.out (.inr (s2.1,y4.2.1,y4.2.2)))
  else
   some (.go (IntKind.i64.wrap (s2.1+1),y4.2.1.Fence,y4.2.1.Sets,y4.2.1.Replicas,y4.2.1.Snapshots,y4.2.2))
 else
  some (.out (.inl (s2.2.1,s2.2.2.1,s2.2.2.2.1,s2.2.2.2.2.1,s2.2.2.2.2.2)))
noncomputable def sYIndexFunc_int_at_cluster_Revives_1_bb (a0:List Int) (b10:AA) (b11:Int):Option (Int×AA×Int):=
 (iter (sYIndexFunc_int_at_cluster_Revives_1_bb_l0 a0) (0,b10.Fence,b10.Sets,b10.Replicas,b10.Snapshots,b11)).bind fun q6=>
 match q6 with
 | .inl v1=>
  some ((-1),(⟨v1.1,v1.2.1,v1.2.2.1,v1.2.2.2.1⟩:AA),v1.2.2.2.2)
 | .inr r5=>
  some r5
noncomputable def cluster_Revives_2_cbb (a0:AC) (a1:AA) (a2:Int):Option (Bool×AA×Int):=
 (cluster_has a1 a0.Generation a2).bind fun y1=>
 some (y1,a1,a2)
noncomputable def sYIndexFunc_api_Replica_at_cluster_Revives_2_bb_l0 (a0:List AC) (s2:Int×Bool×(List Int)×(List AC)×(List Int)×Int):Option (Lp (Int×Bool×(List Int)×(List AC)×(List Int)×Int) ((Bool×(List Int)×(List AC)×(List Int)×Int) ⊕ (Int×AA×Int))):=
 if(decide (s2.1 < ((a0).length:Int)))=true then
  (idx a0 s2.1).bind fun x3=>
  (cluster_Revives_2_cbb x3 (⟨s2.2.1,s2.2.2.1,s2.2.2.2.1,s2.2.2.2.2.1⟩:AA) s2.2.2.2.2.2).bind fun y4=>
  if y4.1=true then
   some (.out (.inr (s2.1,y4.2.1,y4.2.2)))
  else
   some (.go (IntKind.i64.wrap (s2.1+1),y4.2.1.Fence,y4.2.1.Sets,y4.2.1.Replicas,y4.2.1.Snapshots,y4.2.2))
 else
  some (.out (.inl (s2.2.1,s2.2.2.1,s2.2.2.2.1,s2.2.2.2.2.1,s2.2.2.2.2.2)))
noncomputable def sYIndexFunc_api_Replica_at_cluster_Revives_2_bb (a0:List AC) (b10:AA) (b11:Int):Option (Int×AA×Int):=
 (iter (sYIndexFunc_api_Replica_at_cluster_Revives_2_bb_l0 a0) (0,b10.Fence,b10.Sets,b10.Replicas,b10.Snapshots,b11)).bind fun q6=>
 match q6 with
 | .inl v1=>
  some ((-1),(⟨v1.1,v1.2.1,v1.2.2.1,v1.2.2.2.1⟩:AA),v1.2.2.2.2)
 | .inr r5=>
  some r5
noncomputable def cluster_Revives (a0:AA) (a1:Int):Option ((List AP)×Bool):=
 Option.bind (
  (cluster_Check a0).bind fun y7=>
  if(y7 != 0)=true then
   some true
  else
  (cluster_asked a1).bind fun y8=>
  some (!y8)) fun v1=>
 if v1=true then
  some ([],false)
 else
 (cluster_some a0 a1).bind fun y2=>
 if y2=true then
  some ([],true)
 else
 (cluster_has a0 (IntKind.i64.wrap (((a0.Sets).length:Int) - 1)) a1).bind fun y3=>
 if y3=true then
  some ([(⟨2,0,0,0⟩:AP)],true)
 else
 if a0.Fence=true then
  some ([],false)
 else
 (sYIndexFunc_int_at_cluster_Revives_1_bb a0.Snapshots a0 a1).bind fun y4=>
 if(decide (0≤y4.1))=true then
  some ([(⟨4,0,y4.1,0⟩:AP)],true)
 else
 (sYIndexFunc_api_Replica_at_cluster_Revives_2_bb y4.2.1.Replicas y4.2.1 y4.2.2).bind fun y5=>
 (some ((decide (y5.1 < 0))||(decide (120≤((y5.2.1.Snapshots).length:Int))))).bind fun v6=>
 if v6=true then
  some ([],false)
 else
  some ([(⟨3,y5.1,0,0⟩:AP),(⟨4,0,((y5.2.1.Snapshots).length:Int),0⟩:AP)],true)
noncomputable def top_TopDead_l1 (v4:Bool×(List Int)×(List AC)×(List Int)) (s10:Int×(List Int)×Int):Option (Lp (Int×(List Int)×Int) (Unit ⊕ Bool)):=
 if(decide (s10.1 < ((v4.2.2.2).length:Int)))=true then
  (zT_Next (⟨s10.2.1,s10.2.2⟩:zT) ((v4.2.2.1).length:Int)).bind fun y11=>
  (cluster_Apply (⟨v4.1,v4.2.1,v4.2.2.1,v4.2.2.2⟩:AA) (⟨4,y11.1,s10.1,0⟩:AP)).bind fun y12=>
  Option.bind (
   if(y12.2 != 0)=true then
    some true
   else
   (cluster_Dead y12.1 1).bind fun y14=>
   some (!y14)) fun v13=>
  if v13=true then
   some (.out (.inr false))
  else
   some (.go (IntKind.i64.wrap (s10.1+1),y11.2.L,y11.2.at_))
 else
  some (.out (.inl ()))
noncomputable def top_TopDead_l2 (y22:(List Int)) (s24:Int×Bool×(List Int)×(List AC)×(List Int)):Option (Lp (Int×Bool×(List Int)×(List AC)×(List Int)) ((Bool×(List Int)×(List AC)×(List Int)) ⊕ Bool)):=
 if(decide (s24.1 < ((y22).length:Int)))=true then
  (idx y22 s24.1).bind fun x25=>
  (cluster_Apply (⟨s24.2.1,s24.2.2.1,s24.2.2.2.1,s24.2.2.2.2⟩:AA) (⟨2,x25,0,0⟩:AP)).bind fun y26=>
  if(y26.2 != 0)=true then
   some (.out (.inr false))
  else
   some (.go (IntKind.i64.wrap (s24.1+1),y26.1.Fence,y26.1.Sets,y26.1.Replicas,y26.1.Snapshots))
 else
  some (.out (.inl (s24.2.1,s24.2.2.1,s24.2.2.2.1,s24.2.2.2.2)))
noncomputable def top_TopDead_l0 (s19:Int×Bool×(List Int)×(List AC)×(List Int)):Option (Lp (Int×Bool×(List Int)×(List AC)×(List Int)) ((Bool×(List Int)×(List AC)×(List Int)) ⊕ Bool)):=
 if(decide (s19.1 < 2))=true then
  (probe_All (⟨s19.2.1,s19.2.2.1,s19.2.2.2.1,s19.2.2.2.2⟩:AA)).bind fun y20=>
  Option.bind (
   if(y20.2 != 0)=true then
    some true
   else
   (probe_Right (⟨s19.2.1,s19.2.2.1,s19.2.2.2.1,s19.2.2.2.2⟩:AA) y20.1).bind fun y29=>
   some (!y29)) fun v21=>
  if v21=true then
   some (.out (.inr false))
  else
  (probe_Missing (⟨s19.2.1,s19.2.2.1,s19.2.2.2.1,s19.2.2.2.2⟩:AA) y20.1).bind fun y22=>
  (iter (top_TopDead_l2 y22) (0,s19.2.1,s19.2.2.1,s19.2.2.2.1,s19.2.2.2.2)).bind fun q28=>
  match q28 with
  | .inl v23=>
   some (.go (IntKind.i64.wrap (s19.1+1),v23.1,v23.2.1,v23.2.2.1,v23.2.2.2))
  | .inr r27=>
   some (.out (.inr r27))
 else
  some (.out (.inl (s19.2.1,s19.2.2.1,s19.2.2.2.1,s19.2.2.2.2)))
noncomputable def top_TopDead (a0:List Int):Option (Bool):=
 if(decide (400 < ((a0).length:Int)))=true then
  (top_awake44).bind fun y1=>
  some y1
 else
 (mYCluster (⟨a0,0⟩:zT)).bind fun y2=>
 (cluster_Apply (⟨true,y2.1.Sets,y2.1.Replicas,y2.1.Snapshots⟩:AA) (⟨1,0,0,2⟩:AP)).bind fun y3=>
 if(y3.2 != 0)=true then
  some false
 else
 (iter (top_TopDead_l0) (0,y3.1.Fence,y3.1.Sets,y3.1.Replicas,y3.1.Snapshots)).bind fun q31=>
 match q31 with
 | .inl v4=>
  (probe_All (⟨v4.1,v4.2.1,v4.2.2.1,v4.2.2.2⟩:AA)).bind fun y5=>
  Option.bind (
   if(y5.2 != 0)=true then
    some true
   else
   if(((v4.2.2.1).length:Int)==0)=true then
    some true
   else
   (probe_Enough (⟨v4.1,v4.2.1,v4.2.2.1,v4.2.2.2⟩:AA) y5.1).bind fun y17=>
   if(!y17)=true then
    some true
   else
   (cluster_Dead (⟨v4.1,v4.2.1,v4.2.2.1,v4.2.2.2⟩:AA) 1).bind fun y18=>
   some (!y18)) fun v6=>
  if v6=true then
   some false
  else
  (cluster_Revives (⟨v4.1,v4.2.1,v4.2.2.1,v4.2.2.2⟩:AA) 1).bind fun y7=>
  if y7.2=true then
   some false
  else
  (iter (top_TopDead_l1 v4) (0,y2.2.L,y2.2.at_)).bind fun q16=>
  match q16 with
  | .inl v8=>
   (top_awake44).bind fun y9=>
   some y9
  | .inr r15=>
   some r15
 | .inr r30=>
  some r30
end Go.Vl
namespace Go.Vl
open Go Go.Proofs
theorem B9 {a0:zT} {a1:Int} {r:Int×zT} (h0:zT_Next a0 a1=some r):Ac Tryz.prog 8 [zTa a0] [.ptr (InO 0) 0,.d (.int .i64 a1)] (.d (.int .i64 r.1)) [zTa r.2]:=by
 unfold zT_Next at h0
 refine AW (nt:=37) (rs:=[.tmp 4]) Tryz.func8 rfl Tryz.ntmps8 rfl (by simp) (by decide) rfl fun K=>?_
 refine kr [0,1] (by simp;rfl) ?_
 refine trq ?_
 refine kd [[],[0],[1],[2],[],[4],[5],[6],[7],[3,8]] [] [] none [] 10 fol (by decide +kernel) (by simp) ?_
 refine AN 0 2 rfl (by simp (maxSteps:=1000000);rfl) ?_
 refine AN 2 2 rfl (by simp (maxSteps:=1000000);rfl) ?_
 refine AN 4 2 rfl (by simp (maxSteps:=1000000);rfl) ?_
 refine AN 6 2 rfl (by simp (maxSteps:=1000000);rfl) ?_
 refine AN 8 2 rfl (by simp (maxSteps:=1000000);rfl) ?_
 refine BC rfl (tpN ?_)
 refine trc (b:=(decide (((a0.L).length:Int)≤a0.at_))) (by simp) (fun c1=>?_) (fun c1=>?_)
 ·rw[if_pos c1] at h0
  refine kr [4] (by simp;rfl) ?_
  cases h0
  exact trr ⟨[],by simp,rfl,by simp⟩
 ·rw[if_neg (by rw[c1];decide)] at h0
  refine trk ?_
  refine kd [[],[0],[1],[2],[],[4],[5],[6],[3,7],[8],[9],[10]] [] [] none [] 12 fol (by decide +kernel) (by simp) ?_
  replace h0:=bnd h0;obtain⟨x1,p3,h0⟩:=h0
  replace p3:=AT p3
  have p3':=p3;try simp at p3'
  refine AN 0 2 rfl (by simp (maxSteps:=1000000) [p3,p3'];rfl) ?_
  refine AN 2 2 rfl (by simp (maxSteps:=1000000) [p3,p3'];rfl) ?_
  refine AN 4 2 rfl (by simp (maxSteps:=1000000) [p3,p3'];rfl) ?_
  refine AN 6 2 rfl (by simp (maxSteps:=1000000) [p3,p3'];rfl) ?_
  refine AN 8 2 rfl (by simp (maxSteps:=1000000) [p3,p3'];rfl) ?_
  refine AN 10 2 rfl (by simp (maxSteps:=1000000) [p3,p3'];rfl) ?_
  refine BC rfl (tpN ?_)
  refine kr [1,5] (by simp;rfl) ?_
  replace h0:=bnd h0;obtain⟨_,p4,h0⟩:=h0
  replace p4:=AZ p4
  have p4':=p4;try simp at p4'
  refine kr [4] (by simp[p4,p4'];rfl) ?_
  cases h0
  exact trr ⟨[],by simp,rfl,by simp⟩
theorem Fz {a0:zT} {a1:Int} {a2:Int} {r:Int×zT} (h0:zT_Between a0 a1 a2=some r):Ac Tryz.prog 24 [zTa a0] [.ptr (InO 0) 0,.d (.int .i64 a1),.d (.int .i64 a2)] (.d (.int .i64 r.1)) [zTa r.2]:=by
 unfold zT_Between at h0
 refine AW (nt:=15) (rs:=[.tmp 6]) Tryz.func24 rfl Tryz.ntmps24 rfl (by simp) (by decide) rfl fun K=>?_
 refine kr [0,1,2] (by simp;rfl) ?_
 refine kc ?_
 refine ko [7,8,12] 6 (by simp;rfl) ?_
 replace h0:=bnd h0;obtain⟨y1,hy1,h0⟩:=h0
 refine AM [7,13] [1000000] (B9 hy1) rfl rfl rfl Tryz.call8 (by simp) (by simp;rfl) ?_
 refine ko [6] 2 (by simp;rfl) ?_
 refine tpN ?_
 cases h0
 exact trr ⟨[],by simp,rfl,by simp⟩
theorem Ku {a0:zT} {a1:List Int} {r:Int×zT} (h0:mYPick a0 a1=some r):Ac Tryz.prog 25 [zTa a0] [.ptr (InO 0) 0,.d (.slice (AB (AH .i64) a1))] (.d (.int .i64 r.1)) [zTa r.2]:=by
 unfold mYPick at h0
 refine AW (nt:=12) (rs:=[.tmp 4]) Tryz.func25 rfl Tryz.ntmps25 rfl (by simp) (by decide) rfl fun K=>?_
 refine kr [0,1] (by simp;rfl) ?_
 refine kc ?_
 refine ko [5,6,8] 4 (by simp;rfl) ?_
 replace h0:=bnd h0;obtain⟨y1,hy1,h0⟩:=h0
 refine AM [5,9] [1000000] (B9 hy1) rfl rfl rfl Tryz.call8 (by simp) (by simp;rfl) ?_
 replace h0:=bnd h0;obtain⟨x2,p1,h0⟩:=h0
 replace p1:=AT p1
 have p1':=p1;try simp at p1'
 refine ko [4] 3 (by simp[p1,p1'];rfl) ?_
 refine tpN ?_
 cases h0
 exact trr ⟨[],by simp,rfl,by simp⟩
theorem A7 {a0:Int} {a1:Int} {a2:Int} {r:Bool} (h0:ref36_in a0 a1 a2=some r):Ac Tryz.prog 69 [] [.d (.int .i64 a0),.d (.int .i64 a1),.d (.int .i64 a2)] (.d (.bool r)) []:=by
 unfold ref36_in at h0
 refine AW (nt:=15) (rs:=[.tmp 6]) Tryz.func69 rfl Tryz.ntmps69 rfl (by simp) (by decide) rfl fun K=>?_
 refine kr [0,1,2] (by simp;rfl) ?_
 replace h0:=bnd h0;obtain⟨v1,hvv1,h0⟩:=h0
 refine sjv (fun v1_:Bool=>({ nt:=15,env:=[(6,.d (.bool v1_))],box:=[],vec:=[]}:St)) (fun v1_=>v1=v1_) (fun v1_ e=>?_) ?_
 ·subst e
  cases h0
  exact trr ⟨[],by simp,rfl,by simp⟩
 ·refine kc1 ?_
  refine ko [0,2,10] 4 (by simp;rfl) ?_
  refine AG 10 (decide (a1≤a0)) (by simp) (fun c3=>?_) (fun c3=>?_)
  ·rw[c3] at hvv1
   refine ko [6] 5 (by simp;rfl) ?_
   refine tpN ?_
   cases hvv1
   exact⟨_,rfl,wk (by simp[wkI])⟩
  ·rw[c3] at hvv1
   refine AR 3 [] (by kernel_rfl) ?_
   refine ko [6] 2 (by simp;rfl) ?_
   refine tpN ?_
   cases hvv1
   exact⟨_,rfl,wk (by simp[wkI])⟩
theorem Lg {a0:Int} {a1:Int} {a2:Bool} {r:AA×Int} (h0:ref36_New a0 a1 a2=some r):Ac Tryz.prog 33 [] [.d (.int .i64 a0),.d (.int .i64 a1),.d (.bool a2)] (.tup [.agg (AF r.1),.d (.int .i64 r.2)]) []:=by
 unfold ref36_New at h0
 refine AW (nt:=33) (rs:=[.cell 6 57,.tmp 7]) Tryz.func33 rfl Tryz.ntmps33 rfl (by simp) (by decide) rfl fun K=>?_
 refine kr [0,1,2,6] (by simp;rfl) ?_
 refine trq ?_
 replace h0:=bnd h0;obtain⟨v1,hvv1,h0⟩:=h0
 refine sjv (fun v1_:Bool=>({ nt:=33,env:=[(0,.d (.int .i64 a0)),(1,.d (.int .i64 a1)),(2,.d (.bool a2)),(6,.ptr 6 0),(16,.d (.bool v1_))],box:=[(6,[.d (.bool false),.nilS,.nilS,.nilS])],vec:=[]}:St)) (fun v1_=>v1=v1_) (fun v1_ e=>?_) ?_
 ·subst e
  refine trc (b:=v1) (by simp) (fun c3=>?_) (fun c3=>?_)
  ·rw[if_pos c3] at h0
   refine kr [6,7] (by simp;rfl) ?_
   cases h0
   exact trr ⟨[],by simp,rfl,by simp⟩
  ·rw[if_neg (by rw[c3];decide)] at h0
   refine trk ?_
   refine kr [0,6,8] (by simp;rfl) ?_
   refine trq ?_
   refine kr [6,8,22,23] (by simp;rfl) ?_
   replace h0:=bnd h0;obtain⟨l2,hl2,h0⟩:=h0
   replace hl2:=Option.some.inj hl2
   refine Al (PQ 8 2 29 99 2 (by simp;rfl) (by simp) (by simp)) ?_
   replace h0:=bnd h0;obtain⟨e1,hI1,h0⟩:=h0
   refine tjv (fun v3:(List AC)=>({ nt:=33,env:=[(6,.ptr 6 0),(8,.ptr 8 0)],box:=[(6,[.d (.bool false),.nilS,.nilS,.nilS]),(8,[.d (.bool a2),.vec 20,.vec 29,.nilS])],vec:=[(20,⟨3,1,AB (AH .i64) l2⟩),(29,⟨99,2,AB AE v3⟩)]}:St)) (fun v3=>v3=e1) (fun v3 hI1e _ W1=>?_) ?_
   ·subst hI1e
    refine Al W1 ?_
    refine kr [6,7] (by simp;rfl) ?_
    cases h0
    exact trr ⟨[20,29],by simp,rfl,by simp⟩
   ·refine trb (Ai (fun s4:Int×(List AC)=>({ nt:=33,env:=[(6,.ptr 6 0),(8,.ptr 8 0),(22,.d (.int .i64 a0)),(23,.d (.int .i64 s4.1))],box:=[(6,[.d (.bool false),.nilS,.nilS,.nilS]),(8,[.d (.bool a2),.vec 20,.vec 29,.nilS])],vec:=[(20,⟨3,1,AB (AH .i64) l2⟩),(29,⟨99,2,AB AE s4.2⟩)]}:St)) hI1 (wk (by subst hl2;simp[wkI])) fun G1 s4 o1 h1 hg1 he1=>?_)
    unfold ref36_New_l0 at h1
    refine kr [6,8,22,23,24] (by simp;rfl) ?_
    refine trq ?_
    refine trc (b:=(decide (s4.1 < a0))) (by simp) (fun c7=>?_) (fun c7=>?_)
    ·rw[if_pos c7] at h1
     refine trk ?_
     refine trq ?_
     refine trb ?_
     replace h1:=bnd h1;obtain⟨_,p6,h1⟩:=h1
     replace p6:=AZ p6
     have p6':=p6;try simp at p6'
     refine lr (by simp[p6,p6'];rfl) ?_
     refine lr (by simp;rfl) ?_
     exact⟨_,hg1 _ (Option.some.inj h1),wk (by simp[wkI])⟩
    ·rw[if_neg (by rw[c7];decide)] at h1
     refine Af ?_
     exact⟨_,he1 _ (Option.some.inj h1),wk (by simp[wkI])⟩
 ·refine kc1 ?_
  refine ko [0,1,2,6,9] 1 (by simp;rfl) ?_
  replace hvv1:=bnd hvv1;obtain⟨y5,hy5,hvv1⟩:=hvv1
  refine AM [0,1,2,6,10] [] (A7 hy5) rfl rfl rfl Tryz.call69 (by simp) (by simp;rfl) ?_
  refine ko [0,1,2,6,12] 2 (by simp;rfl) ?_
  refine AG 12 (!y5) (by simp) (fun c8=>?_) (fun c8=>?_)
  ·rw[if_pos c8] at hvv1
   refine AR 3 [] (by kernel_rfl) ?_
   refine ko [0,1,2,6,16] 1 (by simp;rfl) ?_
   refine tpN ?_
   cases hvv1
   exact⟨_,rfl,wk (by simp[wkI])⟩
  ·rw[if_neg (by rw[c8];decide)] at hvv1
   refine ko [0,1,2,6,12,13] 1 (by simp;rfl) ?_
   replace hvv1:=bnd hvv1;obtain⟨y6,hy6,hvv1⟩:=hvv1
   refine AM [0,1,2,6,12,14] [] (A7 hy6) rfl rfl rfl Tryz.call69 (by simp) (by simp;rfl) ?_
   refine ko [0,1,2,6,16] 2 (by simp;rfl) ?_
   refine tpN ?_
   cases hvv1
   exact⟨_,rfl,wk (by simp[wkI])⟩
theorem Nz {a0:zT} {a1:AA} {r:AP×zT} (h0:mYEvent a0 a1=some r):Ac Tryz.prog 35 [zTa a0] [.ptr (InO 0) 0,.agg (AF a1)] (.agg (BY r.1)) [zTa r.2]:=by
 unfold mYEvent at h0
 refine AW (nt:=39) (rs:=[.cell 4 62]) Tryz.func35 rfl Tryz.ntmps35 rfl (by simp) (by decide) rfl fun K=>?_
 refine kr [0,3,4] (by simp;rfl) ?_
 refine kc ?_
 refine ko [0,3,4,6] 1 (by simp;rfl) ?_
 replace h0:=bnd h0;obtain⟨y1,hy1,h0⟩:=h0
 refine AM [0,3,4,7] [1000000] (Fz hy1) rfl rfl rfl Tryz.call24 (by simp) (by simp;rfl) ?_
 refine ko [0,3,4,5] 3 (by simp;rfl) ?_
 refine tpN ?_
 refine trq ?_
 refine kr [0,3,4,5,10] (by simp;rfl) ?_
 refine trb ?_
 refine kr [0,3,4,5,10,17] (by simp;rfl) ?_
 refine trc (b:=(y1.1==1)) (by simp) (fun c1=>?_) (fun c1=>?_)
 ·rw[if_pos c1] at h0
  refine kc1 ?_
  refine ko [4,5,19,20] 2 (by simp;rfl) ?_
  refine FZ (Qg 20) ?_
  replace h0:=bnd h0;obtain⟨y2,hy2,h0⟩:=h0
  refine AM [4,5,21] [1000000] (Ku hy2) rfl rfl rfl Tryz.call25 (by simp) (by simp;rfl) ?_
  refine ko [4,5] 2 (by simp;rfl) ?_
  refine tpN ?_
  refine kr [4] (by simp;rfl) ?_
  cases h0
  exact trr ⟨[],by simp,rfl,by simp⟩
 ·rw[if_neg (by rw[c1];decide)] at h0
  refine kr [0,3,4,5,23] (by simp;rfl) ?_
  refine trc (b:=(y1.1==4)) (by simp) (fun c2=>?_) (fun c2=>?_)
  ·rw[if_pos c2] at h0
   refine kd1 [[],[],[1],[2],[0,3],[],[],[6],[7],[8],[3,4,5,8,9],[3],[3,4,8,11],[3,8],[3,8,10,12,13]] [4,10,12,14] [(5,[12,14]),(1000000,[4,10])] none [] 15 fol (by decide +kernel) (by simp) ?_
   refine AN 0 2 rfl (by simp (maxSteps:=1000000);rfl) ?_
   refine AN 2 2 rfl (by simp (maxSteps:=1000000);rfl) ?_
   replace h0:=bnd h0;obtain⟨y3,hy3,h0⟩:=h0
   refine BL 4 [1000000] (B9 hy3) rfl rfl rfl rfl rfl Tryz.call8 (by simp) ?_
   refine AN 5 2 rfl (by simp (maxSteps:=1000000);rfl) ?_
   refine AN 7 2 rfl (by simp (maxSteps:=1000000);rfl) ?_
   refine AN 9 1 rfl (by simp (maxSteps:=1000000);rfl) ?_
   replace h0:=bnd h0;obtain⟨y4,hy4,h0⟩:=h0
   refine BL 10 [1000000] (B9 hy4) rfl rfl rfl rfl rfl Tryz.call8 (by simp) ?_
   refine AN 11 2 rfl (by simp (maxSteps:=1000000);rfl) ?_
   refine AN 13 2 rfl (by simp (maxSteps:=1000000);rfl) ?_
   refine BC rfl (tpN ?_)
   refine kr [4] (by simp;rfl) ?_
   cases h0
   exact trr ⟨[],by simp,rfl,by simp⟩
  ·rw[if_neg (by rw[c2];decide)] at h0
   refine kc1 ?_
   refine ko [4,5,11,14] 4 (by simp;rfl) ?_
   replace h0:=bnd h0;obtain⟨y5,hy5,h0⟩:=h0
   refine AM [4,5,15] [1000000] (B9 hy5) rfl rfl rfl Tryz.call8 (by simp) (by simp;rfl) ?_
   refine ko [4,5] 2 (by simp;rfl) ?_
   refine tpN ?_
   refine kr [4] (by simp;rfl) ?_
   cases h0
   exact trr ⟨[],by simp,rfl,by simp⟩
theorem Jy {a0:AA} {r:Bool} (h0:ref36_Valid a0=some r):Ac Tryz.prog 70 [] [.agg (AF a0)] (.d (.bool r)) []:=by
 unfold ref36_Valid at h0
 refine AW (nt:=69) (rs:=[.tmp 2]) Tryz.func70 rfl Tryz.ntmps70 rfl (by simp) (by decide) rfl fun K=>?_
 refine kr [1] (by simp;rfl) ?_
 refine trq ?_
 replace h0:=bnd h0;obtain⟨v1,hvv1,h0⟩:=h0
 refine sjv (fun v1_:Bool=>({ nt:=69,env:=[(1,.ptr 1 0),(26,.d (.bool v1_))],box:=[(1,[.d (.bool a0.Fence),.d (.slice (AB (AH .i64) a0.Sets)),.d (.slice (AB AE a0.Replicas)),.d (.slice (AB (AH .i64) a0.Snapshots))])],vec:=[]}:St)) (fun v1_=>v1=v1_) (fun v1_ e=>?_) ?_
 ·subst e
  refine trc (b:=v1) (by simp) (fun c5=>?_) (fun c5=>?_)
  ·rw[if_pos c5] at h0
   refine kr [2] (by simp;rfl) ?_
   cases h0
   exact trr ⟨[],by simp,rfl,by simp⟩
  ·rw[if_neg (by rw[c5];decide)] at h0
   refine trk ?_
   refine trq ?_
   refine kr [1,28,29,30] (by simp;rfl) ?_
   replace h0:=bnd h0;obtain⟨e1,hI1,h0⟩:=h0
   refine tjv (fun v2:Unit=>({ nt:=69,env:=[(1,.ptr 1 0)],box:=[(1,[.d (.bool a0.Fence),.d (.slice (AB (AH .i64) a0.Sets)),.d (.slice (AB AE a0.Replicas)),.d (.slice (AB (AH .i64) a0.Snapshots))])],vec:=[]}:St)) (fun v2=>.inl v2=e1) (fun v2 hI1e _ W1=>?_) ?_
   ·subst hI1e
    dsimp only at h0
    refine Al W1 ?_
    refine trq ?_
    refine kr [1,39,40,41] (by simp;rfl) ?_
    replace h0:=bnd h0;obtain⟨e2,hI2,h0⟩:=h0
    refine tjv (fun v3:Unit=>({ nt:=69,env:=[(1,.ptr 1 0)],box:=[(1,[.d (.bool a0.Fence),.d (.slice (AB (AH .i64) a0.Sets)),.d (.slice (AB AE a0.Replicas)),.d (.slice (AB (AH .i64) a0.Snapshots))])],vec:=[]}:St)) (fun v3=>.inl v3=e2) (fun v3 hI2e _ W2=>?_) ?_
    ·subst hI2e
     dsimp only at h0
     refine Al W2 ?_
     refine trq ?_
     refine kr [1,55,56,57] (by simp;rfl) ?_
     replace h0:=bnd h0;obtain⟨e3,hI3,h0⟩:=h0
     refine tjv (fun v4:Unit=>({ nt:=69,env:=[],box:=[],vec:=[]}:St)) (fun v4=>.inl v4=e3) (fun v4 hI3e _ W3=>?_) ?_
     ·subst hI3e
      dsimp only at h0
      refine Al W3 ?_
      refine kr [2] (by simp;rfl) ?_
      cases h0
      exact trr ⟨[],by simp,rfl,by simp⟩
     ·refine trb (Ai (fun s5:Int=>({ nt:=69,env:=[(1,.ptr 1 0),(55,.d (.slice (AB (AH .i64) a0.Snapshots))),(56,.d (.int .i64 ((a0.Snapshots).length:Int))),(57,.d (.int .i64 s5))],box:=[(1,[.d (.bool a0.Fence),.d (.slice (AB (AH .i64) a0.Sets)),.d (.slice (AB AE a0.Replicas)),.d (.slice (AB (AH .i64) a0.Snapshots))])],vec:=[]}:St)) hI3 (wk (by simp[wkI])) fun G3 s5 o3 h3 hg3 he3=>?_)
      unfold ref36_Valid_l2 at h3
      refine kr [1,55,56,57,58] (by simp;rfl) ?_
      refine trq ?_
      refine trc (b:=(decide (s5 < ((a0.Snapshots).length:Int)))) (by simp) (fun c18=>?_) (fun c18=>?_)
      ·rw[if_pos c18] at h3
       refine trk ?_
       refine trq ?_
       refine trb ?_
       replace h3:=bnd h3;obtain⟨x6,p7,h3⟩:=h3
       replace p7:=AT p7
       have p7':=p7;try simp at p7'
       refine kr [1,8,55,56,57] (by simp[p7,p7'];rfl) ?_
       refine kc ?_
       refine ko [1,55,56,57,61,65] 5 (by simp;rfl) ?_
       replace h3:=bnd h3;obtain⟨y7,hy7,h3⟩:=h3
       refine AM [1,55,56,57,66] [] (A7 hy7) rfl rfl rfl Tryz.call69 (by simp) (by simp;rfl) ?_
       refine ko [1,55,56,57,67] 1 (by simp;rfl) ?_
       refine tpN ?_
       refine trc (b:=(!y7)) (by simp) (fun c19=>?_) (fun c19=>?_)
       ·rw[if_pos c19] at h3
        refine kr [2] (by simp;rfl) ?_
        have k1:=he3 _ (Option.some.inj h3)
        subst k1
        dsimp only at h0
        cases h0
        exact trr ⟨[],by simp,rfl,by simp⟩
       ·rw[if_neg (by rw[c19];decide)] at h3
        refine trk ?_
        refine lr (by simp;rfl) ?_
        exact⟨_,hg3 _ (Option.some.inj h3),wk (by simp[wkI])⟩
      ·rw[if_neg (by rw[c18];decide)] at h3
       refine Af ?_
       exact⟨_,he3 _ (Option.some.inj h3),wk (by simp[wkI])⟩
    ·refine trb (Ai (fun s10:Int=>({ nt:=69,env:=[(1,.ptr 1 0),(39,.d (.slice (AB AE a0.Replicas))),(40,.d (.int .i64 ((a0.Replicas).length:Int))),(41,.d (.int .i64 s10))],box:=[(1,[.d (.bool a0.Fence),.d (.slice (AB (AH .i64) a0.Sets)),.d (.slice (AB AE a0.Replicas)),.d (.slice (AB (AH .i64) a0.Snapshots))])],vec:=[]}:St)) hI2 (wk (by simp[wkI])) fun G3 s10 o3 h3 hg3 he3=>?_)
     unfold ref36_Valid_l1 at h3
     refine kr [1,39,40,41,42] (by simp;rfl) ?_
     refine trq ?_
     refine trc (b:=(decide (s10 < ((a0.Replicas).length:Int)))) (by simp) (fun c20=>?_) (fun c20=>?_)
     ·rw[if_pos c20] at h3
      refine trk ?_
      refine trq ?_
      refine trb ?_
      replace h3:=bnd h3;obtain⟨x11,p8,h3⟩:=h3
      replace p8:=AT p8
      have p8':=p8;try simp at p8'
      refine kr [1,6,39,40,41] (by simp[p8,p8'];rfl) ?_
      refine kc ?_
      refine ko [1,39,40,41,46,50] 6 (by simp;rfl) ?_
      replace h3:=bnd h3;obtain⟨y12,hy12,h3⟩:=h3
      refine AM [1,39,40,41,51] [] (A7 hy12) rfl rfl rfl Tryz.call69 (by simp) (by simp;rfl) ?_
      refine ko [1,39,40,41,52] 1 (by simp;rfl) ?_
      refine tpN ?_
      refine trc (b:=(!y12)) (by simp) (fun c21=>?_) (fun c21=>?_)
      ·rw[if_pos c21] at h3
       refine kr [2] (by simp;rfl) ?_
       have k1:=he3 _ (Option.some.inj h3)
       subst k1
       dsimp only at h0
       cases h0
       exact trr ⟨[],by simp,rfl,by simp⟩
      ·rw[if_neg (by rw[c21];decide)] at h3
       refine trk ?_
       refine lr (by simp;rfl) ?_
       exact⟨_,hg3 _ (Option.some.inj h3),wk (by simp[wkI])⟩
     ·rw[if_neg (by rw[c20];decide)] at h3
      refine Af ?_
      exact⟨_,he3 _ (Option.some.inj h3),wk (by simp[wkI])⟩
   ·refine trb (Ai (fun s15:Int=>({ nt:=69,env:=[(1,.ptr 1 0),(28,.d (.slice (AB (AH .i64) a0.Sets))),(29,.d (.int .i64 ((a0.Sets).length:Int))),(30,.d (.int .i64 s15))],box:=[(1,[.d (.bool a0.Fence),.d (.slice (AB (AH .i64) a0.Sets)),.d (.slice (AB AE a0.Replicas)),.d (.slice (AB (AH .i64) a0.Snapshots))])],vec:=[]}:St)) hI1 (wk (by simp[wkI])) fun G3 s15 o3 h3 hg3 he3=>?_)
    unfold ref36_Valid_l0 at h3
    refine kr [1,28,29,30,31] (by simp;rfl) ?_
    refine trq ?_
    refine trc (b:=(decide (s15 < ((a0.Sets).length:Int)))) (by simp) (fun c22=>?_) (fun c22=>?_)
    ·rw[if_pos c22] at h3
     refine trk ?_
     refine trq ?_
     refine trb ?_
     replace h3:=bnd h3;obtain⟨x16,p9,h3⟩:=h3
     replace p9:=AT p9
     have p9':=p9;try simp at p9'
     refine kr [1,4,28,29,30] (by simp[p9,p9'];rfl) ?_
     refine kc ?_
     refine ko [1,28,29,30,34] 1 (by simp;rfl) ?_
     replace h3:=bnd h3;obtain⟨y17,hy17,h3⟩:=h3
     refine AM [1,28,29,30,35] [] (A7 hy17) rfl rfl rfl Tryz.call69 (by simp) (by simp;rfl) ?_
     refine ko [1,28,29,30,36] 1 (by simp;rfl) ?_
     refine tpN ?_
     refine trc (b:=(!y17)) (by simp) (fun c23=>?_) (fun c23=>?_)
     ·rw[if_pos c23] at h3
      refine kr [2] (by simp;rfl) ?_
      have k1:=he3 _ (Option.some.inj h3)
      subst k1
      dsimp only at h0
      cases h0
      exact trr ⟨[],by simp,rfl,by simp⟩
     ·rw[if_neg (by rw[c23];decide)] at h3
      refine trk ?_
      refine lr (by simp;rfl) ?_
      exact⟨_,hg3 _ (Option.some.inj h3),wk (by simp[wkI])⟩
    ·rw[if_neg (by rw[c22];decide)] at h3
     refine Af ?_
     exact⟨_,he3 _ (Option.some.inj h3),wk (by simp[wkI])⟩
 ·refine kc1 ?_
  refine ko [1,11] 3 (by simp;rfl) ?_
  replace hvv1:=bnd hvv1;obtain⟨y20,hy20,hvv1⟩:=hvv1
  refine AM [1,12] [] (A7 hy20) rfl rfl rfl Tryz.call69 (by simp) (by simp;rfl) ?_
  refine ko [1,14] 2 (by simp;rfl) ?_
  refine AG 14 (!y20) (by simp) (fun c24=>?_) (fun c24=>?_)
  ·rw[if_pos c24] at hvv1
   refine AR 5 [] (by kernel_rfl) ?_
   refine ko [1,21] 2 (by simp;rfl) ?_
   refine AR 4 [] (by kernel_rfl) ?_
   refine ko [1,26] 1 (by simp;rfl) ?_
   refine tpN ?_
   cases hvv1
   exact⟨_,rfl,wk (by simp[wkI])⟩
  ·rw[if_neg (by rw[c24];decide)] at hvv1
   refine ko [1,14,17] 3 (by simp;rfl) ?_
   replace hvv1:=bnd hvv1;obtain⟨y21,hy21,hvv1⟩:=hvv1
   refine AM [1,14,18] [] (A7 hy21) rfl rfl rfl Tryz.call69 (by simp) (by simp;rfl) ?_
   refine ko [1,21] 3 (by simp;rfl) ?_
   refine AG 21 (!y21) (by simp) (fun c25=>?_) (fun c25=>?_)
   ·rw[if_pos c25] at hvv1
    refine AR 4 [] (by kernel_rfl) ?_
    refine ko [1,26] 1 (by simp;rfl) ?_
    refine tpN ?_
    cases hvv1
    exact⟨_,rfl,wk (by simp[wkI])⟩
   ·rw[if_neg (by rw[c25];decide)] at hvv1
    refine ko [1,26] 5 (by simp;rfl) ?_
    refine tpN ?_
    cases hvv1
    exact⟨_,rfl,wk (by simp[wkI])⟩
theorem Ek {a0:AA} {r:AA} (h0:ref36_Copy_own1_2_3 a0=some r):DI Tryz.prog 71 [] [] [.agg (AF a0)] (.agg [.d (.bool r.Fence),.vec (InV 0),.vec (InV 1),.vec (InV 2)]) [] [⟨3,1,AB (AH .i64) r.Sets⟩,⟨99,2,AB AE r.Replicas⟩,⟨3,1,AB (AH .i64) r.Snapshots⟩]:=by
 unfold ref36_Copy_own1_2_3 at h0
 refine Iv (nt:=15) (rs:=[.cell 2 57]) Tryz.func71 rfl Tryz.ntmps71 rfl (by simp) (by decide) rfl fun K=>?_
 refine kr [1,2] (by simp;rfl) ?_
 refine kd [[],[0],[],[2],[3],[],[5],[4,6],[],[8],[4,7,9],[1,4,7,10],[4,7,10,11]] [12] [(2,[12])] none [] 13 fol (by decide +kernel) (by simp) ?_
 replace h0:=bnd h0;obtain⟨_,p7,h0⟩:=h0
 replace p7:=AZ p7
 have p7':=p7;try simp at p7'
 replace h0:=bnd h0;obtain⟨_,p8,h0⟩:=h0
 replace p8:=AZ p8
 have p8':=p8;try simp at p8'
 replace h0:=bnd h0;obtain⟨_,p9,h0⟩:=h0
 replace p9:=AZ p9
 have p9':=p9;try simp at p9'
 refine AN 0 2 rfl (by simp (maxSteps:=1000000) [p7,p8,p9,p7',p8',p9'];rfl) ?_
 refine AN 2 2 rfl (by simp (maxSteps:=1000000) [p7,p8,p9,p7',p8',p9'];rfl) ?_
 refine AN 4 2 rfl (by simp (maxSteps:=1000000) [p7,p8,p9,p7',p8',p9'];rfl) ?_
 refine AN 6 2 rfl (by simp (maxSteps:=1000000) [p7,p8,p9,p7',p8',p9'];rfl) ?_
 refine AN 8 2 rfl (by simp (maxSteps:=1000000) [p7,p8,p9,p7',p8',p9'];rfl) ?_
 refine AN 10 2 rfl (by simp (maxSteps:=1000000) [p7,p8,p9,p7',p8',p9'];rfl) ?_
 refine AN 12 1 rfl (by simp (maxSteps:=1000000) [p7,p8,p9,p7',p8',p9'];rfl) ?_
 refine BC rfl (tpN ?_)
 cases h0
 exact trr ⟨[],[7,10,13],by simp,by simp,by simp,by simp,by simp⟩
theorem Jz {a0:AA} {a1:AP} {r:AA×Int} (h0:ref36_Apply a0 a1=some r):Ac Tryz.prog 34 [] [.agg (AF a0),.agg (BY a1)] (.tup [.agg (AF r.1),.d (.int .i64 r.2)]) []:=by
 unfold ref36_Apply at h0
 refine LK (nt:=147) (rs:=[.cell 4 57,.tmp 5]) Tryz.func34 rfl Tryz.ntmps34 rfl (by simp) (by decide) rfl fun K hK=>?_
 refine kr [2,3,4] (by simp;rfl) ?_
 refine trq ?_
 refine kc ?_
 refine ko [2,3,4,8] 1 (by simp;rfl) ?_
 replace h0:=bnd h0;obtain⟨y1,hy1,h0⟩:=h0
 refine AM [2,3,4,9] [] (Jy hy1) rfl rfl rfl Tryz.call70 (by simp) (by simp;rfl) ?_
 refine ko [2,3,4,10] 1 (by simp;rfl) ?_
 refine tpN ?_
 refine trc (b:=(!y1)) (by simp) (fun c1=>?_) (fun c1=>?_)
 ·rw[if_pos c1] at h0
  refine kr [4,5] (by simp;rfl) ?_
  cases h0
  exact trr ⟨[],by simp,rfl,by simp⟩
 ·rw[if_neg (by rw[c1];decide)] at h0
  refine trk ?_
  refine kr [2,3,4,6] (by simp;rfl) ?_
  refine kc ?_
  refine ko [2,3,4,6,15] 1 (by simp;rfl) ?_
  replace h0:=bnd h0;obtain⟨y2,hy2,h0⟩:=h0
  refine B7 [2,3,4,6,16] [] [] [600064,600065,600066] (Ek hy2) rfl rfl rfl Tryz.call71 (by simp) (by simp;rfl) ?_
  refine ko [2,3,4,6] 1 (by simp;rfl) ?_
  refine tpN ?_
  refine sjv (fun v3:Int×Int=>({ nt:=147,env:=[(2,.ptr 2 0),(3,.ptr 3 0),(4,.ptr 4 0),(6,.ptr 6 0)],box:=[(2,[.d (.bool y2.Fence),.vec 600064,.vec 600065,.vec 600066]),(3,[.d (.int .i64 a1.Kind),.d (.int .i64 a1.Replica),.d (.int .i64 a1.Snapshot),.d (.int .i64 a1.Bits)]),(4,[.d (.bool false),.nilS,.nilS,.nilS]),(6,[.d (.int .i64 a1.Kind),.d (.int .i64 v3.1),.d (.int .i64 v3.2),.d (.int .i64 0)])],vec:=[(600064,⟨3,1,AB (AH .i64) y2.Sets⟩),(600065,⟨99,2,AB AE y2.Replicas⟩),(600066,⟨3,1,AB (AH .i64) y2.Snapshots⟩)]}:St)) (fun v3=>ref36_Apply_j0 a1 y2 v3=some r) (fun v3 h0=>?_) ?_
  ·unfold ref36_Apply_j0 at h0
   refine trq ?_
   replace h0:=bnd h0;obtain⟨v4,hvv4,h0⟩:=h0
   refine sjv (fun v4_:Bool=>({ nt:=147,env:=[(2,.ptr 2 0),(3,.ptr 3 0),(4,.ptr 4 0),(94,.d (.bool v4_))],box:=[(2,[.d (.bool y2.Fence),.vec 600064,.vec 600065,.vec 600066]),(3,[.d (.int .i64 a1.Kind),.d (.int .i64 a1.Replica),.d (.int .i64 a1.Snapshot),.d (.int .i64 a1.Bits)]),(4,[.d (.bool false),.nilS,.nilS,.nilS])],vec:=[(600064,⟨3,1,AB (AH .i64) y2.Sets⟩),(600065,⟨99,2,AB AE y2.Replicas⟩),(600066,⟨3,1,AB (AH .i64) y2.Snapshots⟩)]}:St)) (fun v4_=>v4=v4_) (fun v4_ e=>?_) ?_
   ·subst e
    refine trc (b:=v4) (by simp) (fun c17=>?_) (fun c17=>?_)
    ·rw[if_pos c17] at h0
     refine kr [4,5] (by simp;rfl) ?_
     cases h0
     exact trr ⟨[],by simp,rfl,by simp⟩
    ·rw[if_neg (by rw[c17];decide)] at h0
     refine trk ?_
     replace h0:=bnd h0;obtain⟨_,p3,h0⟩:=h0
     replace p3:=AZ p3
     have p3':=p3;try simp at p3'
     have p3o:a1.Replica < (((y2.Replicas)).length:Int):=by omega
     refine kr [2,3,4,7] (by simp[p3,p3o,p3'];rfl) ?_
     refine trq ?_
     refine kr [2,3,4,7,102] (by simp;rfl) ?_
     refine trb ?_
     refine kr [2,3,4,7,102,118] (by simp;rfl) ?_
     refine trc (b:=(a1.Kind==2)) (by simp) (fun c18=>?_) (fun c18=>?_)
     ·rw[if_pos c18] at h0
      replace h0:=bnd h0;obtain⟨x5,p4,h0⟩:=h0
      replace p4:=AT p4
      have p4':=p4;try simp at p4'
      refine lr (by simp[-getElem?_pos,List.getElem?_cons_zero,List.getElem?_cons_succ,p4,(List.getElem?_eq_some_iff.1 p4.2).1,p4'];rfl) ?_
      refine kr [4,5] (by simp;rfl) ?_
      cases h0
      exact trr ⟨[600064,600065,600066],by simp,rfl,by simp⟩
     ·rw[if_neg (by rw[c18];decide)] at h0
      refine kr [2,3,4,7,130] (by simp;rfl) ?_
      refine trc (b:=(a1.Kind==3)) (by simp) (fun c19=>?_) (fun c19=>?_)
      ·rw[if_pos c19] at h0
       refine trq ?_
       refine kr [2,4,7,135] (by simp;rfl) ?_
       refine trc (b:=(decide (120≤((y2.Snapshots).length:Int)))) (by simp) (fun c20=>?_) (fun c20=>?_)
       ·rw[if_pos c20] at h0
        refine kr [4,5] (by simp;rfl) ?_
        cases h0
        exact trr ⟨[],by simp,rfl,by simp⟩
       ·rw[if_neg (by rw[c20];decide)] at h0
        refine trk ?_
        replace h0:=bnd h0;obtain⟨x6,p5,h0⟩:=h0
        replace p5:=AT p5
        have p5':=p5;try simp at p5'
        replace h0:=bnd h0;obtain⟨_,p6,h0⟩:=h0
        replace p6:=AZ p6
        have p6':=p6;try simp at p6'
        refine Nr (S0:=({ nt:=147,env:=[(2,.ptr 2 0),(4,.ptr 4 0)],box:=[(2,[.d (.bool y2.Fence),.vec 600064,.vec 600065,.vec 144]),(4,[.d (.bool false),.nilS,.nilS,.nilS])],vec:=[(144,⟨3,1,AB (AH .i64) (y2.Snapshots++[x6.Generation])⟩),(600064,⟨3,1,AB (AH .i64) y2.Sets⟩),(600065,⟨99,2,AB AE y2.Replicas⟩)]}:St)) [0,2,3,4] 6 (by simpa using hK) fol (by decide +kernel) rfl rfl rfl (by simp[Bz,Ef,Bw,Bv,p5,p6,p5',p6'];rfl) (fun K' S F C=>?_) (fun _ Wk7=>?_)
        ·repeat' (first
          |exact trivial
          |(with_reducible apply LZ C);(decide +kernel);exact⟨rfl,wkI.2 (by simp)⟩
          |(with_reducible apply B1 C 8);(exact rfl);(decide +kernel);(decide +kernel);(simp [Bw,Bv]);(simp [p5,p6,p5',p6'];rfl)
          |(with_reducible apply hlC);(exact rfl);(simp [p5,p6,p5',p6'];rfl)
          |(with_reducible apply Ae C [1,5]);(decide +kernel);(decide)
          |(with_reducible apply Ae C [5]);(decide +kernel);(decide)
          |(with_reducible apply Ae C [6]);(decide +kernel);(decide)
          |(with_reducible apply Ae C [7]);(decide +kernel);(decide)
          |(with_reducible apply Ae C [9]);(decide +kernel);(decide)
          |(with_reducible apply Ae C [1,6]);(decide +kernel);(decide)
          |(with_reducible apply Ae C [1]);(decide +kernel);(decide)
          )
        ·
         refine Al (wk Wk7) ?_
         refine kr [4,5] (by simp;rfl) ?_
         cases h0
         exact trr ⟨[144,600064,600065],by simp,rfl,by simp⟩
      ·rw[if_neg (by rw[c19];decide)] at h0
       replace h0:=bnd h0;obtain⟨_,p8,h0⟩:=h0
       replace p8:=AZ p8
       have p8':=p8;try simp at p8'
       have p8o:a1.Snapshot < (((y2.Snapshots)).length:Int):=by omega
       replace h0:=bnd h0;obtain⟨x7,p9,h0⟩:=h0
       replace p9:=AT p9
       have p9':=p9;try simp at p9'
       replace h0:=bnd h0;obtain⟨x8,p10,h0⟩:=h0
       replace p10:=AT p10
       have p10':=p10;try simp at p10'
       refine Nr (S0:=({ nt:=147,env:=[(2,.ptr 2 0),(4,.ptr 4 0)],box:=[(2,[.d (.bool y2.Fence),.vec 600064,.vec 600065,.vec 600066]),(4,[.d (.bool false),.nilS,.nilS,.nilS])],vec:=[(600064,⟨3,1,AB (AH .i64) y2.Sets⟩),(600065,⟨99,2,AB AE (y2.Replicas.set (Int.toNat a1.Replica) (⟨x7,(!y2.Fence)⟩:AC))⟩),(600066,⟨3,1,AB (AH .i64) y2.Snapshots⟩)]}:St)) [0,1,2,4,8] 12 (by simpa using hK) fol (by decide +kernel) rfl rfl rfl (by simp[Bz,Ef,Bw,Bv, -getElem?_pos,List.getElem?_cons_zero,List.getElem?_cons_succ,p8,p8o,p9,p10,(List.getElem?_eq_some_iff.1 p10.2).1,p8',p9',p10'];rfl) (fun K' S F C=>?_) (fun _ Wk11=>?_)
       ·repeat' (first
         |exact trivial
         |(with_reducible apply LZ C);(decide +kernel);exact⟨rfl,wkI.2 (by simp)⟩
         |(with_reducible apply B1 C 6);(exact rfl);(decide +kernel);(decide +kernel);(simp [Bw,Bv]);(simp [-getElem?_pos,List.getElem?_cons_zero,List.getElem?_cons_succ,p8,p8o,p9,p10,(List.getElem?_eq_some_iff.1 p10.2).1,p8',p9',p10'];rfl)
         |(with_reducible apply B1 C 11);(exact rfl);(decide +kernel);(decide +kernel);(simp [Bw,Bv]);(simp [-getElem?_pos,List.getElem?_cons_zero,List.getElem?_cons_succ,p8,p8o,p9,p10,(List.getElem?_eq_some_iff.1 p10.2).1,p8',p9',p10'];rfl)
         |(with_reducible apply B1 C 12);(exact rfl);(decide +kernel);(decide +kernel);(simp [Bw,Bv]);(simp [-getElem?_pos,List.getElem?_cons_zero,List.getElem?_cons_succ,p8,p8o,p9,p10,(List.getElem?_eq_some_iff.1 p10.2).1,p8',p9',p10'];rfl)
         |(with_reducible apply B1 C 14);(exact rfl);(decide +kernel);(decide +kernel);(simp [Bw,Bv]);(simp [-getElem?_pos,List.getElem?_cons_zero,List.getElem?_cons_succ,p8,p8o,p9,p10,(List.getElem?_eq_some_iff.1 p10.2).1,p8',p9',p10'];rfl)
         |(with_reducible apply B1 C 15);(exact rfl);(decide +kernel);(decide +kernel);(simp [Bw,Bv]);(simp [-getElem?_pos,List.getElem?_cons_zero,List.getElem?_cons_succ,p8,p8o,p9,p10,(List.getElem?_eq_some_iff.1 p10.2).1,p8',p9',p10'];rfl)
         |(with_reducible apply hlC);(exact rfl);(simp [-getElem?_pos,List.getElem?_cons_zero,List.getElem?_cons_succ,p8,p8o,p9,p10,(List.getElem?_eq_some_iff.1 p10.2).1,p8',p9',p10'];rfl)
         |(with_reducible apply Ae C [3,5,9]);(decide +kernel);(decide)
         |(with_reducible apply Ae C [5,9]);(decide +kernel);(decide)
         |(with_reducible apply Ae C [7,9]);(decide +kernel);(decide)
         |(with_reducible apply Ae C [9,13]);(decide +kernel);(decide)
         |(with_reducible apply Ae C [10,13]);(decide +kernel);(decide)
         |(with_reducible apply Ae C [13]);(decide +kernel);(decide)
         |(with_reducible apply Ae C [16]);(decide +kernel);(decide)
         |(with_reducible apply Ae C [10]);(decide +kernel);(decide)
         |(with_reducible apply Ae C [9]);(decide +kernel);(decide)
         |(with_reducible apply Ae C [7,10]);(decide +kernel);(decide)
         |(with_reducible apply Ae C [7]);(decide +kernel);(decide)
         |(with_reducible apply Ae C [5,10]);(decide +kernel);(decide)
         |(with_reducible apply Ae C [5]);(decide +kernel);(decide)
         |(with_reducible apply Ae C [3,9]);(decide +kernel);(decide)
         |(with_reducible apply Ae C [3,10]);(decide +kernel);(decide)
         |(with_reducible apply Ae C [3]);(decide +kernel);(decide)
         |(with_reducible apply Ae C [3,5,10]);(decide +kernel);(decide)
         |(with_reducible apply Ae C [3,5]);(decide +kernel);(decide)
         )
       ·
        refine Al (wk Wk11) ?_
        refine kr [4,5] (by simp;rfl) ?_
        cases h0
        exact trr ⟨[600064,600065,600066],by simp,rfl,by simp⟩
   ·refine kc1 ?_
    refine ko [2,3,4,64] 4 (by simp;rfl) ?_
    refine AG 64 (!((a1.Kind==a1.Kind)&&((a1.Replica==v3.1)&&((a1.Snapshot==v3.2)&&(a1.Bits==0))))) (by simp) (fun c21=>?_) (fun c21=>?_)
    ·rw[if_pos c21] at hvv4
     refine AR 4 [] (by kernel_rfl) ?_
     refine ko [2,3,4,70] 2 (by simp;rfl) ?_
     refine AR 8 [] (by kernel_rfl) ?_
     refine ko [2,3,4,80] 2 (by simp;rfl) ?_
     refine AR 13 [] (by kernel_rfl) ?_
     refine ko [2,3,4,94] 1 (by simp;rfl) ?_
     refine tpN ?_
     cases hvv4
     exact⟨_,rfl,wk (by simp[wkI])⟩
    ·rw[if_neg (by rw[c21];decide)] at hvv4
     refine ko [2,3,4,64,66] 2 (by simp;rfl) ?_
     replace hvv4:=bnd hvv4;obtain⟨y9,hy9,hvv4⟩:=hvv4
     refine AM [2,3,4,64,67] [] (A7 hy9) rfl rfl rfl Tryz.call69 (by simp) (by simp;rfl) ?_
     refine ko [2,3,4,70] 3 (by simp;rfl) ?_
     refine AG 70 (!y9) (by simp) (fun c22=>?_) (fun c22=>?_)
     ·rw[if_pos c22] at hvv4
      refine AR 8 [] (by kernel_rfl) ?_
      refine ko [2,3,4,80] 2 (by simp;rfl) ?_
      refine AR 13 [] (by kernel_rfl) ?_
      refine ko [2,3,4,94] 1 (by simp;rfl) ?_
      refine tpN ?_
      cases hvv4
      exact⟨_,rfl,wk (by simp[wkI])⟩
     ·rw[if_neg (by rw[c22];decide)] at hvv4
      refine ko [2,3,4,70,72,76] 6 (by simp;rfl) ?_
      replace hvv4:=bnd hvv4;obtain⟨y10,hy10,hvv4⟩:=hvv4
      refine AM [2,3,4,70,77] [] (A7 hy10) rfl rfl rfl Tryz.call69 (by simp) (by simp;rfl) ?_
      refine ko [2,3,4,80] 3 (by simp;rfl) ?_
      refine AG 80 (!y10) (by simp) (fun c23=>?_) (fun c23=>?_)
      ·rw[if_pos c23] at hvv4
       refine AR 13 [] (by kernel_rfl) ?_
       refine ko [2,3,4,94] 1 (by simp;rfl) ?_
       refine tpN ?_
       cases hvv4
       exact⟨_,rfl,wk (by simp[wkI])⟩
      ·rw[if_neg (by rw[c23];decide)] at hvv4
       refine ko [2,3,4,80,84] 4 (by simp;rfl) ?_
       refine AG 84 (a1.Kind==4) (by simp) (fun c24=>?_) (fun c24=>?_)
       ·rw[if_pos c24] at hvv4
        refine ko [2,3,4,80,84,86,90] 6 (by simp;rfl) ?_
        replace hvv4:=bnd hvv4;obtain⟨y11,hy11,hvv4⟩:=hvv4
        refine AM [2,3,4,80,84,91] [] (A7 hy11) rfl rfl rfl Tryz.call69 (by simp) (by simp;rfl) ?_
        refine ko [2,3,4,94] 3 (by simp;rfl) ?_
        refine tpN ?_
        cases hvv4
        exact⟨_,rfl,wk (by simp[wkI])⟩
       ·rw[if_neg (by rw[c24];decide)] at hvv4
        refine AR 8 [] (by kernel_rfl) ?_
        refine ko [2,3,4,94] 2 (by simp;rfl) ?_
        refine tpN ?_
        cases hvv4
        exact⟨_,rfl,wk (by simp[wkI])⟩
  ·refine kr [2,3,4,6,18] (by simp;rfl) ?_
   refine trb ?_
   refine kr [2,3,4,6,18,19] (by simp;rfl) ?_
   refine trc (b:=(a1.Kind==1)) (by simp) (fun c25=>?_) (fun c25=>?_)
   ·rw[if_pos c25] at h0
    refine kr [2,3,4,6] (by simp;rfl) ?_
    refine trq ?_
    replace h0:=bnd h0;obtain⟨v12,hvv12,h0⟩:=h0
    refine sjv (fun v12_:Bool=>({ nt:=147,env:=[(2,.ptr 2 0),(3,.ptr 3 0),(4,.ptr 4 0),(32,.d (.bool v12_))],box:=[(2,[.d (.bool y2.Fence),.vec 600064,.vec 600065,.vec 600066]),(3,[.d (.int .i64 a1.Kind),.d (.int .i64 a1.Replica),.d (.int .i64 a1.Snapshot),.d (.int .i64 a1.Bits)]),(4,[.d (.bool false),.nilS,.nilS,.nilS])],vec:=[(600064,⟨3,1,AB (AH .i64) y2.Sets⟩),(600065,⟨99,2,AB AE y2.Replicas⟩),(600066,⟨3,1,AB (AH .i64) y2.Snapshots⟩)]}:St)) (fun v12_=>v12=v12_) (fun v12_ e=>?_) ?_
    ·subst e
     refine trc (b:=v12) (by simp) (fun c28=>?_) (fun c28=>?_)
     ·rw[if_pos c28] at h0
      refine kr [4,5] (by simp;rfl) ?_
      cases h0
      exact trr ⟨[],by simp,rfl,by simp⟩
     ·rw[if_neg (by rw[c28];decide)] at h0
      refine trk ?_
      refine trq ?_
      refine kr [2,3,4,37] (by simp;rfl) ?_
      refine trc (b:=(decide (120 < ((y2.Sets).length:Int)))) (by simp) (fun c29=>?_) (fun c29=>?_)
      ·rw[if_pos c29] at h0
       refine kr [4,5] (by simp;rfl) ?_
       cases h0
       exact trr ⟨[],by simp,rfl,by simp⟩
      ·rw[if_neg (by rw[c29];decide)] at h0
       refine trk ?_
       replace h0:=bnd h0;obtain⟨_,p13,h0⟩:=h0
       replace p13:=AZ p13
       have p13':=p13;try simp at p13'
       refine kr [2,4] (by simp[p13,p13'];rfl) ?_
       refine kr [4,5] (by simp;rfl) ?_
       cases h0
       exact trr ⟨[44,600065,600066],by simp,rfl,by simp⟩
    ·refine kc1 ?_
     refine ko [2,3,4,27] 4 (by simp;rfl) ?_
     refine AG 27 (!((a1.Kind==a1.Kind)&&((a1.Replica==0)&&((a1.Snapshot==0)&&(a1.Bits==a1.Bits))))) (by simp) (fun c30=>?_) (fun c30=>?_)
     ·rw[if_pos c30] at hvv12
      refine AR 4 [] (by kernel_rfl) ?_
      refine ko [2,3,4,32] 1 (by simp;rfl) ?_
      refine tpN ?_
      cases hvv12
      exact⟨_,rfl,wk (by simp[wkI])⟩
     ·rw[if_neg (by rw[c30];decide)] at hvv12
      refine ko [2,3,4,27,29] 2 (by simp;rfl) ?_
      replace hvv12:=bnd hvv12;obtain⟨y13,hy13,hvv12⟩:=hvv12
      refine AM [2,3,4,27,30] [] (A7 hy13) rfl rfl rfl Tryz.call69 (by simp) (by simp;rfl) ?_
      refine ko [2,3,4,32] 2 (by simp;rfl) ?_
      refine tpN ?_
      cases hvv12
      exact⟨_,rfl,wk (by simp[wkI])⟩
   ·rw[if_neg (by rw[c25];decide)] at h0
    refine sjv (fun v14:Bool=>({ nt:=147,env:=[(2,.ptr 2 0),(3,.ptr 3 0),(4,.ptr 4 0),(6,.ptr 6 0),(18,.d (.int .i64 a1.Kind)),(47,.d (.bool v14))],box:=[(2,[.d (.bool y2.Fence),.vec 600064,.vec 600065,.vec 600066]),(3,[.d (.int .i64 a1.Kind),.d (.int .i64 a1.Replica),.d (.int .i64 a1.Snapshot),.d (.int .i64 a1.Bits)]),(4,[.d (.bool false),.nilS,.nilS,.nilS]),(6,[.d (.int .i64 a1.Kind),.d (.int .i64 0),.d (.int .i64 0),.d (.int .i64 0)])],vec:=[(600064,⟨3,1,AB (AH .i64) y2.Sets⟩),(600065,⟨99,2,AB AE y2.Replicas⟩),(600066,⟨3,1,AB (AH .i64) y2.Snapshots⟩)]}:St)) (fun v14=>ref36_Apply_j1 a1 y2 v14=some r) (fun v14 h0=>?_) ?_
    ·unfold ref36_Apply_j1 at h0
     refine trc (b:=v14) (by simp) (fun c32=>?_) (fun c32=>?_)
     ·rw[if_pos c32] at h0
      refine lr (by simp;rfl) ?_
      exact⟨_,h0,wk (by simp[wkI])⟩
     ·rw[if_neg (by rw[c32];decide)] at h0
      refine kr [2,3,4,6,53] (by simp;rfl) ?_
      refine trc (b:=(a1.Kind==4)) (by simp) (fun c33=>?_) (fun c33=>?_)
      ·rw[if_pos c33] at h0
       refine kd1 [[],[0],[],[2],[],[1,4],[],[3,5,6]] [5,7] [(6,[5,7])] none [] 8 fol (by decide +kernel) (by simp) ?_
       refine AN 0 2 rfl (by simp (maxSteps:=1000000);rfl) ?_
       refine AN 2 2 rfl (by simp (maxSteps:=1000000);rfl) ?_
       refine AN 4 2 rfl (by simp (maxSteps:=1000000);rfl) ?_
       refine AN 6 2 rfl (by simp (maxSteps:=1000000);rfl) ?_
       refine BC rfl (tpN ?_)
       exact⟨_,h0,wk (by simp[wkI])⟩
      ·rw[if_neg (by rw[c33];decide)] at h0
       refine trk ?_
       exact⟨_,h0,wk (by simp[wkI])⟩
    ·refine kr [2,3,4,6,18,47] (by simp;rfl) ?_
     refine trc (b:=(a1.Kind==2)) (by simp) (fun c34=>?_) (fun c34=>?_)
     ·rw[if_pos c34] at h0
      refine trk ?_
      exact⟨_,h0,wk (by simp[wkI])⟩
     ·rw[if_neg (by rw[c34];decide)] at h0
      refine lr (by simp;rfl) ?_
      exact⟨_,h0,wk (by simp[wkI])⟩
theorem Lh {a0:zT} {r:AA×zT} (h0:mYCluster a0=some r):Ac Tryz.prog 14 [zTa a0] [.ptr (InO 0) 0] (.agg (AF r.1)) [zTa r.2]:=by
 unfold mYCluster at h0
 refine AW (nt:=38) (rs:=[.cell 2 57]) Tryz.func14 rfl Tryz.ntmps14 rfl (by simp) (by decide) rfl fun K=>?_
 refine kr [0,2] (by simp;rfl) ?_
 refine kc ?_
 refine ko [0,2,9] 1 (by simp;rfl) ?_
 replace h0:=bnd h0;obtain⟨y1,hy1,h0⟩:=h0
 refine AM [0,2,10] [1000000] (Fz hy1) rfl rfl rfl Tryz.call24 (by simp) (by simp;rfl) ?_
 refine ko [0,2,10,11,12] 2 (by simp;rfl) ?_
 refine FZ (Qg 12) ?_
 replace h0:=bnd h0;obtain⟨y2,hy2,h0⟩:=h0
 refine AM [0,2,10,13] [1000000] (Ku hy2) rfl rfl rfl Tryz.call25 (by simp) (by simp;rfl) ?_
 refine ko [0,2,10,13,14] 1 (by simp;rfl) ?_
 replace h0:=bnd h0;obtain⟨y3,hy3,h0⟩:=h0
 refine AM [0,2,10,13,15] [1000000] (B9 hy3) rfl rfl rfl Tryz.call8 (by simp) (by simp;rfl) ?_
 refine ko [0,2,10,13,16] 1 (by simp;rfl) ?_
 replace h0:=bnd h0;obtain⟨y4,hy4,h0⟩:=h0
 refine AM [0,2,17] [] (Lg hy4) rfl rfl rfl Tryz.call33 (by simp) (by simp;rfl) ?_
 refine ko [0,2,3] 6 (by simp;rfl) ?_
 refine tpN ?_
 refine trq ?_
 refine kc ?_
 refine ko [0,2,3,20] 1 (by simp;rfl) ?_
 replace h0:=bnd h0;obtain⟨y5,hy5,h0⟩:=h0
 refine AM [0,2,3,21] [1000000] (B9 hy5) rfl rfl rfl Tryz.call8 (by simp) (by simp;rfl) ?_
 refine ko [0,2,3,5] 1 (by simp;rfl) ?_
 refine tpN ?_
 replace h0:=bnd h0;obtain⟨e1,hI1,h0⟩:=h0
 refine tjv (fun v6:(List Int)×Int×Bool×(List Int)×(List AC)×(List Int)=>({ nt:=38,env:=[(2,.ptr 2 0),(3,.ptr 3 0)],box:=[(2,[.d (.bool false),.nilS,.nilS,.nilS]),(3,[.d (.bool v6.2.2.1),.d (.slice (AB (AH .i64) v6.2.2.2.1)),.d (.slice (AB AE v6.2.2.2.2.1)),.d (.slice (AB (AH .i64) v6.2.2.2.2.2))]),(1000000,[.d (.slice (AB (AH .i64) v6.1)),.d (.int .i64 v6.2.1)])],vec:=[]}:St)) (fun v6=>v6=e1) (fun v6 hI1e _ W1=>?_) ?_
 ·subst hI1e
  refine Al W1 ?_
  refine kr [2] (by simp;rfl) ?_
  cases h0
  exact trr ⟨[],by simp,rfl,by simp⟩
 ·refine trb (Ai (fun s7:Int×(List Int)×Int×Bool×(List Int)×(List AC)×(List Int)=>({ nt:=38,env:=[(0,.ptr 1000000 0),(2,.ptr 2 0),(3,.ptr 3 0),(5,.d (.int .i64 s7.1))],box:=[(2,[.d (.bool false),.nilS,.nilS,.nilS]),(3,[.d (.bool s7.2.2.2.1),.d (.slice (AB (AH .i64) s7.2.2.2.2.1)),.d (.slice (AB AE s7.2.2.2.2.2.1)),.d (.slice (AB (AH .i64) s7.2.2.2.2.2.2))]),(1000000,[.d (.slice (AB (AH .i64) s7.2.1)),.d (.int .i64 s7.2.2.1)])],vec:=[]}:St)) hI1 (wk (by simp[wkI])) fun G1 s7 o1 h1 hg1 he1=>?_)
  unfold mYCluster_l0 at h1
  refine trq ?_
  refine kr [0,2,3,5,23] (by simp;rfl) ?_
  refine trc (b:=(decide (0 < s7.1))) (by simp) (fun c5=>?_) (fun c5=>?_)
  ·rw[if_pos c5] at h1
   refine trk ?_
   refine trq ?_
   refine trb ?_
   refine kd [[],[],[],[1,2],[0,3],[4],[5],[5],[],[6,8],[7,8]] [3,8,9] [(6,[8,9]),(1000000,[3])] none [] 11 fol (by decide +kernel) (by simp) ?_
   refine AN 0 2 rfl (by simp (maxSteps:=1000000);rfl) ?_
   refine AN 2 1 rfl (by simp (maxSteps:=1000000);rfl) ?_
   replace h1:=bnd h1;obtain⟨y8,hy8,h1⟩:=h1
   refine BL 3 [1000000] (Nz hy8) rfl rfl rfl rfl rfl Tryz.call35 (by simp) ?_
   replace h1:=bnd h1;obtain⟨y9,hy9,h1⟩:=h1
   refine BL 4 [] (Jz hy9) rfl rfl rfl rfl rfl Tryz.call34 (by simp) ?_
   refine AN 5 2 rfl (by simp (maxSteps:=1000000);rfl) ?_
   refine AN 7 2 rfl (by simp (maxSteps:=1000000);rfl) ?_
   refine AN 9 2 rfl (by simp (maxSteps:=1000000);rfl) ?_
   refine BC rfl (tpN ?_)
   refine kr [0,2,3,5,6,35] (by simp;rfl) ?_
   refine trc (b:=(y9.2==0)) (by simp) (fun c6=>?_) (fun c6=>?_)
   ·rw[if_pos c6] at h1
    refine lr (by simp;rfl) ?_
    refine lr (by simp;rfl) ?_
    exact⟨_,hg1 _ (Option.some.inj h1),wk (by simp[wkI])⟩
   ·rw[if_neg (by rw[c6];decide)] at h1
    refine trk ?_
    refine lr (by simp;rfl) ?_
    exact⟨_,hg1 _ (Option.some.inj h1),wk (by simp[wkI])⟩
  ·rw[if_neg (by rw[c5];decide)] at h1
   refine Af ?_
   exact⟨_,he1 _ (Option.some.inj h1),wk (by simp[wkI])⟩
theorem IP {a0:AA} {a1:AP} {r:Bool} (h0:cluster_fits a0 a1=some r):Ac Tryz.prog 37 [] [.agg (AF a0),.agg (BY a1)] (.d (.bool r)) []:=by
 unfold cluster_fits at h0
 refine AW (nt:=67) (rs:=[.tmp 4]) Tryz.func37 rfl Tryz.ntmps37 rfl (by simp) (by decide) rfl fun K=>?_
 refine kr [2,3] (by simp;rfl) ?_
 refine kr [2,3,5] (by simp;rfl) ?_
 refine kc ?_
 refine ko [2,3,5,11,15] 6 (by simp;rfl) ?_
 replace h0:=bnd h0;obtain⟨y1,hy1,h0⟩:=h0
 refine AM [2,3,5,16] [] (Au hy1) rfl rfl rfl Tryz.call73 (by simp) (by simp;rfl) ?_
 refine ko [2,3,5,6] 1 (by simp;rfl) ?_
 refine tpN ?_
 refine trq ?_
 refine kr [2,3,5,6,18] (by simp;rfl) ?_
 refine trb ?_
 refine kr [2,3,5,6,18,19] (by simp;rfl) ?_
 refine trc (b:=(a1.Kind==1)) (by simp) (fun c1=>?_) (fun c1=>?_)
 ·rw[if_pos c1] at h0
  refine kr [3,5] (by simp;rfl) ?_
  replace h0:=bnd h0;obtain⟨v2,hvv2,h0⟩:=h0
  refine sjv (fun v2_:Bool=>({ nt:=67,env:=[(4,.d (.bool v2_))],box:=[],vec:=[]}:St)) (fun v2_=>v2=v2_) (fun v2_ e=>?_) ?_
  ·subst e
   cases h0
   exact trr ⟨[],by simp,rfl,by simp⟩
  ·refine kc1 ?_
   refine ko [3,27] 4 (by simp;rfl) ?_
   refine AG 27 ((a1.Kind==a1.Kind)&&((a1.Replica==0)&&((a1.Snapshot==0)&&(a1.Bits==a1.Bits)))) (by simp) (fun c4=>?_) (fun c4=>?_)
   ·rw[if_pos c4] at hvv2
    refine ko [27,29] 2 (by simp;rfl) ?_
    replace hvv2:=bnd hvv2;obtain⟨y3,hy3,hvv2⟩:=hvv2
    refine AM [27,30] [] (Au hy3) rfl rfl rfl Tryz.call73 (by simp) (by simp;rfl) ?_
    refine ko [4] 2 (by simp;rfl) ?_
    refine tpN ?_
    cases hvv2
    exact⟨_,rfl,wk (by simp[wkI])⟩
   ·rw[if_neg (by rw[c4];decide)] at hvv2
    refine AR 3 [] (by kernel_rfl) ?_
    refine ko [4] 2 (by simp;rfl) ?_
    refine tpN ?_
    cases hvv2
    exact⟨_,rfl,wk (by simp[wkI])⟩
 ·rw[if_neg (by rw[c1];decide)] at h0
  refine sjv (fun v4:Bool=>({ nt:=67,env:=[(2,.ptr 2 0),(3,.ptr 3 0),(5,.ptr 5 0),(6,.d (.bool y1)),(18,.d (.int .i64 a1.Kind)),(32,.d (.bool v4))],box:=[(2,[.d (.bool a0.Fence),.d (.slice (AB (AH .i64) a0.Sets)),.d (.slice (AB AE a0.Replicas)),.d (.slice (AB (AH .i64) a0.Snapshots))]),(3,[.d (.int .i64 a1.Kind),.d (.int .i64 a1.Replica),.d (.int .i64 a1.Snapshot),.d (.int .i64 a1.Bits)]),(5,[.d (.int .i64 a1.Kind),.d (.int .i64 0),.d (.int .i64 0),.d (.int .i64 0)])],vec:=[]}:St)) (fun v4=>cluster_fits_j0 a1 y1 a0 v4=some r) (fun v4 h0=>?_) ?_
  ·unfold cluster_fits_j0 at h0
   refine trc (b:=v4) (by simp) (fun c6=>?_) (fun c6=>?_)
   ·rw[if_pos c6] at h0
    refine kr [3,5,6] (by simp;rfl) ?_
    replace h0:=bnd h0;obtain⟨v5,hvv5,h0⟩:=h0
    refine sjv (fun v5_:Bool=>({ nt:=67,env:=[(4,.d (.bool v5_))],box:=[],vec:=[]}:St)) (fun v5_=>v5=v5_) (fun v5_ e=>?_) ?_
    ·subst e
     cases h0
     exact trr ⟨[],by simp,rfl,by simp⟩
    ·refine kc1 ?_
     refine ko [6,41] 4 (by simp;rfl) ?_
     refine AG 41 ((a1.Kind==a1.Kind)&&((a1.Replica==a1.Replica)&&((a1.Snapshot==0)&&(a1.Bits==0)))) (by simp) (fun c9=>?_) (fun c9=>?_)
     ·rw[c9] at hvv5
      refine ko [4] 3 (by simp;rfl) ?_
      refine tpN ?_
      cases hvv5
      exact⟨_,rfl,wk (by simp[wkI])⟩
     ·rw[c9] at hvv5
      refine ko [4] 3 (by simp;rfl) ?_
      refine tpN ?_
      cases hvv5
      exact⟨_,rfl,wk (by simp[wkI])⟩
   ·rw[if_neg (by rw[c6];decide)] at h0
    refine kr [2,3,5,6,44] (by simp;rfl) ?_
    refine trc (b:=(a1.Kind==4)) (by simp) (fun c10=>?_) (fun c10=>?_)
    ·rw[if_pos c10] at h0
     refine kd [[],[0],[],[2],[],[1,4],[],[3,5,6]] [5,7] [(5,[5,7])] none [] 8 fol (by decide +kernel) (by simp) ?_
     refine AN 0 2 rfl (by simp (maxSteps:=1000000);rfl) ?_
     refine AN 2 2 rfl (by simp (maxSteps:=1000000);rfl) ?_
     refine AN 4 2 rfl (by simp (maxSteps:=1000000);rfl) ?_
     refine AN 6 2 rfl (by simp (maxSteps:=1000000);rfl) ?_
     refine BC rfl (tpN ?_)
     replace h0:=bnd h0;obtain⟨v6,hvv6,h0⟩:=h0
     refine sjv (fun v6_:Bool=>({ nt:=67,env:=[(4,.d (.bool v6_))],box:=[],vec:=[]}:St)) (fun v6_=>v6=v6_) (fun v6_ e=>?_) ?_
     ·subst e
      cases h0
      exact trr ⟨[],by simp,rfl,by simp⟩
     ·refine kc1 ?_
      refine ko [2,3,6,55] 4 (by simp;rfl) ?_
      refine AG 55 ((a1.Kind==a1.Kind)&&((a1.Replica==a1.Replica)&&((a1.Snapshot==a1.Snapshot)&&(a1.Bits==0)))) (by simp) (fun c15=>?_) (fun c15=>?_)
      ·rw[if_pos c15] at hvv6
       refine ko [2,3,58] 3 (by simp;rfl) ?_
       refine AG 58 y1 (by simp) (fun c16=>?_) (fun c16=>?_)
       ·rw[if_pos c16] at hvv6
        refine ko [58,60,64] 6 (by simp;rfl) ?_
        replace hvv6:=bnd hvv6;obtain⟨y7,hy7,hvv6⟩:=hvv6
        refine AM [58,65] [] (Au hy7) rfl rfl rfl Tryz.call73 (by simp) (by simp;rfl) ?_
        refine ko [4] 2 (by simp;rfl) ?_
        refine tpN ?_
        cases hvv6
        exact⟨_,rfl,wk (by simp[wkI])⟩
       ·rw[if_neg (by rw[c16];decide)] at hvv6
        refine AR 7 [] (by kernel_rfl) ?_
        refine ko [4] 2 (by simp;rfl) ?_
        refine tpN ?_
        cases hvv6
        exact⟨_,rfl,wk (by simp[wkI])⟩
      ·rw[if_neg (by rw[c15];decide)] at hvv6
       refine ko [2,3,58] 3 (by simp;rfl) ?_
       refine AR 7 [] (by kernel_rfl) ?_
       refine ko [4] 2 (by simp;rfl) ?_
       refine tpN ?_
       cases hvv6
       exact⟨_,rfl,wk (by simp[wkI])⟩
    ·rw[if_neg (by rw[c10];decide)] at h0
     refine trk ?_
     refine kr [4] (by simp;rfl) ?_
     cases h0
     exact trr ⟨[],by simp,rfl,by simp⟩
  ·refine kr [2,3,5,6,18,32] (by simp;rfl) ?_
   refine trc (b:=(a1.Kind==2)) (by simp) (fun c17=>?_) (fun c17=>?_)
   ·rw[if_pos c17] at h0
    refine trk ?_
    exact⟨_,h0,wk (by simp[wkI])⟩
   ·rw[if_neg (by rw[c17];decide)] at h0
    refine lr (by simp;rfl) ?_
    exact⟨_,h0,wk (by simp[wkI])⟩
theorem J0 {a0:List Int} {r:List Int} (h0:sYClone_int a0=some r):Ac Tryz.prog 78 [] [.d (.slice (AB (AH .i64) a0))] (.d (.slice (AB (AH .i64) r))) []:=by
 unfold sYClone_int at h0
 replace h0:=bnd h0;obtain⟨_,p1,h0⟩:=h0;replace p1:=AZ p1;cases h0
 refine AW (nt:=8) (rs:=[.tmp 2]) Tryz.func78 rfl Tryz.ntmps78 rfl (by simp) (by decide) rfl fun K=>?_
 refine kr [0,2] (by simp;rfl) ?_
 cases a0 with
 |nil=>
  refine trq ?_
  refine kc ?_
  refine ko [0,3] 1 (by simp;rfl) ?_
  refine NG (by simp) rfl rfl (by simp) Tryz.underlying22 (by simp) (by simp) fun b=>?_
  refine tpN ?_
  refine trc (b:=b) (by simp) (fun cb=>?_) (fun cb=>?_)
  ·refine kr [2] (by simp;rfl) ?_
   exact trr ⟨[],by simp,rfl,by simp⟩
  ·refine trk ?_
   refine kr [2] (by simp;rfl) ?_
   exact trr ⟨[7],by simp,rfl,by simp⟩
 |cons x l=>
  refine trq ?_
  refine kr [0,4] (by simp;rfl) ?_
  refine trc (b:=false) (by simp) (fun h=>by cases h) (fun _=>?_)
  refine trk ?_
  have p2:=p1;simp at p2
  refine kr [2] (by simp[p1,p2];rfl) ?_
  exact trr ⟨[7],by simp,rfl,by simp⟩
theorem Fs {a0:List Int} {r:List Int} (h0:sYClone_int_own0 a0=some r):DI Tryz.prog 78 [] [] [.d (.slice (AB (AH .i64) a0))] (.vec (InV 0)) [] [⟨3,1,AB (AH .i64) r⟩]:=by
 unfold sYClone_int_own0 at h0
 replace h0:=bnd h0;obtain⟨_,p1,h0⟩:=h0;replace p1:=AZ p1;cases h0
 refine Iv (nt:=8) (rs:=[.tmp 2]) Tryz.func78 rfl Tryz.ntmps78 rfl (by simp) (by decide) rfl fun K=>?_
 refine kr [0,2] (by simp;rfl) ?_
 cases a0 with
 |nil=>simp at p1
 |cons x l=>
  refine trq ?_
  refine kr [0,4] (by simp;rfl) ?_
  refine trc (b:=false) (by simp) (fun h=>by cases h) (fun _=>?_)
  refine trk ?_
  have p2:=p1;simp at p2
  refine kr [2] (by simp[p1,p2];rfl) ?_
  exact trr ⟨[],[7],by simp,by simp,by simp,by simp,by simp⟩
theorem DU {a0:List AC} {r:List AC} (h0:sYClone_api_Replica_own0 a0=some r):DI Tryz.prog 79 [] [] [.d (.slice (AB AE a0))] (.vec (InV 0)) [] [⟨99,2,AB AE r⟩]:=by
 unfold sYClone_api_Replica_own0 at h0
 replace h0:=bnd h0;obtain⟨_,p1,h0⟩:=h0;replace p1:=AZ p1;cases h0
 refine Iv (nt:=8) (rs:=[.tmp 2]) Tryz.func79 rfl Tryz.ntmps79 rfl (by simp) (by decide) rfl fun K=>?_
 refine kr [0,2] (by simp;rfl) ?_
 cases a0 with
 |nil=>simp at p1
 |cons x l=>
  refine trq ?_
  refine kr [0,4] (by simp;rfl) ?_
  refine trc (b:=false) (by simp) (fun h=>by cases h) (fun _=>?_)
  refine trk ?_
  have p2:=p1;simp at p2
  refine kr [2] (by simp[p1,p2];rfl) ?_
  exact trr ⟨[],[7],by simp,by simp,by simp,by simp,by simp⟩
theorem El {a0:AA} {r:AA} (h0:cluster_Copy_own1_2 a0=some r):DI Tryz.prog 38 [] [] [.agg (AF a0)] (.agg [.d (.bool r.Fence),.vec (InV 0),.vec (InV 1),.d (.slice (AB (AH .i64) r.Snapshots))]) [] [⟨3,1,AB (AH .i64) r.Sets⟩,⟨99,2,AB AE r.Replicas⟩]:=by
 unfold cluster_Copy_own1_2 at h0
 refine LB (nt:=16) (rs:=[.cell 2 57]) Tryz.func38 rfl Tryz.ntmps38 rfl (by simp) (by decide) rfl fun K hK=>?_
 refine kr [1,2] (by simp;rfl) ?_
 replace h0:=bnd h0;obtain⟨y1,hy1,h0⟩:=h0
 replace h0:=bnd h0;obtain⟨y2,hy2,h0⟩:=h0
 replace h0:=bnd h0;obtain⟨y3,hy3,h0⟩:=h0
 refine ZP (S0:=({ nt:=16,env:=[(1,.ptr 1 0),(2,.ptr 2 0)],box:=[(1,[.d (.bool a0.Fence),.vec 600020,.vec 600032,.d (.slice (AB (AH .i64) y3))]),(2,[.d (.bool false),.nilS,.nilS,.nilS])],vec:=[(600020,⟨3,1,AB (AH .i64) y1⟩),(600032,⟨99,2,AB AE y2⟩)]}:St)) [0,3,6] 12 (by simpa using hK) fol (by decide +kernel) rfl rfl rfl (by simp[Bz,Ef,Bw,Bv];rfl) (fun K' S F C=>?_) ?_
 ·repeat' (first
   |exact trivial
   |(with_reducible apply LZ C);(decide +kernel);exact⟨rfl,wkI.2 (by simp)⟩
   |(with_reducible apply B1 C 9);(exact rfl);(decide +kernel);(decide +kernel);(simp [Bw,Bv]);(simp;rfl)
   |(with_reducible apply B1 C 11);(exact rfl);(decide +kernel);(decide +kernel);(simp [Bw,Bv]);(simp;rfl)
   |(with_reducible apply B1 C 13);(exact rfl);(decide +kernel);(decide +kernel);(simp [Bw,Bv]);(simp;rfl)
   |(with_reducible apply Eh);(exact rfl);(refine sl (by simp;rfl) ?_);(show FP _ _ _ _ _ _ _ _)
   |(with_reducible apply Eh);(exact rfl);(refine B7 [1,2,3,4,5,6,7,9,10] [] [] [600020] (Fs hy1) rfl rfl rfl Tryz.call78 (by first |(simp;done) |fail) (by simp;rfl) (tpN ?_));(show FP _ _ _ _ _ _ _ _)
   |(with_reducible apply Eh);(exact rfl);(refine B7 [1,2,3,4,5,6,7,8,9,10,12] [] [] [600032] (DU hy2) rfl rfl rfl Tryz.call79 (by first |(simp;done) |fail) (by simp;rfl) (tpN ?_));(show FP _ _ _ _ _ _ _ _)
   |(with_reducible apply Eh);(exact rfl);(refine AM [1,2,3,4,5,6,7,8,9,10,11,12] [] (J0 hy3) rfl rfl rfl Tryz.call78 (by first |(simp;done) |fail) (by simp;rfl) (tpN ?_));(show FP _ _ _ _ _ _ _ _)
   |(with_reducible apply BQ C [1,4,7]);(decide +kernel);(decide)
   |(with_reducible apply BQ C [2,4,7]);(decide +kernel);(decide)
   |(with_reducible apply BQ C [4,7]);(decide +kernel);(decide)
   |(with_reducible apply BQ C [5,7]);(decide +kernel);(decide)
   |(with_reducible apply BQ C [7]);(decide +kernel);(decide)
   |(with_reducible apply BQ C [8]);(decide +kernel);(decide)
   |(with_reducible apply BQ C [10]);(decide +kernel);(decide)
   |(with_reducible apply BQ C [12]);(decide +kernel);(decide)
   |(with_reducible apply BQ C [14]);(decide +kernel);(decide)
   |(with_reducible apply BQ C [5]);(decide +kernel);(decide)
   |(with_reducible apply BQ C [4]);(decide +kernel);(decide)
   |(with_reducible apply BQ C [2,7]);(decide +kernel);(decide)
   |(with_reducible apply BQ C [2]);(decide +kernel);(decide)
   |(with_reducible apply BQ C [2,4]);(decide +kernel);(decide)
   |(with_reducible apply BQ C [1,7]);(decide +kernel);(decide)
   |(with_reducible apply BQ C [1]);(decide +kernel);(decide)
   |(with_reducible apply BQ C [1,4]);(decide +kernel);(decide)
   )
 ·
  refine kr [2] (by simp;rfl) ?_
  cases h0
  exact trr ⟨[],[600020,600032],by simp,by simp,by simp,by simp,by simp⟩
theorem Cz {a0:AA} {a1:AP} {r:AA×Int} (h0:cluster_Apply a0 a1=some r):Ac Tryz.prog 15 [] [.agg (AF a0),.agg (BY a1)] (.tup [.agg (AF r.1),.d (.int .i64 r.2)]) []:=by
 unfold cluster_Apply at h0
 refine LK (nt:=100) (rs:=[.cell 4 57,.tmp 5]) Tryz.func15 rfl Tryz.ntmps15 rfl (by simp) (by decide) rfl fun K hK=>?_
 refine kr [2,3,4] (by simp;rfl) ?_
 refine trq ?_
 refine trb ?_
 replace h0:=bnd h0;obtain⟨v1,hvv1,h0⟩:=h0
 refine sjv (fun v1_:Bool=>({ nt:=100,env:=[(2,.ptr 2 0),(3,.ptr 3 0),(4,.ptr 4 0),(8,.d (.bool v1_))],box:=[(2,[.d (.bool a0.Fence),.d (.slice (AB (AH .i64) a0.Sets)),.d (.slice (AB AE a0.Replicas)),.d (.slice (AB (AH .i64) a0.Snapshots))]),(3,[.d (.int .i64 a1.Kind),.d (.int .i64 a1.Replica),.d (.int .i64 a1.Snapshot),.d (.int .i64 a1.Bits)]),(4,[.d (.bool false),.nilS,.nilS,.nilS])],vec:=[]}:St)) (fun v1_=>v1=v1_) (fun v1_ e=>?_) ?_
 ·subst e
  refine trc (b:=v1) (by simp) (fun c3=>?_) (fun c3=>?_)
  ·rw[if_pos c3] at h0
   refine kr [4,5] (by simp;rfl) ?_
   cases h0
   exact trr ⟨[],by simp,rfl,by simp⟩
  ·rw[if_neg (by rw[c3];decide)] at h0
   replace h0:=bnd h0;obtain⟨v2,hvv2,h0⟩:=h0
   refine sjv (fun v2_:Bool=>({ nt:=100,env:=[(2,.ptr 2 0),(3,.ptr 3 0),(4,.ptr 4 0),(19,.d (.bool v2_))],box:=[(2,[.d (.bool a0.Fence),.d (.slice (AB (AH .i64) a0.Sets)),.d (.slice (AB AE a0.Replicas)),.d (.slice (AB (AH .i64) a0.Snapshots))]),(3,[.d (.int .i64 a1.Kind),.d (.int .i64 a1.Replica),.d (.int .i64 a1.Snapshot),.d (.int .i64 a1.Bits)]),(4,[.d (.bool false),.nilS,.nilS,.nilS])],vec:=[]}:St)) (fun v2_=>v2=v2_) (fun v2_ e=>?_) ?_
   ·subst e
    refine trc (b:=v2) (by simp) (fun c12=>?_) (fun c12=>?_)
    ·rw[if_pos c12] at h0
     refine kr [4,5] (by simp;rfl) ?_
     cases h0
     exact trr ⟨[],by simp,rfl,by simp⟩
    ·rw[if_neg (by rw[c12];decide)] at h0
     refine trk ?_
     refine kc ?_
     refine ko [2,3,4,41] 1 (by simp;rfl) ?_
     replace h0:=bnd h0;obtain⟨y3,hy3,h0⟩:=h0
     refine B7 [2,3,4,42] [] [] [600168,600169] (El hy3) rfl rfl rfl Tryz.call38 (by simp) (by simp;rfl) ?_
     refine ko [2,3,4,6] 2 (by simp;rfl) ?_
     refine tpN ?_
     replace h0:=bnd h0;obtain⟨_,p1,h0⟩:=h0
     replace p1:=AZ p1
     have p1':=p1;try simp at p1'
     have p1o:a1.Replica < (((y3.Replicas)).length:Int):=by omega
     refine kr [2,3,4,6,7] (by simp[p1,p1o,p1'];rfl) ?_
     refine trq ?_
     refine kr [2,3,4,6,7,49] (by simp;rfl) ?_
     refine trb ?_
     refine kr [2,3,4,6,7,49,50] (by simp;rfl) ?_
     refine trc (b:=(a1.Kind==1)) (by simp) (fun c13=>?_) (fun c13=>?_)
     ·rw[if_pos c13] at h0
      replace h0:=bnd h0;obtain⟨_,p3,h0⟩:=h0
      replace p3:=AZ p3
      have p3':=p3;try simp at p3'
      refine lr (by simp[p3,p3'];rfl) ?_
      refine kr [4,5] (by simp;rfl) ?_
      cases h0
      exact trr ⟨[57,600169],by simp,rfl,by simp⟩
     ·rw[if_neg (by rw[c13];decide)] at h0
      refine kr [2,3,4,6,7,49,59] (by simp;rfl) ?_
      refine trc (b:=(a1.Kind==2)) (by simp) (fun c14=>?_) (fun c14=>?_)
      ·rw[if_pos c14] at h0
       replace h0:=bnd h0;obtain⟨x4,p4,h0⟩:=h0
       replace p4:=AT p4
       have p4':=p4;try simp at p4'
       refine lr (by simp[-getElem?_pos,List.getElem?_cons_zero,List.getElem?_cons_succ,p4,(List.getElem?_eq_some_iff.1 p4.2).1,p4'];rfl) ?_
       refine kr [4,5] (by simp;rfl) ?_
       cases h0
       exact trr ⟨[600168,600169],by simp,rfl,by simp⟩
      ·rw[if_neg (by rw[c14];decide)] at h0
       refine kr [2,3,4,6,7,49,71] (by simp;rfl) ?_
       refine trc (b:=(a1.Kind==3)) (by simp) (fun c15=>?_) (fun c15=>?_)
       ·rw[if_pos c15] at h0
        cases h0
       ·rw[if_neg (by rw[c15];decide)] at h0
        refine kr [2,3,4,6,7,82] (by simp;rfl) ?_
        refine trc (b:=(a1.Kind==4)) (by simp) (fun c16=>?_) (fun c16=>?_)
        ·rw[if_pos c16] at h0
         replace h0:=bnd h0;obtain⟨x5,p5,h0⟩:=h0
         replace p5:=AT p5
         have p5':=p5;try simp at p5'
         replace h0:=bnd h0;obtain⟨x6,p6,h0⟩:=h0
         replace p6:=AT p6
         have p6':=p6;try simp at p6'
         refine Nr (S0:=({ nt:=100,env:=[(4,.ptr 4 0),(6,.ptr 6 0)],box:=[(4,[.d (.bool false),.nilS,.nilS,.nilS]),(6,[.d (.bool y3.Fence),.vec 600168,.vec 600169,.d (.slice (AB (AH .i64) y3.Snapshots))])],vec:=[(600168,⟨3,1,AB (AH .i64) y3.Sets⟩),(600169,⟨99,2,AB AE (y3.Replicas.set (Int.toNat a1.Replica) (⟨x5,(!a0.Fence)⟩:AC))⟩)]}:St)) [0,1,2,4,8] 12 (by simpa using hK) fol (by decide +kernel) rfl rfl rfl (by simp[Bz,Ef,Bw,Bv, -getElem?_pos,List.getElem?_cons_zero,List.getElem?_cons_succ,p5,p6,(List.getElem?_eq_some_iff.1 p6.2).1,p5',p6'];rfl) (fun K' S F C=>?_) (fun _ Wk7=>?_)
         ·repeat' (first
           |exact trivial
           |(with_reducible apply LZ C);(decide +kernel);exact⟨rfl,wkI.2 (by simp)⟩
           |(with_reducible apply B1 C 6);(exact rfl);(decide +kernel);(decide +kernel);(simp [Bw,Bv]);(simp [-getElem?_pos,List.getElem?_cons_zero,List.getElem?_cons_succ,p5,p6,(List.getElem?_eq_some_iff.1 p6.2).1,p5',p6'];rfl)
           |(with_reducible apply B1 C 11);(exact rfl);(decide +kernel);(decide +kernel);(simp [Bw,Bv]);(simp [-getElem?_pos,List.getElem?_cons_zero,List.getElem?_cons_succ,p5,p6,(List.getElem?_eq_some_iff.1 p6.2).1,p5',p6'];rfl)
           |(with_reducible apply B1 C 12);(exact rfl);(decide +kernel);(decide +kernel);(simp [Bw,Bv]);(simp [-getElem?_pos,List.getElem?_cons_zero,List.getElem?_cons_succ,p5,p6,(List.getElem?_eq_some_iff.1 p6.2).1,p5',p6'];rfl)
           |(with_reducible apply B1 C 14);(exact rfl);(decide +kernel);(decide +kernel);(simp [Bw,Bv]);(simp [-getElem?_pos,List.getElem?_cons_zero,List.getElem?_cons_succ,p5,p6,(List.getElem?_eq_some_iff.1 p6.2).1,p5',p6'];rfl)
           |(with_reducible apply B1 C 15);(exact rfl);(decide +kernel);(decide +kernel);(simp [Bw,Bv]);(simp [-getElem?_pos,List.getElem?_cons_zero,List.getElem?_cons_succ,p5,p6,(List.getElem?_eq_some_iff.1 p6.2).1,p5',p6'];rfl)
           |(with_reducible apply hlC);(exact rfl);(simp [-getElem?_pos,List.getElem?_cons_zero,List.getElem?_cons_succ,p5,p6,(List.getElem?_eq_some_iff.1 p6.2).1,p5',p6'];rfl)
           |(with_reducible apply Ae C [3,5,9]);(decide +kernel);(decide)
           |(with_reducible apply Ae C [5,9]);(decide +kernel);(decide)
           |(with_reducible apply Ae C [7,9]);(decide +kernel);(decide)
           |(with_reducible apply Ae C [9,13]);(decide +kernel);(decide)
           |(with_reducible apply Ae C [10,13]);(decide +kernel);(decide)
           |(with_reducible apply Ae C [13]);(decide +kernel);(decide)
           |(with_reducible apply Ae C [16]);(decide +kernel);(decide)
           |(with_reducible apply Ae C [10]);(decide +kernel);(decide)
           |(with_reducible apply Ae C [9]);(decide +kernel);(decide)
           |(with_reducible apply Ae C [7,10]);(decide +kernel);(decide)
           |(with_reducible apply Ae C [7]);(decide +kernel);(decide)
           |(with_reducible apply Ae C [5,10]);(decide +kernel);(decide)
           |(with_reducible apply Ae C [5]);(decide +kernel);(decide)
           |(with_reducible apply Ae C [3,9]);(decide +kernel);(decide)
           |(with_reducible apply Ae C [3,10]);(decide +kernel);(decide)
           |(with_reducible apply Ae C [3]);(decide +kernel);(decide)
           |(with_reducible apply Ae C [3,5,10]);(decide +kernel);(decide)
           |(with_reducible apply Ae C [3,5]);(decide +kernel);(decide)
           )
         ·
          refine Al (wk Wk7) ?_
          refine kr [4,5] (by simp;rfl) ?_
          cases h0
          exact trr ⟨[600168,600169],by simp,rfl,by simp⟩
        ·rw[if_neg (by rw[c16];decide)] at h0
         refine trk ?_
         refine kr [4,5] (by simp;rfl) ?_
         cases h0
         exact trr ⟨[600168,600169],by simp,rfl,by simp⟩
   ·refine kc1 ?_
    refine ko [2,3,4,23] 4 (by simp;rfl) ?_
    refine AG 23 (a1.Kind==1) (by simp) (fun c17=>?_) (fun c17=>?_)
    ·rw[c17] at hvv2
     refine ko [2,3,4,29] 6 (by simp;rfl) ?_
     refine AG 29 (decide (120 < ((a0.Sets).length:Int))) (by simp) (fun c18=>?_) (fun c18=>?_)
     ·rw[c18] at hvv2
      refine AR 9 [] (by kernel_rfl) ?_
      refine ko [2,3,4,19] 2 (by simp;rfl) ?_
      refine tpN ?_
      cases hvv2
      exact⟨_,rfl,wk (by simp[wkI])⟩
     ·rw[c18] at hvv2
      refine ko [2,3,4,29,33] 4 (by simp;rfl) ?_
      refine AG 33 (a1.Kind==3) (by simp) (fun c19=>?_) (fun c19=>?_)
      ·rw[c19] at hvv2
       refine ko [2,3,4,19] 7 (by simp;rfl) ?_
       refine tpN ?_
       cases hvv2
       exact⟨_,rfl,wk (by simp[wkI])⟩
      ·rw[c19] at hvv2
       refine AR 4 [] (by kernel_rfl) ?_
       refine ko [2,3,4,19] 3 (by simp;rfl) ?_
       refine tpN ?_
       cases hvv2
       exact⟨_,rfl,wk (by simp[wkI])⟩
    ·rw[c17] at hvv2
     refine AR 4 [] (by kernel_rfl) ?_
     refine ko [2,3,4,29,33] 6 (by simp;rfl) ?_
     refine AG 33 (a1.Kind==3) (by simp) (fun c20=>?_) (fun c20=>?_)
     ·rw[c20] at hvv2
      refine ko [2,3,4,19] 7 (by simp;rfl) ?_
      refine tpN ?_
      cases hvv2
      exact⟨_,rfl,wk (by simp[wkI])⟩
     ·rw[c20] at hvv2
      refine AR 4 [] (by kernel_rfl) ?_
      refine ko [2,3,4,19] 3 (by simp;rfl) ?_
      refine tpN ?_
      cases hvv2
      exact⟨_,rfl,wk (by simp[wkI])⟩
 ·refine kc1 ?_
  refine ko [2,3,4,9] 1 (by simp;rfl) ?_
  replace hvv1:=bnd hvv1;obtain⟨y7,hy7,hvv1⟩:=hvv1
  refine AM [2,3,4,10] [] (Am hy7) rfl rfl rfl Tryz.call36 (by simp) (by simp;rfl) ?_
  refine ko [2,3,4,12] 2 (by simp;rfl) ?_
  refine AG 12 (y7 != 0) (by simp) (fun c21=>?_) (fun c21=>?_)
  ·rw[if_pos c21] at hvv1
   refine AR 4 [] (by kernel_rfl) ?_
   refine ko [2,3,4,8] 2 (by simp;rfl) ?_
   refine tpN ?_
   cases hvv1
   exact⟨_,rfl,wk (by simp[wkI])⟩
  ·rw[if_neg (by rw[c21];decide)] at hvv1
   refine ko [2,3,4,12,13,14] 2 (by simp;rfl) ?_
   replace hvv1:=bnd hvv1;obtain⟨y8,hy8,hvv1⟩:=hvv1
   refine AM [2,3,4,12,15] [] (IP hy8) rfl rfl rfl Tryz.call37 (by simp) (by simp;rfl) ?_
   refine ko [2,3,4,8] 3 (by simp;rfl) ?_
   refine tpN ?_
   cases hvv1
   exact⟨_,rfl,wk (by simp[wkI])⟩
theorem C0 {a0:Int} {r:Bool} (h0:cluster_asked a0=some r):Ac Tryz.prog 45 [] [.d (.int .i64 a0)] (.d (.bool r)) []:=by
 unfold cluster_asked at h0
 refine AW (nt:=9) (rs:=[.tmp 2]) Tryz.func45 rfl Tryz.ntmps45 rfl (by simp) (by decide) rfl fun K=>?_
 refine kr [0] (by simp;rfl) ?_
 replace h0:=bnd h0;obtain⟨v1,hvv1,h0⟩:=h0
 refine sjv (fun v1_:Bool=>({ nt:=9,env:=[(2,.d (.bool v1_))],box:=[],vec:=[]}:St)) (fun v1_=>v1=v1_) (fun v1_ e=>?_) ?_
 ·subst e
  cases h0
  exact trr ⟨[],by simp,rfl,by simp⟩
 ·refine kc1 ?_
  refine ko [0,5] 3 (by simp;rfl) ?_
  refine AG 5 (a0==1) (by simp) (fun c3=>?_) (fun c3=>?_)
  ·rw[c3] at hvv1
   refine ko [2] 4 (by simp;rfl) ?_
   refine tpN ?_
   cases hvv1
   exact⟨_,rfl,wk (by simp[wkI])⟩
  ·rw[c3] at hvv1
   refine ko [2] 4 (by simp;rfl) ?_
   refine tpN ?_
   cases hvv1
   exact⟨_,rfl,wk (by simp[wkI])⟩
theorem CB {a0:AA} {a1:Int} {a2:Int} {r:Bool} (h0:cluster_has a0 a1 a2=some r):Ac Tryz.prog 46 [] [.agg (AF a0),.d (.int .i64 a1),.d (.int .i64 a2)] (.d (.bool r)) []:=by
 unfold cluster_has at h0
 refine AW (nt:=15) (rs:=[.tmp 6]) Tryz.func46 rfl Tryz.ntmps46 rfl (by simp) (by decide) rfl fun K=>?_
 refine kr [1,2,3] (by simp;rfl) ?_
 replace h0:=bnd h0;obtain⟨x1,p1,h0⟩:=h0
 replace p1:=AT p1
 have p1':=p1;try simp at p1'
 refine kr [6] (by simp[p1,p1'];rfl) ?_
 cases h0
 exact trr ⟨[],by simp,rfl,by simp⟩
theorem Dn {a0:AA} {a1:AC} {a2:Int} {r:Bool} (h0:cluster_accepts a0 a1 a2=some r):Ac Tryz.prog 83 [] [.agg (AF a0),.agg (Cg a1),.d (.int .i64 a2)] (.d (.bool r)) []:=by
 unfold cluster_accepts at h0
 refine AW (nt:=16) (rs:=[.tmp 6]) Tryz.func83 rfl Tryz.ntmps83 rfl (by simp) (by decide) rfl fun K=>?_
 refine kr [2,3,4] (by simp;rfl) ?_
 replace h0:=bnd h0;obtain⟨v1,hvv1,h0⟩:=h0
 refine sjv (fun v1_:Bool=>({ nt:=16,env:=[(6,.d (.bool v1_))],box:=[],vec:=[]}:St)) (fun v1_=>v1=v1_) (fun v1_ e=>?_) ?_
 ·subst e
  cases h0
  exact trr ⟨[],by simp,rfl,by simp⟩
 ·refine kc1 ?_
  refine ko [2,3,4,9] 3 (by simp;rfl) ?_
  refine AG 9 a1.Serving (by simp) (fun c3=>?_) (fun c3=>?_)
  ·rw[if_pos c3] at hvv1
   refine ko [9,10,12,13] 4 (by simp;rfl) ?_
   replace hvv1:=bnd hvv1;obtain⟨y2,hy2,hvv1⟩:=hvv1
   refine AM [9,14] [] (CB hy2) rfl rfl rfl Tryz.call46 (by simp) (by simp;rfl) ?_
   refine ko [6] 2 (by simp;rfl) ?_
   refine tpN ?_
   cases hvv1
   exact⟨_,rfl,wk (by simp[wkI])⟩
  ·rw[if_neg (by rw[c3];decide)] at hvv1
   refine AR 5 [] (by kernel_rfl) ?_
   refine ko [6] 2 (by simp;rfl) ?_
   refine tpN ?_
   cases hvv1
   exact⟨_,rfl,wk (by simp[wkI])⟩
theorem GF {a0:AA} {a1:Int} {a2:Int} {r:Bool} (h0:cluster_Accepts a0 a1 a2=some r):Ac Tryz.prog 80 [] [.agg (AF a0),.d (.int .i64 a1),.d (.int .i64 a2)] (.d (.bool r)) []:=by
 unfold cluster_Accepts at h0
 refine AW (nt:=32) (rs:=[.tmp 6]) Tryz.func80 rfl Tryz.ntmps80 rfl (by simp) (by decide) rfl fun K=>?_
 refine kr [1,2,3] (by simp;rfl) ?_
 replace h0:=bnd h0;obtain⟨v1,hvv1,h0⟩:=h0
 refine sjv (fun v1_:Bool=>({ nt:=32,env:=[(6,.d (.bool v1_))],box:=[],vec:=[]}:St)) (fun v1_=>v1=v1_) (fun v1_ e=>?_) ?_
 ·subst e
  cases h0
  exact trr ⟨[],by simp,rfl,by simp⟩
 ·refine kd1 [[],[0],[1],[2],[3],[3,4],[3,5],[6],[7],[7],[7,9],[7,10],[7,11],[7,8,11,12],[7,11,13],[11,14],[11,15],[11,15],[11,15,17],[11,15],[11,15,18,19],[11,15,20],[11,15],[11,15,16,21,22],[11,15,23],[11,24]] [] [] none [] 26 fol (by decide +kernel) (by simp) ?_
  refine AN 0 1 rfl (by simp (maxSteps:=1000000);rfl) ?_
  replace hvv1:=bnd hvv1;obtain⟨y2,hy2,hvv1⟩:=hvv1
  refine BL 1 [] (Am hy2) rfl rfl rfl rfl rfl Tryz.call36 (by simp) ?_
  refine AN 2 2 rfl (by simp (maxSteps:=1000000);rfl) ?_
  refine EM 3 10 (y2==0) (by simp) (fun c25=>?_) (fun c25=>?_)
  ·rw[if_pos c25] at hvv1
   refine AN 4 1 rfl (by simp (maxSteps:=1000000);rfl) ?_
   replace hvv1:=bnd hvv1;obtain⟨y3,hy3,hvv1⟩:=hvv1
   refine BL 5 [] (C0 hy3) rfl rfl rfl rfl rfl Tryz.call45 (by simp) ?_
   refine AN 6 2 rfl (by simp (maxSteps:=1000000);rfl) ?_
   refine EM 7 14 y3 (by simp) (fun c26=>?_) (fun c26=>?_)
   ·rw[if_pos c26] at hvv1
    refine AN 8 2 rfl (by simp (maxSteps:=1000000);rfl) ?_
    refine AN 10 2 rfl (by simp (maxSteps:=1000000);rfl) ?_
    refine AN 12 1 rfl (by simp (maxSteps:=1000000);rfl) ?_
    replace hvv1:=bnd hvv1;obtain⟨y4,hy4,hvv1⟩:=hvv1
    refine BL 13 [] (Au hy4) rfl rfl rfl rfl rfl Tryz.call73 (by simp) ?_
    refine AN 14 2 rfl (by simp (maxSteps:=1000000);rfl) ?_
    refine EM 15 22 y4 (by simp) (fun c27=>?_) (fun c27=>?_)
    ·rw[if_pos c27] at hvv1
     replace hvv1:=bnd hvv1;obtain⟨x5,p9,hvv1⟩:=hvv1
     replace p9:=AT p9
     have p9':=p9;try simp at p9'
     refine AN 16 2 rfl (by simp (maxSteps:=1000000) [p9,p9'];rfl) ?_
     refine AN 18 2 rfl (by simp (maxSteps:=1000000) [p9,p9'];rfl) ?_
     refine AN 20 2 rfl (by simp (maxSteps:=1000000) [p9,p9'];rfl) ?_
     refine AN 22 1 rfl (by simp (maxSteps:=1000000) [p9,p9'];rfl) ?_
     replace hvv1:=bnd hvv1;obtain⟨y6,hy6,hvv1⟩:=hvv1
     refine BL 23 [] (Dn hy6) rfl rfl rfl rfl rfl Tryz.call83 (by simp) ?_
     refine AN 24 2 rfl (by simp (maxSteps:=1000000);rfl) ?_
     refine BC rfl (tpN ?_)
     cases hvv1
     exact⟨_,rfl,wk (by simp[wkI])⟩
    ·rw[if_neg (by rw[c27];decide)] at hvv1
     refine DR 16 32 [some 23,some 24,some 25,some 26,some 27,some 28,some 29,some 30] rfl rfl (by decide) (by kernel_rfl) (by simp only[F8,List.map_cons,List.map_nil,List.cons_append,List.nil_append];rfl) ?_
     refine AN 24 2 rfl (by simp (maxSteps:=1000000);rfl) ?_
     refine BC rfl (tpN ?_)
     cases hvv1
     exact⟨_,rfl,wk (by simp[wkI])⟩
   ·rw[if_neg (by rw[c26];decide)] at hvv1
    refine DR 8 32 [some 15,some 16,some 17,some 18,some 19,some 20] rfl rfl (by decide) (by kernel_rfl) (by simp only[F8,List.map_cons,List.map_nil,List.cons_append,List.nil_append];rfl) ?_
    refine AN 14 2 rfl (by simp (maxSteps:=1000000);rfl) ?_
    refine DR 16 32 [some 23,some 24,some 25,some 26,some 27,some 28,some 29,some 30] rfl rfl (by decide) (by kernel_rfl) (by simp only[F8,List.map_cons,List.map_nil,List.cons_append,List.nil_append];rfl) ?_
    refine AN 24 2 rfl (by simp (maxSteps:=1000000);rfl) ?_
    refine BC rfl (tpN ?_)
    cases hvv1
    exact⟨_,rfl,wk (by simp[wkI])⟩
  ·rw[if_neg (by rw[c25];decide)] at hvv1
   refine DR 4 32 [some 11,some 12] rfl rfl (by decide) (by kernel_rfl) (by simp only[F8,List.map_cons,List.map_nil,List.cons_append,List.nil_append];rfl) ?_
   refine AN 6 2 rfl (by simp (maxSteps:=1000000);rfl) ?_
   refine DR 8 32 [some 15,some 16,some 17,some 18,some 19,some 20] rfl rfl (by decide) (by kernel_rfl) (by simp only[F8,List.map_cons,List.map_nil,List.cons_append,List.nil_append];rfl) ?_
   refine AN 14 2 rfl (by simp (maxSteps:=1000000);rfl) ?_
   refine DR 16 32 [some 23,some 24,some 25,some 26,some 27,some 28,some 29,some 30] rfl rfl (by decide) (by kernel_rfl) (by simp only[F8,List.map_cons,List.map_nil,List.cons_append,List.nil_append];rfl) ?_
   refine AN 24 2 rfl (by simp (maxSteps:=1000000);rfl) ?_
   refine BC rfl (tpN ?_)
   cases hvv1
   exact⟨_,rfl,wk (by simp[wkI])⟩
theorem G4 {a0:AA} {a1:Int} {r:AQ} (h0:probe_ask a0 a1=some r):Ac Tryz.prog 39 [] [.agg (AF a0),.d (.int .i64 a1)] (.agg (DF r)) []:=by
 unfold probe_ask at h0
 refine AW (nt:=17) (rs:=[.cell 4 101]) Tryz.func39 rfl Tryz.ntmps39 rfl (by simp) (by decide) rfl fun K=>?_
 refine kr [1,2,4] (by simp;rfl) ?_
 refine kd [[],[],[1],[],[2,3],[4],[5],[],[],[7,8],[9],[0,6,10],[11]] [12] [(4,[12])] none [] 13 fol (by decide +kernel) (by simp) ?_
 replace h0:=bnd h0;obtain⟨x1,p3,h0⟩:=h0
 replace p3:=AT p3
 have p3':=p3;try simp at p3'
 refine AN 0 2 rfl (by simp (maxSteps:=1000000) [p3,p3'];rfl) ?_
 refine AN 2 2 rfl (by simp (maxSteps:=1000000) [p3,p3'];rfl) ?_
 refine AN 4 2 rfl (by simp (maxSteps:=1000000) [p3,p3'];rfl) ?_
 refine AN 6 2 rfl (by simp (maxSteps:=1000000) [p3,p3'];rfl) ?_
 refine AN 8 1 rfl (by simp (maxSteps:=1000000) [p3,p3'];rfl) ?_
 replace h0:=bnd h0;obtain⟨y2,hy2,h0⟩:=h0
 refine BL 9 [] (GF hy2) rfl rfl rfl rfl rfl Tryz.call80 (by simp) ?_
 refine AN 10 2 rfl (by simp (maxSteps:=1000000);rfl) ?_
 refine AN 12 1 rfl (by simp (maxSteps:=1000000);rfl) ?_
 refine BC rfl (tpN ?_)
 cases h0
 exact trr ⟨[],by simp,rfl,by simp⟩
theorem G5 {a0:AA} {r:(List AQ)×Int} (h0:probe_All a0=some r):Ac Tryz.prog 16 [] [.agg (AF a0)] (.tup [.d (.slice (AB Aa r.1)),.d (.int .i64 r.2)]) []:=by
 unfold probe_All at h0
 refine AW (nt:=26) (rs:=[.tmp 2,.tmp 3]) Tryz.func16 rfl Tryz.ntmps16 rfl (by simp) (by decide) rfl fun K=>?_
 refine kr [1] (by simp;rfl) ?_
 refine trq ?_
 refine kc ?_
 refine ko [1,7] 1 (by simp;rfl) ?_
 replace h0:=bnd h0;obtain⟨y1,hy1,h0⟩:=h0
 refine AM [1,8] [] (Am hy1) rfl rfl rfl Tryz.call36 (by simp) (by simp;rfl) ?_
 refine ko [1,4] 1 (by simp;rfl) ?_
 refine tpN ?_
 refine kr [1,4,10] (by simp;rfl) ?_
 refine trc (b:=(y1 != 0)) (by simp) (fun c1=>?_) (fun c1=>?_)
 ·rw[if_pos c1] at h0
  refine kr [2,3] (by simp;rfl) ?_
  cases h0
  exact trr ⟨[],by simp,rfl,by simp⟩
 ·rw[if_neg (by rw[c1];decide)] at h0
  refine trk ?_
  refine kr [1,5] (by simp;rfl) ?_
  refine trq ?_
  refine kr [1,5,14,15] (by simp;rfl) ?_
  refine Al (HM 5 23 101 3 (by simp) (by simp)) ?_
  replace h0:=bnd h0;obtain⟨e1,hI1,h0⟩:=h0
  refine tjv (fun v2:(List AQ)=>({ nt:=26,env:=[(5,.vec 23)],box:=[],vec:=[(23,⟨101,3,AB Aa v2⟩)]}:St)) (fun v2=>v2=e1) (fun v2 hI1e _ W1=>?_) ?_
  ·subst hI1e
   refine Al W1 ?_
   refine kr [2,3] (by simp;rfl) ?_
   cases h0
   exact trr ⟨[23],by simp,rfl,by simp⟩
  ·refine trb (Ai (fun s3:Int×(List AQ)=>({ nt:=26,env:=[(1,.ptr 1 0),(5,.vec 23),(14,.d (.int .i64 ((a0.Replicas).length:Int))),(15,.d (.int .i64 s3.1))],box:=[(1,[.d (.bool a0.Fence),.d (.slice (AB (AH .i64) a0.Sets)),.d (.slice (AB AE a0.Replicas)),.d (.slice (AB (AH .i64) a0.Snapshots))])],vec:=[(23,⟨101,3,AB Aa s3.2⟩)]}:St)) hI1 (wk (by simp[wkI])) fun G1 s3 o1 h1 hg1 he1=>?_)
   unfold probe_All_l0 at h1
   refine kr [1,5,14,15,16] (by simp;rfl) ?_
   refine trq ?_
   refine trc (b:=(decide (s3.1 < ((a0.Replicas).length:Int)))) (by simp) (fun c5=>?_) (fun c5=>?_)
   ·rw[if_pos c5] at h1
    refine trk ?_
    refine trq ?_
    refine trb ?_
    refine kr [1,5,6,14,15] (by simp;rfl) ?_
    refine kc1 ?_
    refine ko [1,14,15,18,19,20] 3 (by simp;rfl) ?_
    replace h1:=bnd h1;obtain⟨y4,hy4,h1⟩:=h1
    refine AM [1,14,15,18,21] [] (G4 hy4) rfl rfl rfl Tryz.call39 (by simp) (by simp;rfl) ?_
    replace h1:=bnd h1;obtain⟨_,p3,h1⟩:=h1
    replace p3:=AZ p3
    have p3':=p3;try simp at p3'
    refine ko [1,5,14,15] 3 (by simp[p3,p3'];rfl) ?_
    refine tpN ?_
    refine lr (by simp;rfl) ?_
    exact⟨_,hg1 _ (Option.some.inj h1),wk (by simp[wkI])⟩
   ·rw[if_neg (by rw[c5];decide)] at h1
    refine Af ?_
    exact⟨_,he1 _ (Option.some.inj h1),wk (by simp[wkI])⟩
theorem IQ {a0:AA} {a1:Int} {r:Bool} (h0:probe_exists a0 a1=some r):Ac Tryz.prog 41 [] [.agg (AF a0),.d (.int .i64 a1)] (.d (.bool r)) []:=by
 unfold probe_exists at h0
 refine AW (nt:=14) (rs:=[.tmp 4]) Tryz.func41 rfl Tryz.ntmps41 rfl (by simp) (by decide) rfl fun K=>?_
 refine kr [1,2] (by simp;rfl) ?_
 replace h0:=bnd h0;obtain⟨v1,hvv1,h0⟩:=h0
 refine sjv (fun v1_:Bool=>({ nt:=14,env:=[(4,.d (.bool v1_))],box:=[],vec:=[]}:St)) (fun v1_=>v1=v1_) (fun v1_ e=>?_) ?_
 ·subst e
  cases h0
  exact trr ⟨[],by simp,rfl,by simp⟩
 ·refine kc1 ?_
  refine ko [1,2,7] 3 (by simp;rfl) ?_
  refine AG 7 (decide (0≤a1)) (by simp) (fun c3=>?_) (fun c3=>?_)
  ·rw[c3] at hvv1
   refine ko [4] 7 (by simp;rfl) ?_
   refine tpN ?_
   cases hvv1
   exact⟨_,rfl,wk (by simp[wkI])⟩
  ·rw[c3] at hvv1
   refine AR 5 [] (by kernel_rfl) ?_
   refine ko [4] 2 (by simp;rfl) ?_
   refine tpN ?_
   cases hvv1
   exact⟨_,rfl,wk (by simp[wkI])⟩
theorem Ft {a0:AQ} {a1:AA} {r:Bool×AA} (h0:probe_Right_1_cb a0 a1=some r):Ac Tryz.prog 40 [AF a1] [.agg (DF a0),.ptr (InO 0) 0] (.d (.bool r.1)) [AF r.2]:=by
 unfold probe_Right_1_cb at h0
 refine AW (nt:=17) (rs:=[.tmp 3]) Tryz.func40 rfl Tryz.ntmps40 rfl (by simp) (by decide) rfl fun K=>?_
 refine kr [1,2] (by simp;rfl) ?_
 replace h0:=bnd h0;obtain⟨v1,hvv1,h0⟩:=h0
 refine sjv (fun v1_:Bool=>({ nt:=17,env:=[(3,.d (.bool v1_))],box:=[(1000000,[.d (.bool a1.Fence),.d (.slice (AB (AH .i64) a1.Sets)),.d (.slice (AB AE a1.Replicas)),.d (.slice (AB (AH .i64) a1.Snapshots))])],vec:=[]}:St)) (fun v1_=>v1=v1_) (fun v1_ e=>?_) ?_
 ·subst e
  cases h0
  exact trr ⟨[],by simp,rfl,by simp⟩
 ·refine kd1 [[],[],[1],[0,2],[3],[4],[5],[5],[5],[5,8],[5,7,9],[5,6,10],[5,11],[12]] [] [] none [] 14 fol (by decide +kernel) (by simp) ?_
  refine AN 0 2 rfl (by simp (maxSteps:=1000000);rfl) ?_
  refine AN 2 1 rfl (by simp (maxSteps:=1000000);rfl) ?_
  replace hvv1:=bnd hvv1;obtain⟨y2,hy2,hvv1⟩:=hvv1
  refine BL 3 [] (IQ hy2) rfl rfl rfl rfl rfl Tryz.call41 (by simp) ?_
  refine AN 4 2 rfl (by simp (maxSteps:=1000000);rfl) ?_
  refine EM 5 9 (!y2) (by simp) (fun c9=>?_) (fun c9=>?_)
  ·rw[if_pos c9] at hvv1
   refine DR 6 17 [some 10,some 11,some 12,some 13,some 14,some 15] rfl rfl (by decide) (by kernel_rfl) (by simp only[F8,List.map_cons,List.map_nil,List.cons_append,List.nil_append];rfl) ?_
   refine AN 12 2 rfl (by simp (maxSteps:=1000000);rfl) ?_
   refine BC rfl (tpN ?_)
   cases hvv1
   exact⟨_,rfl,wk (by simp[wkI])⟩
  ·rw[if_neg (by rw[c9];decide)] at hvv1
   refine AN 6 2 rfl (by simp (maxSteps:=1000000);rfl) ?_
   refine AN 8 2 rfl (by simp (maxSteps:=1000000);rfl) ?_
   replace hvv1:=bnd hvv1;obtain⟨y3,hy3,hvv1⟩:=hvv1
   refine BL 10 [] (G4 hy3) rfl rfl rfl rfl rfl Tryz.call39 (by simp) ?_
   refine AN 11 2 rfl (by simp (maxSteps:=1000000);rfl) ?_
   refine AN 13 1 rfl (by simp (maxSteps:=1000000);rfl) ?_
   refine BC rfl (tpN ?_)
   cases hvv1
   exact⟨_,rfl,wk (by simp[wkI])⟩
theorem BW {a0:List AQ} {b10:AA} {r:Int×AA} (h0:sYIndexFunc_api_Evidence_at_probe_Right_1_b a0 b10=some r):Ac Tryz.prog 81 [AF b10] [.d (.slice (AB Aa a0)),.fn 40 [.ptr (InO 0) 0]] (.d (.int .i64 r.1)) [AF r.2]:=by
 unfold sYIndexFunc_api_Evidence_at_probe_Right_1_b at h0
 refine AW (nt:=19) (rs:=[.tmp 4]) Tryz.func81 rfl Tryz.ntmps81 rfl (by simp) (by decide) rfl fun K=>?_
 refine kr [0,1] (by simp;rfl) ?_
 refine trq ?_
 refine kr [0,1,7,8] (by simp;rfl) ?_
 replace h0:=bnd h0;obtain⟨e1,hI1,h0⟩:=h0
 refine tjv (fun v1:Bool×(List Int)×(List AC)×(List Int)=>({ nt:=19,env:=[],box:=[(1000000,[.d (.bool v1.1),.d (.slice (AB (AH .i64) v1.2.1)),.d (.slice (AB AE v1.2.2.1)),.d (.slice (AB (AH .i64) v1.2.2.2))])],vec:=[]}:St)) (fun v1=>.inl v1=e1) (fun v1 hI1e _ W1=>?_) ?_
 ·subst hI1e
  dsimp only at h0
  refine Al W1 ?_
  refine kr [4] (by simp;rfl) ?_
  cases h0
  exact trr ⟨[],by simp,rfl,by simp⟩
 ·refine trb (Ai (fun s2:Int×Bool×(List Int)×(List AC)×(List Int)=>({ nt:=19,env:=[(0,.d (.slice (AB Aa a0))),(1,.fn 40 [.ptr 1000000 0]),(7,.d (.int .i64 ((a0).length:Int))),(8,.d (.int .i64 s2.1))],box:=[(1000000,[.d (.bool s2.2.1),.d (.slice (AB (AH .i64) s2.2.2.1)),.d (.slice (AB AE s2.2.2.2.1)),.d (.slice (AB (AH .i64) s2.2.2.2.2))])],vec:=[]}:St)) hI1 (wk (by simp[wkI])) fun G1 s2 o1 h1 hg1 he1=>?_)
  unfold sYIndexFunc_api_Evidence_at_probe_Right_1_b_l0 at h1
  refine kr [0,1,7,8,9] (by simp;rfl) ?_
  refine trq ?_
  refine trc (b:=(decide (s2.1 < ((a0).length:Int)))) (by simp) (fun c5=>?_) (fun c5=>?_)
  ·rw[if_pos c5] at h1
   refine trk ?_
   refine trq ?_
   refine trb ?_
   refine kr [0,1,5,7,8] (by simp;rfl) ?_
   refine kc ?_
   replace h1:=bnd h1;obtain⟨x3,p3,h1⟩:=h1
   replace p3:=AT p3
   have p3':=p3;try simp at p3'
   refine ko [0,1,5,7,8,11,15] 5 (by simp[p3,p3'];rfl) ?_
   replace h1:=bnd h1;obtain⟨y4,hy4,h1⟩:=h1
   refine B7 [0,1,5,7,8,16] [1000000] [] [] (Ft hy4) rfl rfl rfl Tryz.call40 (by simp) (by simp;rfl) ?_
   refine tpN ?_
   refine trc (b:=y4.1) (by simp) (fun c6=>?_) (fun c6=>?_)
   ·rw[if_pos c6] at h1
    refine kr [4] (by simp;rfl) ?_
    have k1:=he1 _ (Option.some.inj h1)
    subst k1
    dsimp only at h0
    cases h0
    exact trr ⟨[],by simp,rfl,by simp⟩
   ·rw[if_neg (by rw[c6];decide)] at h1
    refine trk ?_
    refine lr (by simp;rfl) ?_
    exact⟨_,hg1 _ (Option.some.inj h1),wk (by simp[wkI])⟩
  ·rw[if_neg (by rw[c5];decide)] at h1
   refine Af ?_
   exact⟨_,he1 _ (Option.some.inj h1),wk (by simp[wkI])⟩
theorem BN {a0:List AQ} {b10:AA} {r:Bool×AA} (h0:sYContainsFunc_api_Evidence_at_probe_Right_1_b a0 b10=some r):Ac Tryz.prog 42 [AF b10] [.d (.slice (AB Aa a0)),.fn 40 [.ptr (InO 0) 0]] (.d (.bool r.1)) [AF r.2]:=by
 unfold sYContainsFunc_api_Evidence_at_probe_Right_1_b at h0
 refine AW (nt:=9) (rs:=[.tmp 4]) Tryz.func42 rfl Tryz.ntmps42 rfl (by simp) (by decide) rfl fun K=>?_
 refine kr [0,1] (by simp;rfl) ?_
 refine kc ?_
 refine ko [5,6] 2 (by simp;rfl) ?_
 replace h0:=bnd h0;obtain⟨y1,hy1,h0⟩:=h0
 refine AM [7] [1000000] (BW hy1) rfl rfl rfl Tryz.call81 (by simp) (by simp;rfl) ?_
 refine ko [4] 2 (by simp;rfl) ?_
 refine tpN ?_
 cases h0
 exact trr ⟨[],by simp,rfl,by simp⟩
theorem J1 {a0:AA} {a1:List AQ} {r:Bool} (h0:probe_Right a0 a1=some r):Ac Tryz.prog 17 [] [.agg (AF a0),.d (.slice (AB Aa a1))] (.d (.bool r)) []:=by
 unfold probe_Right at h0
 refine AW (nt:=16) (rs:=[.tmp 4]) Tryz.func17 rfl Tryz.ntmps17 rfl (by simp) (by decide) rfl fun K=>?_
 refine kr [1,2] (by simp;rfl) ?_
 refine kr [1,2,5] (by simp;rfl) ?_
 replace h0:=bnd h0;obtain⟨v1,hvv1,h0⟩:=h0
 refine sjv (fun v1_:Bool=>({ nt:=16,env:=[(4,.d (.bool v1_))],box:=[],vec:=[]}:St)) (fun v1_=>v1=v1_) (fun v1_ e=>?_) ?_
 ·subst e
  cases h0
  exact trr ⟨[],by simp,rfl,by simp⟩
 ·refine kc1 ?_
  refine ko [1,5,7] 1 (by simp;rfl) ?_
  replace hvv1:=bnd hvv1;obtain⟨y2,hy2,hvv1⟩:=hvv1
  refine AM [1,5,8] [] (Am hy2) rfl rfl rfl Tryz.call36 (by simp) (by simp;rfl) ?_
  refine ko [1,5,10] 2 (by simp;rfl) ?_
  refine AG 10 (y2==0) (by simp) (fun c3=>?_) (fun c3=>?_)
  ·rw[if_pos c3] at hvv1
   refine ko [10,11,12] 2 (by simp;rfl) ?_
   replace hvv1:=bnd hvv1;obtain⟨y3,hy3,hvv1⟩:=hvv1
   refine AM [10,13] [2] (BN hy3) rfl rfl rfl Tryz.call42 (by simp) (by simp;rfl) ?_
   refine ko [4] 3 (by simp;rfl) ?_
   refine tpN ?_
   cases hvv1
   exact⟨_,rfl,wk (by simp[wkI])⟩
  ·rw[if_neg (by rw[c3];decide)] at hvv1
   refine AR 4 [] (by kernel_rfl) ?_
   refine ko [4] 2 (by simp;rfl) ?_
   refine tpN ?_
   cases hvv1
   exact⟨_,rfl,wk (by simp[wkI])⟩
theorem J2 {a0:AA} {a1:Int} {r:Int×Bool} (h0:probe_Since a0 a1=some r):Ac Tryz.prog 43 [] [.agg (AF a0),.d (.int .i64 a1)] (.tup [.d (.int .i64 r.1),.d (.bool r.2)]) []:=by
 unfold probe_Since at h0
 refine AW (nt:=42) (rs:=[.tmp 4,.tmp 5]) Tryz.func43 rfl Tryz.ntmps43 rfl (by simp) (by decide) rfl fun K=>?_
 refine kr [1,2] (by simp;rfl) ?_
 refine trq ?_
 replace h0:=bnd h0;obtain⟨v1,hvv1,h0⟩:=h0
 refine sjv (fun v1_:Bool=>({ nt:=42,env:=[(1,.d (.int .i64 a1)),(2,.ptr 2 0),(17,.d (.bool v1_))],box:=[(2,[.d (.bool a0.Fence),.d (.slice (AB (AH .i64) a0.Sets)),.d (.slice (AB AE a0.Replicas)),.d (.slice (AB (AH .i64) a0.Snapshots))])],vec:=[]}:St)) (fun v1_=>v1=v1_) (fun v1_ e=>?_) ?_
 ·subst e
  refine trc (b:=v1) (by simp) (fun c5=>?_) (fun c5=>?_)
  ·rw[if_pos c5] at h0
   refine kr [4,5] (by simp;rfl) ?_
   cases h0
   exact trr ⟨[],by simp,rfl,by simp⟩
  ·rw[if_neg (by rw[c5];decide)] at h0
   refine trk ?_
   refine kr [1,2,6] (by simp;rfl) ?_
   replace h0:=bnd h0;obtain⟨e1,hI1,h0⟩:=h0
   refine sjv (fun v2:Int=>({ nt:=42,env:=[(2,.ptr 2 0),(6,.d (.int .i64 v2))],box:=[(2,[.d (.bool a0.Fence),.d (.slice (AB (AH .i64) a0.Sets)),.d (.slice (AB AE a0.Replicas)),.d (.slice (AB (AH .i64) a0.Snapshots))])],vec:=[]}:St)) (fun v2=>v2=e1) (fun v2 hI1e=>?_) ?_
   ·subst hI1e
    refine trq ?_
    refine kr [6,40] (by simp;rfl) ?_
    refine trc (b:=(v2==((a0.Sets).length:Int))) (by simp) (fun c10=>?_) (fun c10=>?_)
    ·rw[if_pos c10] at h0
     refine kr [4,5] (by simp;rfl) ?_
     cases h0
     exact trr ⟨[],by simp,rfl,by simp⟩
    ·rw[if_neg (by rw[c10];decide)] at h0
     refine trk ?_
     refine kr [4,5] (by simp;rfl) ?_
     cases h0
     exact trr ⟨[],by simp,rfl,by simp⟩
   ·refine trb (Ai (fun s3:Int=>({ nt:=42,env:=[(1,.d (.int .i64 a1)),(2,.ptr 2 0),(6,.d (.int .i64 s3))],box:=[(2,[.d (.bool a0.Fence),.d (.slice (AB (AH .i64) a0.Sets)),.d (.slice (AB AE a0.Replicas)),.d (.slice (AB (AH .i64) a0.Snapshots))])],vec:=[]}:St)) hI1 (wk (by simp[wkI])) fun G1 s3 o1 h1 hg1 he1=>?_)
    unfold probe_Since_l0 at h1
    refine trq ?_
    replace h1:=bnd h1;obtain⟨v4,hvv4,h1⟩:=h1
    refine sjv (fun v4_:Bool=>({ nt:=42,env:=[(1,.d (.int .i64 a1)),(2,.ptr 2 0),(6,.d (.int .i64 s3)),(33,.d (.bool v4_))],box:=[(2,[.d (.bool a0.Fence),.d (.slice (AB (AH .i64) a0.Sets)),.d (.slice (AB AE a0.Replicas)),.d (.slice (AB (AH .i64) a0.Snapshots))])],vec:=[]}:St)) (fun v4_=>v4=v4_) (fun v4_ e=>?_) ?_
    ·subst e
     refine trc (b:=v4) (by simp) (fun c13=>?_) (fun c13=>?_)
     ·rw[if_pos c13] at h1
      refine trk ?_
      refine trb ?_
      refine lr (by simp;rfl) ?_
      exact⟨_,hg1 _ (Option.some.inj h1),wk (by simp[wkI])⟩
     ·rw[if_neg (by rw[c13];decide)] at h1
      refine Af ?_
      exact⟨_,he1 _ (Option.some.inj h1),wk (by simp[wkI])⟩
    ·refine kc1 ?_
     refine ko [1,2,6,23] 3 (by simp;rfl) ?_
     refine AG 23 (decide (0 < s3)) (by simp) (fun c14=>?_) (fun c14=>?_)
     ·rw[if_pos c14] at hvv4
      replace hvv4:=bnd hvv4;obtain⟨x5,p5,hvv4⟩:=hvv4
      replace p5:=AT p5
      have p5':=p5;try simp at p5'
      refine ko [1,2,6,24,25,26,27,28,29,30,31,32,33] 10 (by simp[p5,p5'];rfl) ?_
      refine tpN ?_
      cases hvv4
      exact⟨_,rfl,wk (by simp[wkI])⟩
     ·rw[if_neg (by rw[c14];decide)] at hvv4
      refine AR 9 [] (by kernel_rfl) ?_
      refine ko [1,2,6,33] 1 (by simp;rfl) ?_
      refine tpN ?_
      cases hvv4
      exact⟨_,rfl,wk (by simp[wkI])⟩
 ·refine kc1 ?_
  refine ko [1,2,7] 1 (by simp;rfl) ?_
  replace hvv1:=bnd hvv1;obtain⟨y6,hy6,hvv1⟩:=hvv1
  refine AM [1,2,8] [] (Am hy6) rfl rfl rfl Tryz.call36 (by simp) (by simp;rfl) ?_
  refine ko [1,2,10] 2 (by simp;rfl) ?_
  refine AG 10 (y6 != 0) (by simp) (fun c15=>?_) (fun c15=>?_)
  ·rw[if_pos c15] at hvv1
   refine AR 6 [] (by kernel_rfl) ?_
   refine ko [1,2,17] 1 (by simp;rfl) ?_
   refine tpN ?_
   cases hvv1
   exact⟨_,rfl,wk (by simp[wkI])⟩
  ·rw[if_neg (by rw[c15];decide)] at hvv1
   refine ko [1,2,10,13] 3 (by simp;rfl) ?_
   refine AG 13 (a1 != 1) (by simp) (fun c16=>?_) (fun c16=>?_)
   ·rw[if_pos c16] at hvv1
    refine ko [1,2,17] 4 (by simp;rfl) ?_
    refine tpN ?_
    cases hvv1
    exact⟨_,rfl,wk (by simp[wkI])⟩
   ·rw[if_neg (by rw[c16];decide)] at hvv1
    refine ko [1,2,17] 4 (by simp;rfl) ?_
    refine tpN ?_
    cases hvv1
    exact⟨_,rfl,wk (by simp[wkI])⟩
theorem D8 {a0:AQ} {a1:Int} {a2:Bool} {a3:Int} {a4:AA} {r:Bool×Int×Bool×Int×AA} (h0:probe_Missing_1_cbbbb a0 a1 a2 a3 a4=some r):Ac Tryz.prog 44 [[.d (.int .i64 a1)],[.d (.bool a2)],[.d (.int .i64 a3)],AF a4] [.agg (DF a0),.ptr (InO 0) 0,.ptr (InO 1) 0,.ptr (InO 2) 0,.ptr (InO 3) 0] (.d (.bool r.1)) [[.d (.int .i64 r.2.1)],[.d (.bool r.2.2.1)],[.d (.int .i64 r.2.2.2.1)],AF r.2.2.2.2]:=by
 unfold probe_Missing_1_cbbbb at h0
 refine AW (nt:=32) (rs:=[.tmp 6]) Tryz.func44 rfl Tryz.ntmps44 rfl (by simp) (by decide) rfl fun K=>?_
 refine kr [1,2,3,4,5] (by simp;rfl) ?_
 replace h0:=bnd h0;obtain⟨v1,hvv1,h0⟩:=h0
 refine sjv (fun v1_:Bool=>({ nt:=32,env:=[(6,.d (.bool v1_))],box:=[(1000000,[.d (.int .i64 a1)]),(1000001,[.d (.bool a2)]),(1000002,[.d (.int .i64 a3)]),(1000003,[.d (.bool a4.Fence),.d (.slice (AB (AH .i64) a4.Sets)),.d (.slice (AB AE a4.Replicas)),.d (.slice (AB (AH .i64) a4.Snapshots))])],vec:=[]}:St)) (fun v1_=>v1=v1_) (fun v1_ e=>?_) ?_
 ·subst e
  cases h0
  exact trr ⟨[],by simp,rfl,by simp⟩
 ·refine kc1 ?_
  refine ko [2,3,4,5,11] 5 (by simp;rfl) ?_
  refine AG 11 (a0.Replica==a1) (by simp) (fun c9=>?_) (fun c9=>?_)
  ·rw[c9] at hvv1
   refine ko [2,3,4,5,15] 4 (by simp;rfl) ?_
   refine AG 15 a0.Refused (by simp) (fun c10=>?_) (fun c10=>?_)
   ·rw[c10] at hvv1
    refine ko [3,4,5,18] 3 (by simp;rfl) ?_
    refine AG 18 a2 (by simp) (fun c11=>?_) (fun c11=>?_)
    ·rw[c11] at hvv1
     refine ko [4,5,24] 6 (by simp;rfl) ?_
     refine AG 24 (decide (a3≤a0.Generation)) (by simp) (fun c12=>?_) (fun c12=>?_)
     ·rw[c12] at hvv1
      refine ko [6] 8 (by simp;rfl) ?_
      refine tpN ?_
      cases hvv1
      exact⟨_,rfl,wk (by simp[wkI])⟩
     ·rw[c12] at hvv1
      refine AR 6 [] (by kernel_rfl) ?_
      refine ko [6] 2 (by simp;rfl) ?_
      refine tpN ?_
      cases hvv1
      exact⟨_,rfl,wk (by simp[wkI])⟩
    ·rw[c11] at hvv1
     refine AR 4 [] (by kernel_rfl) ?_
     refine ko [4,5,24] 2 (by simp;rfl) ?_
     refine AR 6 [] (by kernel_rfl) ?_
     refine ko [6] 2 (by simp;rfl) ?_
     refine tpN ?_
     cases hvv1
     exact⟨_,rfl,wk (by simp[wkI])⟩
   ·rw[c10] at hvv1
    refine ko [3,4,5,18] 3 (by simp;rfl) ?_
    refine AR 4 [] (by kernel_rfl) ?_
    refine ko [4,5,24] 2 (by simp;rfl) ?_
    refine AR 6 [] (by kernel_rfl) ?_
    refine ko [6] 2 (by simp;rfl) ?_
    refine tpN ?_
    cases hvv1
    exact⟨_,rfl,wk (by simp[wkI])⟩
  ·rw[c9] at hvv1
   refine ko [3,4,5,18] 7 (by simp;rfl) ?_
   refine AR 4 [] (by kernel_rfl) ?_
   refine ko [4,5,24] 2 (by simp;rfl) ?_
   refine AR 6 [] (by kernel_rfl) ?_
   refine ko [6] 2 (by simp;rfl) ?_
   refine tpN ?_
   cases hvv1
   exact⟨_,rfl,wk (by simp[wkI])⟩
theorem BE {a0:List AQ} {b10:Int} {b11:Bool} {b12:Int} {b13:AA} {r:Int×Int×Bool×Int×AA} (h0:sYIndexFunc_api_Evidence_at_probe_Missing_1_bbbb a0 b10 b11 b12 b13=some r):Ac Tryz.prog 81 [[.d (.int .i64 b10)],[.d (.bool b11)],[.d (.int .i64 b12)],AF b13] [.d (.slice (AB Aa a0)),.fn 44 [.ptr (InO 0) 0,.ptr (InO 1) 0,.ptr (InO 2) 0,.ptr (InO 3) 0]] (.d (.int .i64 r.1)) [[.d (.int .i64 r.2.1)],[.d (.bool r.2.2.1)],[.d (.int .i64 r.2.2.2.1)],AF r.2.2.2.2]:=by
 unfold sYIndexFunc_api_Evidence_at_probe_Missing_1_bbbb at h0
 refine AW (nt:=19) (rs:=[.tmp 4]) Tryz.func81 rfl Tryz.ntmps81 rfl (by simp) (by decide) rfl fun K=>?_
 refine kr [0,1] (by simp;rfl) ?_
 refine trq ?_
 refine kr [0,1,7,8] (by simp;rfl) ?_
 replace h0:=bnd h0;obtain⟨e1,hI1,h0⟩:=h0
 refine tjv (fun v1:Int×Bool×Int×Bool×(List Int)×(List AC)×(List Int)=>({ nt:=19,env:=[],box:=[(1000000,[.d (.int .i64 v1.1)]),(1000001,[.d (.bool v1.2.1)]),(1000002,[.d (.int .i64 v1.2.2.1)]),(1000003,[.d (.bool v1.2.2.2.1),.d (.slice (AB (AH .i64) v1.2.2.2.2.1)),.d (.slice (AB AE v1.2.2.2.2.2.1)),.d (.slice (AB (AH .i64) v1.2.2.2.2.2.2))])],vec:=[]}:St)) (fun v1=>.inl v1=e1) (fun v1 hI1e _ W1=>?_) ?_
 ·subst hI1e
  dsimp only at h0
  refine Al W1 ?_
  refine kr [4] (by simp;rfl) ?_
  cases h0
  exact trr ⟨[],by simp,rfl,by simp⟩
 ·refine trb (Ai (fun s2:Int×Int×Bool×Int×Bool×(List Int)×(List AC)×(List Int)=>({ nt:=19,env:=[(0,.d (.slice (AB Aa a0))),(1,.fn 44 [.ptr 1000000 0,.ptr 1000001 0,.ptr 1000002 0,.ptr 1000003 0]),(7,.d (.int .i64 ((a0).length:Int))),(8,.d (.int .i64 s2.1))],box:=[(1000000,[.d (.int .i64 s2.2.1)]),(1000001,[.d (.bool s2.2.2.1)]),(1000002,[.d (.int .i64 s2.2.2.2.1)]),(1000003,[.d (.bool s2.2.2.2.2.1),.d (.slice (AB (AH .i64) s2.2.2.2.2.2.1)),.d (.slice (AB AE s2.2.2.2.2.2.2.1)),.d (.slice (AB (AH .i64) s2.2.2.2.2.2.2.2))])],vec:=[]}:St)) hI1 (wk (by simp[wkI])) fun G1 s2 o1 h1 hg1 he1=>?_)
  unfold sYIndexFunc_api_Evidence_at_probe_Missing_1_bbbb_l0 at h1
  refine kr [0,1,7,8,9] (by simp;rfl) ?_
  refine trq ?_
  refine trc (b:=(decide (s2.1 < ((a0).length:Int)))) (by simp) (fun c5=>?_) (fun c5=>?_)
  ·rw[if_pos c5] at h1
   refine trk ?_
   refine trq ?_
   refine trb ?_
   refine kr [0,1,5,7,8] (by simp;rfl) ?_
   refine kc ?_
   replace h1:=bnd h1;obtain⟨x3,p3,h1⟩:=h1
   replace p3:=AT p3
   have p3':=p3;try simp at p3'
   refine ko [0,1,5,7,8,11,15] 5 (by simp[p3,p3'];rfl) ?_
   replace h1:=bnd h1;obtain⟨y4,hy4,h1⟩:=h1
   refine B7 [0,1,5,7,8,16] [1000000,1000001,1000002,1000003] [] [] (D8 hy4) rfl rfl rfl Tryz.call44 (by simp) (by simp;rfl) ?_
   refine tpN ?_
   refine trc (b:=y4.1) (by simp) (fun c6=>?_) (fun c6=>?_)
   ·rw[if_pos c6] at h1
    refine kr [4] (by simp;rfl) ?_
    have k1:=he1 _ (Option.some.inj h1)
    subst k1
    dsimp only at h0
    cases h0
    exact trr ⟨[],by simp,rfl,by simp⟩
   ·rw[if_neg (by rw[c6];decide)] at h1
    refine trk ?_
    refine lr (by simp;rfl) ?_
    exact⟨_,hg1 _ (Option.some.inj h1),wk (by simp[wkI])⟩
  ·rw[if_neg (by rw[c5];decide)] at h1
   refine Af ?_
   exact⟨_,he1 _ (Option.some.inj h1),wk (by simp[wkI])⟩
theorem A8 {a0:List AQ} {b10:Int} {b11:Bool} {b12:Int} {b13:AA} {r:Bool×Int×Bool×Int×AA} (h0:sYContainsFunc_api_Evidence_at_probe_Missing_1_bbbb a0 b10 b11 b12 b13=some r):Ac Tryz.prog 42 [[.d (.int .i64 b10)],[.d (.bool b11)],[.d (.int .i64 b12)],AF b13] [.d (.slice (AB Aa a0)),.fn 44 [.ptr (InO 0) 0,.ptr (InO 1) 0,.ptr (InO 2) 0,.ptr (InO 3) 0]] (.d (.bool r.1)) [[.d (.int .i64 r.2.1)],[.d (.bool r.2.2.1)],[.d (.int .i64 r.2.2.2.1)],AF r.2.2.2.2]:=by
 unfold sYContainsFunc_api_Evidence_at_probe_Missing_1_bbbb at h0
 refine AW (nt:=9) (rs:=[.tmp 4]) Tryz.func42 rfl Tryz.ntmps42 rfl (by simp) (by decide) rfl fun K=>?_
 refine kr [0,1] (by simp;rfl) ?_
 refine kc ?_
 refine ko [5,6] 2 (by simp;rfl) ?_
 replace h0:=bnd h0;obtain⟨y1,hy1,h0⟩:=h0
 refine AM [7] [1000000,1000001,1000002,1000003] (BE hy1) rfl rfl rfl Tryz.call81 (by simp) (by simp;rfl) ?_
 refine ko [4] 2 (by simp;rfl) ?_
 refine tpN ?_
 cases h0
 exact trr ⟨[],by simp,rfl,by simp⟩
theorem ER {a0:AA} {a1:List AQ} {r:(List Int)} (h0:probe_Missing a0 a1=some r):Ac Tryz.prog 18 [] [.agg (AF a0),.d (.slice (AB Aa a1))] (.d (.slice (AB (AH .i64) r))) []:=by
 unfold probe_Missing at h0
 refine AW (nt:=35) (rs:=[.tmp 4]) Tryz.func18 rfl Tryz.ntmps18 rfl (by simp) (by decide) rfl fun K=>?_
 refine kr [1,2] (by simp;rfl) ?_
 refine trq ?_
 refine kc ?_
 refine ko [1,2,10] 1 (by simp;rfl) ?_
 replace h0:=bnd h0;obtain⟨y1,hy1,h0⟩:=h0
 refine AM [1,2,11] [] (Am hy1) rfl rfl rfl Tryz.call36 (by simp) (by simp;rfl) ?_
 refine ko [1,2,12] 1 (by simp;rfl) ?_
 refine tpN ?_
 refine trc (b:=(y1 != 0)) (by simp) (fun c1=>?_) (fun c1=>?_)
 ·rw[if_pos c1] at h0
  refine kr [4] (by simp;rfl) ?_
  cases h0
  exact trr ⟨[],by simp,rfl,by simp⟩
 ·rw[if_neg (by rw[c1];decide)] at h0
  refine trk ?_
  refine kc ?_
  refine ko [1,2,14] 1 (by simp;rfl) ?_
  replace h0:=bnd h0;obtain⟨y2,hy2,h0⟩:=h0
  refine AM [1,2,15] [] (J2 hy2) rfl rfl rfl Tryz.call43 (by simp) (by simp;rfl) ?_
  refine ko [1,2,5,6] 7 (by simp;rfl) ?_
  refine tpN ?_
  refine kr [1,2,5,6,7] (by simp;rfl) ?_
  refine trq ?_
  refine kr [1,2,5,6,7,20,21] (by simp;rfl) ?_
  refine Al (HM 7 32 3 1 (by simp) (by simp)) ?_
  replace h0:=bnd h0;obtain⟨e1,hI1,h0⟩:=h0
  refine tjv (fun v3:(List Int)=>({ nt:=35,env:=[(7,.vec 32)],box:=[],vec:=[(32,⟨3,1,AB (AH .i64) v3⟩)]}:St)) (fun v3=>v3=e1) (fun v3 hI1e _ W1=>?_) ?_
  ·subst hI1e
   refine Al W1 ?_
   refine kr [4] (by simp;rfl) ?_
   cases h0
   exact trr ⟨[32],by simp,rfl,by simp⟩
  ·refine trb (Ai (fun s4:Int×Bool×(List Int)×(List AC)×(List Int)×Int×Bool×(List Int)=>({ nt:=35,env:=[(1,.d (.slice (AB Aa a1))),(2,.ptr 2 0),(5,.ptr 5 0),(6,.ptr 6 0),(7,.vec 32),(20,.d (.int .i64 ((a0.Replicas).length:Int))),(21,.d (.int .i64 s4.1))],box:=[(2,[.d (.bool s4.2.1),.d (.slice (AB (AH .i64) s4.2.2.1)),.d (.slice (AB AE s4.2.2.2.1)),.d (.slice (AB (AH .i64) s4.2.2.2.2.1))]),(5,[.d (.int .i64 s4.2.2.2.2.2.1)]),(6,[.d (.bool s4.2.2.2.2.2.2.1)])],vec:=[(32,⟨3,1,AB (AH .i64) s4.2.2.2.2.2.2.2⟩)]}:St)) hI1 (wk (by simp[wkI])) fun G1 s4 o1 h1 hg1 he1=>?_)
   unfold probe_Missing_l0 at h1
   refine kr [1,2,5,6,7,20,21,22] (by simp;rfl) ?_
   refine trq ?_
   refine trc (b:=(decide (s4.1 < ((a0.Replicas).length:Int)))) (by simp) (fun c8=>?_) (fun c8=>?_)
   ·rw[if_pos c8] at h1
    refine trk ?_
    refine trq ?_
    refine trb ?_
    refine kr [1,2,5,6,7,8,20,21] (by simp;rfl) ?_
    refine kr [1,2,5,6,7,8,9,20,21] (by simp;rfl) ?_
    refine kc ?_
    refine ko [1,2,5,6,7,8,20,21,25,26] 2 (by simp;rfl) ?_
    replace h1:=bnd h1;obtain⟨y5,hy5,h1⟩:=h1
    refine AM [1,2,5,6,7,8,20,21,27] [8,6,5,2] (A8 hy5) rfl rfl rfl Tryz.call42 (by simp) (by simp;rfl) ?_
    refine ko [1,2,5,6,7,8,20,21,28] 1 (by simp;rfl) ?_
    refine tpN ?_
    refine trc (b:=(!y5.1)) (by simp) (fun c9=>?_) (fun c9=>?_)
    ·rw[if_pos c9] at h1
     replace h1:=bnd h1;obtain⟨_,p6,h1⟩:=h1
     replace p6:=AZ p6
     have p6':=p6;try simp at p6'
     refine lr (by simp[p6,p6'];rfl) ?_
     refine lr (by simp;rfl) ?_
     exact⟨_,hg1 _ (Option.some.inj h1),wk (by simp[wkI])⟩
    ·rw[if_neg (by rw[c9];decide)] at h1
     refine trk ?_
     refine lr (by simp;rfl) ?_
     exact⟨_,hg1 _ (Option.some.inj h1),wk (by simp[wkI])⟩
   ·rw[if_neg (by rw[c8];decide)] at h1
    refine Af ?_
    exact⟨_,he1 _ (Option.some.inj h1),wk (by simp[wkI])⟩
theorem IR {a0:AA} {a1:List AQ} {r:Bool} (h0:probe_Enough a0 a1=some r):Ac Tryz.prog 19 [] [.agg (AF a0),.d (.slice (AB Aa a1))] (.d (.bool r)) []:=by
 unfold probe_Enough at h0
 refine AW (nt:=15) (rs:=[.tmp 4]) Tryz.func19 rfl Tryz.ntmps19 rfl (by simp) (by decide) rfl fun K=>?_
 refine kr [1,2] (by simp;rfl) ?_
 replace h0:=bnd h0;obtain⟨v1,hvv1,h0⟩:=h0
 refine sjv (fun v1_:Bool=>({ nt:=15,env:=[(4,.d (.bool v1_))],box:=[],vec:=[]}:St)) (fun v1_=>v1=v1_) (fun v1_ e=>?_) ?_
 ·subst e
  cases h0
  exact trr ⟨[],by simp,rfl,by simp⟩
 ·refine kc1 ?_
  refine ko [1,2,5] 1 (by simp;rfl) ?_
  replace hvv1:=bnd hvv1;obtain⟨y2,hy2,hvv1⟩:=hvv1
  refine AM [1,2,6] [] (Am hy2) rfl rfl rfl Tryz.call36 (by simp) (by simp;rfl) ?_
  refine ko [1,2,8] 2 (by simp;rfl) ?_
  refine AG 8 (y2==0) (by simp) (fun c3=>?_) (fun c3=>?_)
  ·rw[if_pos c3] at hvv1
   refine ko [8,9,10] 2 (by simp;rfl) ?_
   replace hvv1:=bnd hvv1;obtain⟨y3,hy3,hvv1⟩:=hvv1
   refine AM [8,11] [] (ER hy3) rfl rfl rfl Tryz.call18 (by simp) (by simp;rfl) ?_
   refine ko [4] 4 (by simp;rfl) ?_
   refine tpN ?_
   cases hvv1
   exact⟨_,rfl,wk (by simp[wkI])⟩
  ·rw[if_neg (by rw[c3];decide)] at hvv1
   refine AR 5 [] (by kernel_rfl) ?_
   refine ko [4] 2 (by simp;rfl) ?_
   refine tpN ?_
   cases hvv1
   exact⟨_,rfl,wk (by simp[wkI])⟩
theorem E0 {a0:AC} {a1:AA} {a2:Int} {r:Bool×AA×Int} (h0:cluster_some_1_cbb a0 a1 a2=some r):Ac Tryz.prog 82 [AF a1,[.d (.int .i64 a2)]] [.agg (Cg a0),.ptr (InO 0) 0,.ptr (InO 1) 0] (.d (.bool r.1)) [AF r.2.1,[.d (.int .i64 r.2.2)]]:=by
 unfold cluster_some_1_cbb at h0
 refine AW (nt:=9) (rs:=[.tmp 4]) Tryz.func82 rfl Tryz.ntmps82 rfl (by simp) (by decide) rfl fun K=>?_
 refine kr [1,2,3] (by simp;rfl) ?_
 refine kc ?_
 refine ko [5,6,7] 3 (by simp;rfl) ?_
 replace h0:=bnd h0;obtain⟨y1,hy1,h0⟩:=h0
 refine AM [8] [] (Dn hy1) rfl rfl rfl Tryz.call83 (by simp) (by simp;rfl) ?_
 refine ko [4] 1 (by simp;rfl) ?_
 refine tpN ?_
 cases h0
 exact trr ⟨[],by simp,rfl,by simp⟩
theorem BS {a0:List AC} {b10:AA} {b11:Int} {r:Int×AA×Int} (h0:sYIndexFunc_api_Replica_at_cluster_some_1_bb a0 b10 b11=some r):Ac Tryz.prog 50 [AF b10,[.d (.int .i64 b11)]] [.d (.slice (AB AE a0)),.fn 82 [.ptr (InO 0) 0,.ptr (InO 1) 0]] (.d (.int .i64 r.1)) [AF r.2.1,[.d (.int .i64 r.2.2)]]:=by
 unfold sYIndexFunc_api_Replica_at_cluster_some_1_bb at h0
 refine AW (nt:=19) (rs:=[.tmp 4]) Tryz.func50 rfl Tryz.ntmps50 rfl (by simp) (by decide) rfl fun K=>?_
 refine kr [0,1] (by simp;rfl) ?_
 refine trq ?_
 refine kr [0,1,7,8] (by simp;rfl) ?_
 replace h0:=bnd h0;obtain⟨e1,hI1,h0⟩:=h0
 refine tjv (fun v1:Bool×(List Int)×(List AC)×(List Int)×Int=>({ nt:=19,env:=[],box:=[(1000000,[.d (.bool v1.1),.d (.slice (AB (AH .i64) v1.2.1)),.d (.slice (AB AE v1.2.2.1)),.d (.slice (AB (AH .i64) v1.2.2.2.1))]),(1000001,[.d (.int .i64 v1.2.2.2.2)])],vec:=[]}:St)) (fun v1=>.inl v1=e1) (fun v1 hI1e _ W1=>?_) ?_
 ·subst hI1e
  dsimp only at h0
  refine Al W1 ?_
  refine kr [4] (by simp;rfl) ?_
  cases h0
  exact trr ⟨[],by simp,rfl,by simp⟩
 ·refine trb (Ai (fun s2:Int×Bool×(List Int)×(List AC)×(List Int)×Int=>({ nt:=19,env:=[(0,.d (.slice (AB AE a0))),(1,.fn 82 [.ptr 1000000 0,.ptr 1000001 0]),(7,.d (.int .i64 ((a0).length:Int))),(8,.d (.int .i64 s2.1))],box:=[(1000000,[.d (.bool s2.2.1),.d (.slice (AB (AH .i64) s2.2.2.1)),.d (.slice (AB AE s2.2.2.2.1)),.d (.slice (AB (AH .i64) s2.2.2.2.2.1))]),(1000001,[.d (.int .i64 s2.2.2.2.2.2)])],vec:=[]}:St)) hI1 (wk (by simp[wkI])) fun G1 s2 o1 h1 hg1 he1=>?_)
  unfold sYIndexFunc_api_Replica_at_cluster_some_1_bb_l0 at h1
  refine kr [0,1,7,8,9] (by simp;rfl) ?_
  refine trq ?_
  refine trc (b:=(decide (s2.1 < ((a0).length:Int)))) (by simp) (fun c5=>?_) (fun c5=>?_)
  ·rw[if_pos c5] at h1
   refine trk ?_
   refine trq ?_
   refine trb ?_
   refine kr [0,1,5,7,8] (by simp;rfl) ?_
   refine kc ?_
   replace h1:=bnd h1;obtain⟨x3,p3,h1⟩:=h1
   replace p3:=AT p3
   have p3':=p3;try simp at p3'
   refine ko [0,1,5,7,8,11,15] 5 (by simp[p3,p3'];rfl) ?_
   replace h1:=bnd h1;obtain⟨y4,hy4,h1⟩:=h1
   refine B7 [0,1,5,7,8,16] [1000000,1000001] [] [] (E0 hy4) rfl rfl rfl Tryz.call82 (by simp) (by simp;rfl) ?_
   refine tpN ?_
   refine trc (b:=y4.1) (by simp) (fun c6=>?_) (fun c6=>?_)
   ·rw[if_pos c6] at h1
    refine kr [4] (by simp;rfl) ?_
    have k1:=he1 _ (Option.some.inj h1)
    subst k1
    dsimp only at h0
    cases h0
    exact trr ⟨[],by simp,rfl,by simp⟩
   ·rw[if_neg (by rw[c6];decide)] at h1
    refine trk ?_
    refine lr (by simp;rfl) ?_
    exact⟨_,hg1 _ (Option.some.inj h1),wk (by simp[wkI])⟩
  ·rw[if_neg (by rw[c5];decide)] at h1
   refine Af ?_
   exact⟨_,he1 _ (Option.some.inj h1),wk (by simp[wkI])⟩
theorem BJ {a0:List AC} {b10:AA} {b11:Int} {r:Bool×AA×Int} (h0:sYContainsFunc_api_Replica_at_cluster_some_1_bb a0 b10 b11=some r):Ac Tryz.prog 76 [AF b10,[.d (.int .i64 b11)]] [.d (.slice (AB AE a0)),.fn 82 [.ptr (InO 0) 0,.ptr (InO 1) 0]] (.d (.bool r.1)) [AF r.2.1,[.d (.int .i64 r.2.2)]]:=by
 unfold sYContainsFunc_api_Replica_at_cluster_some_1_bb at h0
 refine AW (nt:=9) (rs:=[.tmp 4]) Tryz.func76 rfl Tryz.ntmps76 rfl (by simp) (by decide) rfl fun K=>?_
 refine kr [0,1] (by simp;rfl) ?_
 refine kc ?_
 refine ko [5,6] 2 (by simp;rfl) ?_
 replace h0:=bnd h0;obtain⟨y1,hy1,h0⟩:=h0
 refine AM [7] [1000000,1000001] (BS hy1) rfl rfl rfl Tryz.call50 (by simp) (by simp;rfl) ?_
 refine ko [4] 2 (by simp;rfl) ?_
 refine tpN ?_
 cases h0
 exact trr ⟨[],by simp,rfl,by simp⟩
theorem Es {a0:AA} {a1:Int} {r:Bool} (h0:cluster_some a0 a1=some r):Ac Tryz.prog 47 [] [.agg (AF a0),.d (.int .i64 a1)] (.d (.bool r)) []:=by
 unfold cluster_some at h0
 refine AW (nt:=9) (rs:=[.tmp 4]) Tryz.func47 rfl Tryz.ntmps47 rfl (by simp) (by decide) rfl fun K=>?_
 refine kr [2,3] (by simp;rfl) ?_
 refine kc ?_
 refine ko [6,7] 3 (by simp;rfl) ?_
 replace h0:=bnd h0;obtain⟨y1,hy1,h0⟩:=h0
 refine AM [8] [2,3] (BJ hy1) rfl rfl rfl Tryz.call76 (by simp) (by simp;rfl) ?_
 refine ko [4] 1 (by simp;rfl) ?_
 refine tpN ?_
 cases h0
 exact trr ⟨[],by simp,rfl,by simp⟩
theorem Et {a0:AA} {a1:Int} {r:Bool} (h0:cluster_Dead a0 a1=some r):Ac Tryz.prog 20 [] [.agg (AF a0),.d (.int .i64 a1)] (.d (.bool r)) []:=by
 unfold cluster_Dead at h0
 refine AW (nt:=28) (rs:=[.tmp 4]) Tryz.func20 rfl Tryz.ntmps20 rfl (by simp) (by decide) rfl fun K=>?_
 refine kr [1,2] (by simp;rfl) ?_
 replace h0:=bnd h0;obtain⟨v1,hvv1,h0⟩:=h0
 refine sjv (fun v1_:Bool=>({ nt:=28,env:=[(4,.d (.bool v1_))],box:=[],vec:=[]}:St)) (fun v1_=>v1=v1_) (fun v1_ e=>?_) ?_
 ·subst e
  cases h0
  exact trr ⟨[],by simp,rfl,by simp⟩
 ·refine kc1 ?_
  refine ko [1,2,5] 1 (by simp;rfl) ?_
  replace hvv1:=bnd hvv1;obtain⟨y2,hy2,hvv1⟩:=hvv1
  refine AM [1,2,6] [] (Am hy2) rfl rfl rfl Tryz.call36 (by simp) (by simp;rfl) ?_
  refine ko [1,2,8] 2 (by simp;rfl) ?_
  refine AG 8 (y2==0) (by simp) (fun c7=>?_) (fun c7=>?_)
  ·rw[if_pos c7] at hvv1
   refine ko [1,2,8,9] 1 (by simp;rfl) ?_
   replace hvv1:=bnd hvv1;obtain⟨y3,hy3,hvv1⟩:=hvv1
   refine AM [1,2,8,10] [] (C0 hy3) rfl rfl rfl Tryz.call45 (by simp) (by simp;rfl) ?_
   refine ko [1,2,12] 2 (by simp;rfl) ?_
   refine AG 12 y3 (by simp) (fun c8=>?_) (fun c8=>?_)
   ·rw[if_pos c8] at hvv1
    refine ko [1,2,12,13,17,18] 6 (by simp;rfl) ?_
    replace hvv1:=bnd hvv1;obtain⟨y4,hy4,hvv1⟩:=hvv1
    refine AM [1,2,12,19] [] (CB hy4) rfl rfl rfl Tryz.call46 (by simp) (by simp;rfl) ?_
    refine ko [1,2,22] 3 (by simp;rfl) ?_
    refine AG 22 (!y4) (by simp) (fun c9=>?_) (fun c9=>?_)
    ·rw[if_pos c9] at hvv1
     refine ko [22,23,24] 2 (by simp;rfl) ?_
     replace hvv1:=bnd hvv1;obtain⟨y5,hy5,hvv1⟩:=hvv1
     refine AM [22,25] [] (Es hy5) rfl rfl rfl Tryz.call47 (by simp) (by simp;rfl) ?_
     refine ko [4] 3 (by simp;rfl) ?_
     refine tpN ?_
     cases hvv1
     exact⟨_,rfl,wk (by simp[wkI])⟩
    ·rw[if_neg (by rw[c9];decide)] at hvv1
     refine AR 4 [] (by kernel_rfl) ?_
     refine ko [4] 2 (by simp;rfl) ?_
     refine tpN ?_
     cases hvv1
     exact⟨_,rfl,wk (by simp[wkI])⟩
   ·rw[if_neg (by rw[c8];decide)] at hvv1
    refine AR 8 [] (by kernel_rfl) ?_
    refine ko [1,2,22] 2 (by simp;rfl) ?_
    refine AR 4 [] (by kernel_rfl) ?_
    refine ko [4] 2 (by simp;rfl) ?_
    refine tpN ?_
    cases hvv1
    exact⟨_,rfl,wk (by simp[wkI])⟩
  ·rw[if_neg (by rw[c7];decide)] at hvv1
   refine ko [1,2,12] 4 (by simp;rfl) ?_
   refine AR 8 [] (by kernel_rfl) ?_
   refine ko [1,2,22] 2 (by simp;rfl) ?_
   refine AR 4 [] (by kernel_rfl) ?_
   refine ko [4] 2 (by simp;rfl) ?_
   refine tpN ?_
   cases hvv1
   exact⟨_,rfl,wk (by simp[wkI])⟩
theorem D9 {a0:Int} {a1:AA} {a2:Int} {r:Bool×AA×Int} (h0:cluster_Revives_1_cbb a0 a1 a2=some r):Ac Tryz.prog 49 [AF a1,[.d (.int .i64 a2)]] [.d (.int .i64 a0),.ptr (InO 0) 0,.ptr (InO 1) 0] (.d (.bool r.1)) [AF r.2.1,[.d (.int .i64 r.2.2)]]:=by
 unfold cluster_Revives_1_cbb at h0
 refine AW (nt:=9) (rs:=[.tmp 4]) Tryz.func49 rfl Tryz.ntmps49 rfl (by simp) (by decide) rfl fun K=>?_
 refine kr [0,1,2] (by simp;rfl) ?_
 refine kc ?_
 refine ko [5,6,7] 3 (by simp;rfl) ?_
 replace h0:=bnd h0;obtain⟨y1,hy1,h0⟩:=h0
 refine AM [8] [] (CB hy1) rfl rfl rfl Tryz.call46 (by simp) (by simp;rfl) ?_
 refine ko [4] 1 (by simp;rfl) ?_
 refine tpN ?_
 cases h0
 exact trr ⟨[],by simp,rfl,by simp⟩
theorem Bj {a0:List Int} {b10:AA} {b11:Int} {r:Int×AA×Int} (h0:sYIndexFunc_int_at_cluster_Revives_1_bb a0 b10 b11=some r):Ac Tryz.prog 48 [AF b10,[.d (.int .i64 b11)]] [.d (.slice (AB (AH .i64) a0)),.fn 49 [.ptr (InO 0) 0,.ptr (InO 1) 0]] (.d (.int .i64 r.1)) [AF r.2.1,[.d (.int .i64 r.2.2)]]:=by
 unfold sYIndexFunc_int_at_cluster_Revives_1_bb at h0
 refine AW (nt:=19) (rs:=[.tmp 4]) Tryz.func48 rfl Tryz.ntmps48 rfl (by simp) (by decide) rfl fun K=>?_
 refine kr [0,1] (by simp;rfl) ?_
 refine trq ?_
 refine kr [0,1,7,8] (by simp;rfl) ?_
 replace h0:=bnd h0;obtain⟨e1,hI1,h0⟩:=h0
 refine tjv (fun v1:Bool×(List Int)×(List AC)×(List Int)×Int=>({ nt:=19,env:=[],box:=[(1000000,[.d (.bool v1.1),.d (.slice (AB (AH .i64) v1.2.1)),.d (.slice (AB AE v1.2.2.1)),.d (.slice (AB (AH .i64) v1.2.2.2.1))]),(1000001,[.d (.int .i64 v1.2.2.2.2)])],vec:=[]}:St)) (fun v1=>.inl v1=e1) (fun v1 hI1e _ W1=>?_) ?_
 ·subst hI1e
  dsimp only at h0
  refine Al W1 ?_
  refine kr [4] (by simp;rfl) ?_
  cases h0
  exact trr ⟨[],by simp,rfl,by simp⟩
 ·refine trb (Ai (fun s2:Int×Bool×(List Int)×(List AC)×(List Int)×Int=>({ nt:=19,env:=[(0,.d (.slice (AB (AH .i64) a0))),(1,.fn 49 [.ptr 1000000 0,.ptr 1000001 0]),(7,.d (.int .i64 ((a0).length:Int))),(8,.d (.int .i64 s2.1))],box:=[(1000000,[.d (.bool s2.2.1),.d (.slice (AB (AH .i64) s2.2.2.1)),.d (.slice (AB AE s2.2.2.2.1)),.d (.slice (AB (AH .i64) s2.2.2.2.2.1))]),(1000001,[.d (.int .i64 s2.2.2.2.2.2)])],vec:=[]}:St)) hI1 (wk (by simp[wkI])) fun G1 s2 o1 h1 hg1 he1=>?_)
  unfold sYIndexFunc_int_at_cluster_Revives_1_bb_l0 at h1
  refine kr [0,1,7,8,9] (by simp;rfl) ?_
  refine trq ?_
  refine trc (b:=(decide (s2.1 < ((a0).length:Int)))) (by simp) (fun c5=>?_) (fun c5=>?_)
  ·rw[if_pos c5] at h1
   refine trk ?_
   refine trq ?_
   refine trb ?_
   refine kr [0,1,5,7,8] (by simp;rfl) ?_
   refine kc ?_
   replace h1:=bnd h1;obtain⟨x3,p3,h1⟩:=h1
   replace p3:=AT p3
   have p3':=p3;try simp at p3'
   refine ko [0,1,5,7,8,11,15] 5 (by simp[p3,p3'];rfl) ?_
   replace h1:=bnd h1;obtain⟨y4,hy4,h1⟩:=h1
   refine B7 [0,1,5,7,8,16] [1000000,1000001] [] [] (D9 hy4) rfl rfl rfl Tryz.call49 (by simp) (by simp;rfl) ?_
   refine tpN ?_
   refine trc (b:=y4.1) (by simp) (fun c6=>?_) (fun c6=>?_)
   ·rw[if_pos c6] at h1
    refine kr [4] (by simp;rfl) ?_
    have k1:=he1 _ (Option.some.inj h1)
    subst k1
    dsimp only at h0
    cases h0
    exact trr ⟨[],by simp,rfl,by simp⟩
   ·rw[if_neg (by rw[c6];decide)] at h1
    refine trk ?_
    refine lr (by simp;rfl) ?_
    exact⟨_,hg1 _ (Option.some.inj h1),wk (by simp[wkI])⟩
  ·rw[if_neg (by rw[c5];decide)] at h1
   refine Af ?_
   exact⟨_,he1 _ (Option.some.inj h1),wk (by simp[wkI])⟩
theorem EA {a0:AC} {a1:AA} {a2:Int} {r:Bool×AA×Int} (h0:cluster_Revives_2_cbb a0 a1 a2=some r):Ac Tryz.prog 51 [AF a1,[.d (.int .i64 a2)]] [.agg (Cg a0),.ptr (InO 0) 0,.ptr (InO 1) 0] (.d (.bool r.1)) [AF r.2.1,[.d (.int .i64 r.2.2)]]:=by
 unfold cluster_Revives_2_cbb at h0
 refine AW (nt:=10) (rs:=[.tmp 4]) Tryz.func51 rfl Tryz.ntmps51 rfl (by simp) (by decide) rfl fun K=>?_
 refine kr [1,2,3] (by simp;rfl) ?_
 refine kc ?_
 refine ko [5,7,8] 4 (by simp;rfl) ?_
 replace h0:=bnd h0;obtain⟨y1,hy1,h0⟩:=h0
 refine AM [9] [] (CB hy1) rfl rfl rfl Tryz.call46 (by simp) (by simp;rfl) ?_
 refine ko [4] 1 (by simp;rfl) ?_
 refine tpN ?_
 cases h0
 exact trr ⟨[],by simp,rfl,by simp⟩
theorem BK {a0:List AC} {b10:AA} {b11:Int} {r:Int×AA×Int} (h0:sYIndexFunc_api_Replica_at_cluster_Revives_2_bb a0 b10 b11=some r):Ac Tryz.prog 50 [AF b10,[.d (.int .i64 b11)]] [.d (.slice (AB AE a0)),.fn 51 [.ptr (InO 0) 0,.ptr (InO 1) 0]] (.d (.int .i64 r.1)) [AF r.2.1,[.d (.int .i64 r.2.2)]]:=by
 unfold sYIndexFunc_api_Replica_at_cluster_Revives_2_bb at h0
 refine AW (nt:=19) (rs:=[.tmp 4]) Tryz.func50 rfl Tryz.ntmps50 rfl (by simp) (by decide) rfl fun K=>?_
 refine kr [0,1] (by simp;rfl) ?_
 refine trq ?_
 refine kr [0,1,7,8] (by simp;rfl) ?_
 replace h0:=bnd h0;obtain⟨e1,hI1,h0⟩:=h0
 refine tjv (fun v1:Bool×(List Int)×(List AC)×(List Int)×Int=>({ nt:=19,env:=[],box:=[(1000000,[.d (.bool v1.1),.d (.slice (AB (AH .i64) v1.2.1)),.d (.slice (AB AE v1.2.2.1)),.d (.slice (AB (AH .i64) v1.2.2.2.1))]),(1000001,[.d (.int .i64 v1.2.2.2.2)])],vec:=[]}:St)) (fun v1=>.inl v1=e1) (fun v1 hI1e _ W1=>?_) ?_
 ·subst hI1e
  dsimp only at h0
  refine Al W1 ?_
  refine kr [4] (by simp;rfl) ?_
  cases h0
  exact trr ⟨[],by simp,rfl,by simp⟩
 ·refine trb (Ai (fun s2:Int×Bool×(List Int)×(List AC)×(List Int)×Int=>({ nt:=19,env:=[(0,.d (.slice (AB AE a0))),(1,.fn 51 [.ptr 1000000 0,.ptr 1000001 0]),(7,.d (.int .i64 ((a0).length:Int))),(8,.d (.int .i64 s2.1))],box:=[(1000000,[.d (.bool s2.2.1),.d (.slice (AB (AH .i64) s2.2.2.1)),.d (.slice (AB AE s2.2.2.2.1)),.d (.slice (AB (AH .i64) s2.2.2.2.2.1))]),(1000001,[.d (.int .i64 s2.2.2.2.2.2)])],vec:=[]}:St)) hI1 (wk (by simp[wkI])) fun G1 s2 o1 h1 hg1 he1=>?_)
  unfold sYIndexFunc_api_Replica_at_cluster_Revives_2_bb_l0 at h1
  refine kr [0,1,7,8,9] (by simp;rfl) ?_
  refine trq ?_
  refine trc (b:=(decide (s2.1 < ((a0).length:Int)))) (by simp) (fun c5=>?_) (fun c5=>?_)
  ·rw[if_pos c5] at h1
   refine trk ?_
   refine trq ?_
   refine trb ?_
   refine kr [0,1,5,7,8] (by simp;rfl) ?_
   refine kc ?_
   replace h1:=bnd h1;obtain⟨x3,p3,h1⟩:=h1
   replace p3:=AT p3
   have p3':=p3;try simp at p3'
   refine ko [0,1,5,7,8,11,15] 5 (by simp[p3,p3'];rfl) ?_
   replace h1:=bnd h1;obtain⟨y4,hy4,h1⟩:=h1
   refine B7 [0,1,5,7,8,16] [1000000,1000001] [] [] (EA hy4) rfl rfl rfl Tryz.call51 (by simp) (by simp;rfl) ?_
   refine tpN ?_
   refine trc (b:=y4.1) (by simp) (fun c6=>?_) (fun c6=>?_)
   ·rw[if_pos c6] at h1
    refine kr [4] (by simp;rfl) ?_
    have k1:=he1 _ (Option.some.inj h1)
    subst k1
    dsimp only at h0
    cases h0
    exact trr ⟨[],by simp,rfl,by simp⟩
   ·rw[if_neg (by rw[c6];decide)] at h1
    refine trk ?_
    refine lr (by simp;rfl) ?_
    exact⟨_,hg1 _ (Option.some.inj h1),wk (by simp[wkI])⟩
  ·rw[if_neg (by rw[c5];decide)] at h1
   refine Af ?_
   exact⟨_,he1 _ (Option.some.inj h1),wk (by simp[wkI])⟩
theorem GG {a0:AA} {a1:Int} {r:(List AP)×Bool} (h0:cluster_Revives a0 a1=some r):Ac Tryz.prog 21 [] [.agg (AF a0),.d (.int .i64 a1)] (.tup [.d (.slice (AB FI r.1)),.d (.bool r.2)]) []:=by
 unfold cluster_Revives at h0
 refine AW (nt:=62) (rs:=[.tmp 4,.tmp 5]) Tryz.func21 rfl Tryz.ntmps21 rfl (by simp) (by decide) rfl fun K=>?_
 refine kr [2,3] (by simp;rfl) ?_
 refine trq ?_
 refine trb ?_
 replace h0:=bnd h0;obtain⟨v1,hvv1,h0⟩:=h0
 refine sjv (fun v1_:Bool=>({ nt:=62,env:=[(2,.ptr 2 0),(3,.ptr 3 0),(8,.d (.bool v1_))],box:=[(2,[.d (.bool a0.Fence),.d (.slice (AB (AH .i64) a0.Sets)),.d (.slice (AB AE a0.Replicas)),.d (.slice (AB (AH .i64) a0.Snapshots))]),(3,[.d (.int .i64 a1)])],vec:=[]}:St)) (fun v1_=>v1=v1_) (fun v1_ e=>?_) ?_
 ·subst e
  refine trc (b:=v1) (by simp) (fun c3=>?_) (fun c3=>?_)
  ·rw[if_pos c3] at h0
   refine kr [4,5] (by simp;rfl) ?_
   cases h0
   exact trr ⟨[],by simp,rfl,by simp⟩
  ·rw[if_neg (by rw[c3];decide)] at h0
   refine kc ?_
   refine ko [2,3,18,19] 2 (by simp;rfl) ?_
   replace h0:=bnd h0;obtain⟨y2,hy2,h0⟩:=h0
   refine AM [2,3,20] [] (Es hy2) rfl rfl rfl Tryz.call47 (by simp) (by simp;rfl) ?_
   refine ko [2,3,17] 1 (by simp;rfl) ?_
   refine tpN ?_
   refine trc (b:=y2) (by simp) (fun c4=>?_) (fun c4=>?_)
   ·rw[if_pos c4] at h0
    refine kr [4,5] (by simp;rfl) ?_
    cases h0
    exact trr ⟨[],by simp,rfl,by simp⟩
   ·rw[if_neg (by rw[c4];decide)] at h0
    refine kc ?_
    refine ko [2,3,22,26,27] 6 (by simp;rfl) ?_
    replace h0:=bnd h0;obtain⟨y3,hy3,h0⟩:=h0
    refine AM [2,3,28] [] (CB hy3) rfl rfl rfl Tryz.call46 (by simp) (by simp;rfl) ?_
    refine ko [2,3,21] 1 (by simp;rfl) ?_
    refine tpN ?_
    refine trc (b:=y3) (by simp) (fun c5=>?_) (fun c5=>?_)
    ·rw[if_pos c5] at h0
     refine kr [4,5] (by simp;rfl) ?_
     cases h0
     exact trr ⟨[30],by simp,rfl,by simp⟩
    ·rw[if_neg (by rw[c5];decide)] at h0
     refine kr [2,3,31] (by simp;rfl) ?_
     refine trc (b:=a0.Fence) (by simp) (fun c6=>?_) (fun c6=>?_)
     ·rw[if_pos c6] at h0
      refine kr [4,5] (by simp;rfl) ?_
      cases h0
      exact trr ⟨[],by simp,rfl,by simp⟩
     ·rw[if_neg (by rw[c6];decide)] at h0
      refine trk ?_
      refine trq ?_
      refine kc ?_
      refine ko [2,3,35,36] 3 (by simp;rfl) ?_
      replace h0:=bnd h0;obtain⟨y4,hy4,h0⟩:=h0
      refine AM [2,3,37] [2,3] (Bj hy4) rfl rfl rfl Tryz.call48 (by simp) (by simp;rfl) ?_
      refine ko [2,3,6] 1 (by simp;rfl) ?_
      refine tpN ?_
      refine kr [2,3,6,39] (by simp;rfl) ?_
      refine trc (b:=(decide (0≤y4.1))) (by simp) (fun c7=>?_) (fun c7=>?_)
      ·rw[if_pos c7] at h0
       refine kr [4,5] (by simp;rfl) ?_
       cases h0
       exact trr ⟨[42],by simp,rfl,by simp⟩
      ·rw[if_neg (by rw[c7];decide)] at h0
       refine trk ?_
       refine kc ?_
       refine ko [2,44,45] 3 (by simp;rfl) ?_
       replace h0:=bnd h0;obtain⟨y5,hy5,h0⟩:=h0
       refine AM [2,46] [2,3] (BK hy5) rfl rfl rfl Tryz.call50 (by simp) (by simp;rfl) ?_
       refine ko [2,7] 1 (by simp;rfl) ?_
       refine tpN ?_
       refine trq ?_
       replace h0:=bnd h0;obtain⟨v6,hvv6,h0⟩:=h0
       refine sjv (fun v6_:Bool=>({ nt:=62,env:=[(2,.ptr 2 0),(7,.d (.int .i64 y5.1)),(54,.d (.bool v6_))],box:=[(2,[.d (.bool y5.2.1.Fence),.d (.slice (AB (AH .i64) y5.2.1.Sets)),.d (.slice (AB AE y5.2.1.Replicas)),.d (.slice (AB (AH .i64) y5.2.1.Snapshots))])],vec:=[]}:St)) (fun v6_=>v6=v6_) (fun v6_ e=>?_) ?_
       ·subst e
        refine trc (b:=v6) (by simp) (fun c10=>?_) (fun c10=>?_)
        ·rw[if_pos c10] at h0
         refine kr [4,5] (by simp;rfl) ?_
         cases h0
         exact trr ⟨[],by simp,rfl,by simp⟩
        ·rw[if_neg (by rw[c10];decide)] at h0
         refine trk ?_
         refine kr [4,5] (by simp;rfl) ?_
         cases h0
         exact trr ⟨[61],by simp,rfl,by simp⟩
       ·refine kc1 ?_
        refine ko [2,7,49] 3 (by simp;rfl) ?_
        refine AG 49 (decide (y5.1 < 0)) (by simp) (fun c11=>?_) (fun c11=>?_)
        ·rw[c11] at hvv6
         refine AR 4 [] (by kernel_rfl) ?_
         refine ko [2,7,54] 1 (by simp;rfl) ?_
         refine tpN ?_
         cases hvv6
         exact⟨_,rfl,wk (by simp[wkI])⟩
        ·rw[c11] at hvv6
         refine ko [2,7,54] 5 (by simp;rfl) ?_
         refine tpN ?_
         cases hvv6
         exact⟨_,rfl,wk (by simp[wkI])⟩
 ·refine kc1 ?_
  refine ko [2,3,9] 1 (by simp;rfl) ?_
  replace hvv1:=bnd hvv1;obtain⟨y7,hy7,hvv1⟩:=hvv1
  refine AM [2,3,10] [] (Am hy7) rfl rfl rfl Tryz.call36 (by simp) (by simp;rfl) ?_
  refine ko [2,3,12] 2 (by simp;rfl) ?_
  refine AG 12 (y7 != 0) (by simp) (fun c12=>?_) (fun c12=>?_)
  ·rw[if_pos c12] at hvv1
   refine AR 3 [] (by kernel_rfl) ?_
   refine ko [2,3,8] 2 (by simp;rfl) ?_
   refine tpN ?_
   cases hvv1
   exact⟨_,rfl,wk (by simp[wkI])⟩
  ·rw[if_neg (by rw[c12];decide)] at hvv1
   refine ko [2,3,12,13] 1 (by simp;rfl) ?_
   replace hvv1:=bnd hvv1;obtain⟨y8,hy8,hvv1⟩:=hvv1
   refine AM [2,3,12,14] [] (C0 hy8) rfl rfl rfl Tryz.call45 (by simp) (by simp;rfl) ?_
   refine ko [2,3,8] 3 (by simp;rfl) ?_
   refine tpN ?_
   cases hvv1
   exact⟨_,rfl,wk (by simp[wkI])⟩
theorem J3 {a0:List Int} {r:Bool} (h0:top_TopDead a0=some r):Ac Tryz.prog 4 [] [.d (.slice (AB (AH .i64) a0))] (.d (.bool r)) []:=by
 unfold top_TopDead at h0
 refine AW (nt:=128) (rs:=[.tmp 2]) Tryz.func4 rfl Tryz.ntmps4 rfl (by simp) (by decide) rfl fun K=>?_
 refine kr [0] (by simp;rfl) ?_
 refine trq ?_
 refine kr [0,20] (by simp;rfl) ?_
 refine trc (b:=(decide (400 < ((a0).length:Int)))) (by simp) (fun c1=>?_) (fun c1=>?_)
 ·rw[if_pos c1] at h0
  refine kc ?_
  replace h0:=bnd h0;obtain⟨y1,hy1,h0⟩:=h0
  refine AM [21] [] (FT hy1) rfl rfl rfl Tryz.call5 (by simp) (by simp;rfl) ?_
  refine ko [2] 1 (by simp;rfl) ?_
  refine tpN ?_
  cases h0
  exact trr ⟨[],by simp,rfl,by simp⟩
 ·rw[if_neg (by rw[c1];decide)] at h0
  refine trk ?_
  refine kr [3] (by simp;rfl) ?_
  refine kc ?_
  refine ko [3,25] 1 (by simp;rfl) ?_
  replace h0:=bnd h0;obtain⟨y2,hy2,h0⟩:=h0
  refine AM [3,26] [24] (Lh hy2) rfl rfl rfl Tryz.call14 (by simp) (by simp;rfl) ?_
  refine ko [3,4] 2 (by simp;rfl) ?_
  refine tpN ?_
  refine kr [3,4] (by simp;rfl) ?_
  refine kc ?_
  refine ko [3,4,29,30] 2 (by simp;rfl) ?_
  replace h0:=bnd h0;obtain⟨y3,hy3,h0⟩:=h0
  refine AM [3,4,31] [] (Cz hy3) rfl rfl rfl Tryz.call15 (by simp) (by simp;rfl) ?_
  refine ko [3,4,5] 5 (by simp;rfl) ?_
  refine tpN ?_
  refine trq ?_
  refine kr [3,4,35] (by simp;rfl) ?_
  refine trc (b:=(y3.2 != 0)) (by simp) (fun c2=>?_) (fun c2=>?_)
  ·rw[if_pos c2] at h0
   refine kr [2] (by simp;rfl) ?_
   cases h0
   exact trr ⟨[],by simp,rfl,by simp⟩
  ·rw[if_neg (by rw[c2];decide)] at h0
   refine trk ?_
   refine trq ?_
   refine kr [3,4,6] (by simp;rfl) ?_
   replace h0:=bnd h0;obtain⟨e1,hI1,h0⟩:=h0
   refine tjv (fun v4:Bool×(List Int)×(List AC)×(List Int)=>({ nt:=128,env:=[(3,.ptr 24 0),(4,.ptr 4 0)],box:=[(4,[.d (.bool v4.1),.d (.slice (AB (AH .i64) v4.2.1)),.d (.slice (AB AE v4.2.2.1)),.d (.slice (AB (AH .i64) v4.2.2.2))]),(24,[.d (.slice (AB (AH .i64) y2.2.L)),.d (.int .i64 y2.2.at_)])],vec:=[]}:St)) (fun v4=>.inl v4=e1) (fun v4 hI1e _ W1=>?_) ?_
   ·subst hI1e
    dsimp only at h0
    refine Al W1 ?_
    refine kc ?_
    refine ko [3,4,72] 1 (by simp;rfl) ?_
    replace h0:=bnd h0;obtain⟨y5,hy5,h0⟩:=h0
    refine AM [3,4,73] [] (G5 hy5) rfl rfl rfl Tryz.call16 (by simp) (by simp;rfl) ?_
    refine ko [3,4,11,12] 5 (by simp;rfl) ?_
    refine tpN ?_
    refine trq ?_
    replace h0:=bnd h0;obtain⟨v6,hvv6,h0⟩:=h0
    refine sjv (fun v6_:Bool=>({ nt:=128,env:=[(3,.ptr 24 0),(4,.ptr 4 0),(94,.d (.bool v6_))],box:=[(4,[.d (.bool v4.1),.d (.slice (AB (AH .i64) v4.2.1)),.d (.slice (AB AE v4.2.2.1)),.d (.slice (AB (AH .i64) v4.2.2.2))]),(24,[.d (.slice (AB (AH .i64) y2.2.L)),.d (.int .i64 y2.2.at_)])],vec:=[]}:St)) (fun v6_=>v6=v6_) (fun v6_ e=>?_) ?_
    ·subst e
     refine trc (b:=v6) (by simp) (fun c23=>?_) (fun c23=>?_)
     ·rw[if_pos c23] at h0
      refine kr [2] (by simp;rfl) ?_
      cases h0
      exact trr ⟨[],by simp,rfl,by simp⟩
     ·rw[if_neg (by rw[c23];decide)] at h0
      refine trk ?_
      refine trq ?_
      refine kc ?_
      refine ko [3,4,96] 1 (by simp;rfl) ?_
      replace h0:=bnd h0;obtain⟨y7,hy7,h0⟩:=h0
      refine AM [3,4,97] [] (GG hy7) rfl rfl rfl Tryz.call21 (by simp) (by simp;rfl) ?_
      refine ko [3,4,14] 5 (by simp;rfl) ?_
      refine tpN ?_
      refine kr [3,4,100] (by simp;rfl) ?_
      refine trc (b:=y7.2) (by simp) (fun c24=>?_) (fun c24=>?_)
      ·rw[if_pos c24] at h0
       refine kr [2] (by simp;rfl) ?_
       cases h0
       exact trr ⟨[],by simp,rfl,by simp⟩
      ·rw[if_neg (by rw[c24];decide)] at h0
       refine trk ?_
       refine trq ?_
       refine kr [3,4,103,104] (by simp;rfl) ?_
       replace h0:=bnd h0;obtain⟨e2,hI2,h0⟩:=h0
       refine tjv (fun v8:Unit=>({ nt:=128,env:=[],box:=[],vec:=[]}:St)) (fun v8=>.inl v8=e2) (fun v8 hI2e _ W2=>?_) ?_
       ·subst hI2e
        dsimp only at h0
        refine Al W2 ?_
        refine kc ?_
        replace h0:=bnd h0;obtain⟨y9,hy9,h0⟩:=h0
        refine AM [127] [] (FT hy9) rfl rfl rfl Tryz.call5 (by simp) (by simp;rfl) ?_
        refine ko [2] 1 (by simp;rfl) ?_
        refine tpN ?_
        cases h0
        exact trr ⟨[],by simp,rfl,by simp⟩
       ·refine trb (Ai (fun s10:Int×(List Int)×Int=>({ nt:=128,env:=[(3,.ptr 24 0),(4,.ptr 4 0),(103,.d (.int .i64 ((v4.2.2.2).length:Int))),(104,.d (.int .i64 s10.1))],box:=[(4,[.d (.bool v4.1),.d (.slice (AB (AH .i64) v4.2.1)),.d (.slice (AB AE v4.2.2.1)),.d (.slice (AB (AH .i64) v4.2.2.2))]),(24,[.d (.slice (AB (AH .i64) s10.2.1)),.d (.int .i64 s10.2.2)])],vec:=[]}:St)) hI2 (wk (by simp[wkI])) fun G2 s10 o2 h2 hg2 he2=>?_)
        unfold top_TopDead_l1 at h2
        refine kr [3,4,103,104,105] (by simp;rfl) ?_
        refine trq ?_
        refine trc (b:=(decide (s10.1 < ((v4.2.2.2).length:Int)))) (by simp) (fun c31=>?_) (fun c31=>?_)
        ·rw[if_pos c31] at h2
         refine trk ?_
         refine trq ?_
         refine trb ?_
         refine kr [3,4,15,103,104] (by simp;rfl) ?_
         refine kd [[],[],[],[2],[3],[1,4],[],[4,5,6],[0,4,7],[4,8],[4,9],[4,9],[],[4,10,12],[4,11,12]] [5,12,13] [(16,[12,13]),(24,[5])] none [] 15 fol (by decide +kernel) (by simp) ?_
         refine AN 0 2 rfl (by simp (maxSteps:=1000000);rfl) ?_
         refine AN 2 2 rfl (by simp (maxSteps:=1000000);rfl) ?_
         refine AN 4 1 rfl (by simp (maxSteps:=1000000);rfl) ?_
         replace h2:=bnd h2;obtain⟨y11,hy11,h2⟩:=h2
         refine BL 5 [24] (B9 hy11) rfl rfl rfl rfl rfl Tryz.call8 (by simp) ?_
         refine AN 6 2 rfl (by simp (maxSteps:=1000000);rfl) ?_
         replace h2:=bnd h2;obtain⟨y12,hy12,h2⟩:=h2
         refine BL 8 [] (Cz hy12) rfl rfl rfl rfl rfl Tryz.call15 (by simp) ?_
         refine AN 9 2 rfl (by simp (maxSteps:=1000000);rfl) ?_
         refine AN 11 2 rfl (by simp (maxSteps:=1000000);rfl) ?_
         refine AN 13 2 rfl (by simp (maxSteps:=1000000);rfl) ?_
         refine BC rfl (tpN ?_)
         replace h2:=bnd h2;obtain⟨v13,hvv13,h2⟩:=h2
         refine sjv (fun v13_:Bool=>({ nt:=128,env:=[(3,.ptr 24 0),(4,.ptr 4 0),(103,.d (.int .i64 ((v4.2.2.2).length:Int))),(104,.d (.int .i64 s10.1)),(125,.d (.bool v13_))],box:=[(4,[.d (.bool v4.1),.d (.slice (AB (AH .i64) v4.2.1)),.d (.slice (AB AE v4.2.2.1)),.d (.slice (AB (AH .i64) v4.2.2.2))]),(24,[.d (.slice (AB (AH .i64) y11.2.L)),.d (.int .i64 y11.2.at_)])],vec:=[]}:St)) (fun v13_=>v13=v13_) (fun v13_ e=>?_) ?_
         ·subst e
          refine trc (b:=v13) (by simp) (fun c34=>?_) (fun c34=>?_)
          ·rw[if_pos c34] at h2
           refine kr [2] (by simp;rfl) ?_
           have k1:=he2 _ (Option.some.inj h2)
           subst k1
           dsimp only at h0
           cases h0
           exact trr ⟨[],by simp,rfl,by simp⟩
          ·rw[if_neg (by rw[c34];decide)] at h2
           refine trk ?_
           refine lr (by simp;rfl) ?_
           exact⟨_,hg2 _ (Option.some.inj h2),wk (by simp[wkI])⟩
         ·refine kc1 ?_
          refine ko [3,4,16,103,104,121] 3 (by simp;rfl) ?_
          refine AG 121 (y12.2 != 0) (by simp) (fun c35=>?_) (fun c35=>?_)
          ·rw[if_pos c35] at hvv13
           refine AR 3 [] (by kernel_rfl) ?_
           refine ko [3,4,103,104,125] 1 (by simp;rfl) ?_
           refine tpN ?_
           cases hvv13
           exact⟨_,rfl,wk (by simp[wkI])⟩
          ·rw[if_neg (by rw[c35];decide)] at hvv13
           refine ko [3,4,103,104,121,122] 1 (by simp;rfl) ?_
           replace hvv13:=bnd hvv13;obtain⟨y14,hy14,hvv13⟩:=hvv13
           refine AM [3,4,103,104,121,122,123] [] (Et hy14) rfl rfl rfl Tryz.call20 (by simp) (by simp;rfl) ?_
           refine ko [3,4,103,104,122,123,124,125] 2 (by simp;rfl) ?_
           refine tpN ?_
           cases hvv13
           exact⟨_,rfl,wk (by simp[wkI])⟩
        ·rw[if_neg (by rw[c31];decide)] at h2
         refine Af ?_
         exact⟨_,he2 _ (Option.some.inj h2),wk (by simp[wkI])⟩
    ·refine kc1 ?_
     refine ko [3,4,11,78] 3 (by simp;rfl) ?_
     refine AG 78 (y5.2 != 0) (by simp) (fun c36=>?_) (fun c36=>?_)
     ·rw[if_pos c36] at hvv6
      refine AR 4 [] (by kernel_rfl) ?_
      refine ko [3,4,11,84] 2 (by simp;rfl) ?_
      refine AR 4 [] (by kernel_rfl) ?_
      refine ko [3,4,90] 2 (by simp;rfl) ?_
      refine AR 3 [] (by kernel_rfl) ?_
      refine ko [3,4,94] 1 (by simp;rfl) ?_
      refine tpN ?_
      cases hvv6
      exact⟨_,rfl,wk (by simp[wkI])⟩
     ·rw[if_neg (by rw[c36];decide)] at hvv6
      refine ko [3,4,11,84] 6 (by simp;rfl) ?_
      refine AG 84 (((v4.2.2.1).length:Int)==0) (by simp) (fun c37=>?_) (fun c37=>?_)
      ·rw[if_pos c37] at hvv6
       refine AR 4 [] (by kernel_rfl) ?_
       refine ko [3,4,90] 2 (by simp;rfl) ?_
       refine AR 3 [] (by kernel_rfl) ?_
       refine ko [3,4,94] 1 (by simp;rfl) ?_
       refine tpN ?_
       cases hvv6
       exact⟨_,rfl,wk (by simp[wkI])⟩
      ·rw[if_neg (by rw[c37];decide)] at hvv6
       refine ko [3,4,84,85,86] 2 (by simp;rfl) ?_
       replace hvv6:=bnd hvv6;obtain⟨y17,hy17,hvv6⟩:=hvv6
       refine AM [3,4,84,87] [] (IR hy17) rfl rfl rfl Tryz.call19 (by simp) (by simp;rfl) ?_
       refine ko [3,4,90] 3 (by simp;rfl) ?_
       refine AG 90 (!y17) (by simp) (fun c38=>?_) (fun c38=>?_)
       ·rw[if_pos c38] at hvv6
        refine AR 3 [] (by kernel_rfl) ?_
        refine ko [3,4,94] 1 (by simp;rfl) ?_
        refine tpN ?_
        cases hvv6
        exact⟨_,rfl,wk (by simp[wkI])⟩
       ·rw[if_neg (by rw[c38];decide)] at hvv6
        refine ko [3,4,90,91] 1 (by simp;rfl) ?_
        replace hvv6:=bnd hvv6;obtain⟨y18,hy18,hvv6⟩:=hvv6
        refine AM [3,4,90,92] [] (Et hy18) rfl rfl rfl Tryz.call20 (by simp) (by simp;rfl) ?_
        refine ko [3,4,94] 2 (by simp;rfl) ?_
        refine tpN ?_
        cases hvv6
        exact⟨_,rfl,wk (by simp[wkI])⟩
   ·refine trb (Ai (fun s19:Int×Bool×(List Int)×(List AC)×(List Int)=>({ nt:=128,env:=[(3,.ptr 24 0),(4,.ptr 4 0),(6,.d (.int .i64 s19.1))],box:=[(4,[.d (.bool s19.2.1),.d (.slice (AB (AH .i64) s19.2.2.1)),.d (.slice (AB AE s19.2.2.2.1)),.d (.slice (AB (AH .i64) s19.2.2.2.2))]),(24,[.d (.slice (AB (AH .i64) y2.2.L)),.d (.int .i64 y2.2.at_)])],vec:=[]}:St)) hI1 (wk (by simp[wkI])) fun G2 s19 o2 h2 hg2 he2=>?_)
    unfold top_TopDead_l0 at h2
    refine trq ?_
    refine kr [3,4,6,37] (by simp;rfl) ?_
    refine trc (b:=(decide (s19.1 < 2))) (by simp) (fun c39=>?_) (fun c39=>?_)
    ·rw[if_pos c39] at h2
     refine trk ?_
     refine trq ?_
     refine trb ?_
     refine kc ?_
     refine ko [3,4,6,41] 1 (by simp;rfl) ?_
     replace h2:=bnd h2;obtain⟨y20,hy20,h2⟩:=h2
     refine AM [3,4,6,42] [] (G5 hy20) rfl rfl rfl Tryz.call16 (by simp) (by simp;rfl) ?_
     refine ko [3,4,6,7,8] 5 (by simp;rfl) ?_
     refine tpN ?_
     refine trq ?_
     replace h2:=bnd h2;obtain⟨v21,hvv21,h2⟩:=h2
     refine sjv (fun v21_:Bool=>({ nt:=128,env:=[(3,.ptr 24 0),(4,.ptr 4 0),(6,.d (.int .i64 s19.1)),(7,.d (.slice (AB Aa y20.1))),(52,.d (.bool v21_))],box:=[(4,[.d (.bool s19.2.1),.d (.slice (AB (AH .i64) s19.2.2.1)),.d (.slice (AB AE s19.2.2.2.1)),.d (.slice (AB (AH .i64) s19.2.2.2.2))]),(24,[.d (.slice (AB (AH .i64) y2.2.L)),.d (.int .i64 y2.2.at_)])],vec:=[]}:St)) (fun v21_=>v21=v21_) (fun v21_ e=>?_) ?_
     ·subst e
      refine trc (b:=v21) (by simp) (fun c42=>?_) (fun c42=>?_)
      ·rw[if_pos c42] at h2
       refine kr [2] (by simp;rfl) ?_
       have k1:=he2 _ (Option.some.inj h2)
       subst k1
       dsimp only at h0
       cases h0
       exact trr ⟨[],by simp,rfl,by simp⟩
      ·rw[if_neg (by rw[c42];decide)] at h2
       refine trk ?_
       refine kc ?_
       refine ko [3,4,6,53,54] 2 (by simp;rfl) ?_
       replace h2:=bnd h2;obtain⟨y22,hy22,h2⟩:=h2
       refine AM [3,4,6,55] [] (ER hy22) rfl rfl rfl Tryz.call18 (by simp) (by simp;rfl) ?_
       refine ko [3,4,6,55,56,57] 2 (by simp;rfl) ?_
       refine tpN ?_
       replace h2:=bnd h2;obtain⟨e3,hI3,h2⟩:=h2
       refine tjv (fun v23:Bool×(List Int)×(List AC)×(List Int)=>({ nt:=128,env:=[(3,.ptr 24 0),(4,.ptr 4 0),(6,.d (.int .i64 s19.1))],box:=[(4,[.d (.bool v23.1),.d (.slice (AB (AH .i64) v23.2.1)),.d (.slice (AB AE v23.2.2.1)),.d (.slice (AB (AH .i64) v23.2.2.2))]),(24,[.d (.slice (AB (AH .i64) y2.2.L)),.d (.int .i64 y2.2.at_)])],vec:=[]}:St)) (fun v23=>.inl v23=e3) (fun v23 hI3e _ W3=>?_) ?_
       ·subst hI3e
        dsimp only at h2
        refine Al W3 ?_
        refine lr (by simp;rfl) ?_
        exact⟨_,hg2 _ (Option.some.inj h2),wk (by simp[wkI])⟩
       ·refine trb (Ai (fun s24:Int×Bool×(List Int)×(List AC)×(List Int)=>({ nt:=128,env:=[(3,.ptr 24 0),(4,.ptr 4 0),(6,.d (.int .i64 s19.1)),(55,.d (.slice (AB (AH .i64) y22))),(56,.d (.int .i64 ((y22).length:Int))),(57,.d (.int .i64 s24.1))],box:=[(4,[.d (.bool s24.2.1),.d (.slice (AB (AH .i64) s24.2.2.1)),.d (.slice (AB AE s24.2.2.2.1)),.d (.slice (AB (AH .i64) s24.2.2.2.2))]),(24,[.d (.slice (AB (AH .i64) y2.2.L)),.d (.int .i64 y2.2.at_)])],vec:=[]}:St)) hI3 (wk (by simp[wkI])) fun G3 s24 o3 h3 hg3 he3=>?_)
        unfold top_TopDead_l2 at h3
        refine kr [3,4,6,55,56,57,58] (by simp;rfl) ?_
        refine trq ?_
        refine trc (b:=(decide (s24.1 < ((y22).length:Int)))) (by simp) (fun c47=>?_) (fun c47=>?_)
        ·rw[if_pos c47] at h3
         refine trk ?_
         refine trq ?_
         refine trb ?_
         replace h3:=bnd h3;obtain⟨x25,p7,h3⟩:=h3
         replace p7:=AT p7
         have p7':=p7;try simp at p7'
         refine kr [3,4,6,10,55,56,57] (by simp[p7,p7'];rfl) ?_
         refine kc ?_
         refine ko [3,4,6,55,56,57,62,64] 3 (by simp;rfl) ?_
         replace h3:=bnd h3;obtain⟨y26,hy26,h3⟩:=h3
         refine AM [3,4,6,55,56,57,65] [] (Cz hy26) rfl rfl rfl Tryz.call15 (by simp) (by simp;rfl) ?_
         refine ko [3,4,5,6,55,56,57] 5 (by simp;rfl) ?_
         refine tpN ?_
         refine kr [3,4,6,55,56,57,69] (by simp;rfl) ?_
         refine trc (b:=(y26.2 != 0)) (by simp) (fun c48=>?_) (fun c48=>?_)
         ·rw[if_pos c48] at h3
          refine kr [2] (by simp;rfl) ?_
          have k2:=he3 _ (Option.some.inj h3)
          subst k2
          dsimp only at h2
          have k1:=he2 _ (Option.some.inj h2)
          subst k1
          dsimp only at h0
          cases h0
          exact trr ⟨[],by simp,rfl,by simp⟩
         ·rw[if_neg (by rw[c48];decide)] at h3
          refine trk ?_
          refine lr (by simp;rfl) ?_
          exact⟨_,hg3 _ (Option.some.inj h3),wk (by simp[wkI])⟩
        ·rw[if_neg (by rw[c47];decide)] at h3
         refine Af ?_
         exact⟨_,he3 _ (Option.some.inj h3),wk (by simp[wkI])⟩
     ·refine kc1 ?_
      refine ko [3,4,6,7,47] 3 (by simp;rfl) ?_
      refine AG 47 (y20.2 != 0) (by simp) (fun c49=>?_) (fun c49=>?_)
      ·rw[if_pos c49] at hvv21
       refine AR 4 [] (by kernel_rfl) ?_
       refine ko [3,4,6,7,52] 1 (by simp;rfl) ?_
       refine tpN ?_
       cases hvv21
       exact⟨_,rfl,wk (by simp[wkI])⟩
      ·rw[if_neg (by rw[c49];decide)] at hvv21
       refine ko [3,4,6,7,47,48,49] 2 (by simp;rfl) ?_
       replace hvv21:=bnd hvv21;obtain⟨y29,hy29,hvv21⟩:=hvv21
       refine AM [3,4,6,7,47,48,49,50] [] (J1 hy29) rfl rfl rfl Tryz.call17 (by simp) (by simp;rfl) ?_
       refine ko [3,4,6,7,48,49,50,51,52] 2 (by simp;rfl) ?_
       refine tpN ?_
       cases hvv21
       exact⟨_,rfl,wk (by simp[wkI])⟩
    ·rw[if_neg (by rw[c39];decide)] at h2
     refine Af ?_
     exact⟨_,he2 _ (Option.some.inj h2),wk (by simp[wkI])⟩
end Go.Vl
