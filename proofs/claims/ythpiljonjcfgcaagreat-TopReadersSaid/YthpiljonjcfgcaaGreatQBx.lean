/- Plain functions that mirror functions of the given program. Conditions: none. -/
import Derived.Test.YthpiljonjcfgcaaGreatQAx
import Derived.Test.YthpiljonjcfgcaaGreatQwx
import Derived.Test.YthpiljonjcfgcaaGreatVmLz
import Derived.Test.YthpiljonjcfgcaaGreatQq
import Derived.Test.YthpiljonjcfgcaaGreatTyQ
set_option maxHeartbeats 1000000
set_option linter.unusedSimpArgs false
set_option linter.unusedVariables false
namespace Go.Vl
open Go
noncomputable def zT_Next (a0:zT) (a1:Int):Option (Int×zT):=
 if(decide (((a0.L).length:Int)≤a0.at_))=true then
  some (0,a0)
 else
 (idx a0.L a0.at_).bind fun x1=>
 (ck (a1≠0)).bind fun _=>
 some (((bAnd .i64 x1 65535)).tmod a1,(⟨a0.L,IntKind.i64.wrap (a0.at_+1)⟩:zT))
noncomputable def zT_Between (a0:zT) (a1:Int) (a2:Int):Option (Int×zT):=
 (zT_Next a0 (IntKind.i64.wrap ((IntKind.i64.wrap (a2 - a1))+1))).bind fun y1=>
 some (IntKind.i64.wrap (a1+y1.1),y1.2)
noncomputable def mYPick (a0:zT) (a1:List Int):Option (Int×zT):=
 (zT_Next a0 ((a1).length:Int)).bind fun y1=>
 (idx a1 y1.1).bind fun x2=>
 some (x2,y1.2)
noncomputable def mYClock_l0 (a1:Int) (s3:Int×Int×(List Int)×Int×(List Int)):Option (Lp (Int×Int×(List Int)×Int×(List Int)) ((List Int)×Int×(List Int))):=
 if(decide (s3.2.1 < a1))=true then
  (zT_Next (⟨s3.2.2.1,s3.2.2.2.1⟩:zT) 3).bind fun y4=>
  (ck ((s3.2.2.2.2).length+([IntKind.i64.wrap (s3.1+y4.1)]).length≤268435456)).bind fun _=>
  some (.go (IntKind.i64.wrap (s3.1+y4.1),IntKind.i64.wrap (s3.2.1+1),y4.2.L,y4.2.at_,(s3.2.2.2.2++[IntKind.i64.wrap (s3.1+y4.1)])))
 else
  some (.out (s3.2.2.1,s3.2.2.2.1,s3.2.2.2.2))
noncomputable def mYClock (a0:zT) (a1:Int):Option ((List Int)×zT):=
 (zT_Next a0 4).bind fun y1=>
 (iter (mYClock_l0 a1) (y1.1,0,y1.2.L,y1.2.at_,[])).bind fun v2=>
 some (v2.2.2,(⟨v2.1,v2.2.1⟩:zT))
noncomputable def mYDirectory_j3 (y10:Int×zT) (x12:Int) (s8:Int×(List Int)×Int×(List api_Member)) (x9:Int) (v13:(List Int)×Int×Int):Option (Lp (Int×(List Int)×Int×(List api_Member)) ((List Int)×Int×(List api_Member))):=
 if(y10.1 != x12)=true then
  (ck ((s8.2.2.2).length+([(⟨x9,v13.2.2,y10.1,x12⟩:api_Member)]).length≤268435456)).bind fun _=>
  some (.go (IntKind.i64.wrap (s8.1+1),v13.1,v13.2.1,(s8.2.2.2++[(⟨x9,v13.2.2,y10.1,x12⟩:api_Member)])))
 else
  some (.go (IntKind.i64.wrap (s8.1+1),v13.1,v13.2.1,s8.2.2.2))
noncomputable def mYDirectory_l2 (y6:(List Int)×zT) (v3:(List Int)×Int×(List Int)) (v4:(List Int)) (s8:Int×(List Int)×Int×(List api_Member)):Option (Lp (Int×(List Int)×Int×(List api_Member)) ((List Int)×Int×(List api_Member))):=
 if(decide (s8.1 < ((y6.1).length:Int)))=true then
  (idx y6.1 s8.1).bind fun x9=>
  (zT_Next (⟨s8.2.1,s8.2.2.1⟩:zT) ((v3.2.2).length:Int)).bind fun y10=>
  (zT_Next y10.2 ((v4).length:Int)).bind fun y11=>
  (ck (0≤y11.1∧(Int.toNat y11.1) < (v4).length)).bind fun _=>
  (idx v4 y11.1).bind fun x12=>
  (zT_Next y11.2 4).bind fun y14=>
  if(y14.1==3)=true then
   mYDirectory_j3 y10 x12 s8 x9 (y14.2.L,y14.2.at_,2)
  else
   mYDirectory_j3 y10 x12 s8 x9 (y14.2.L,y14.2.at_,1)
 else
  some (.out (s8.2.1,s8.2.2.1,s8.2.2.2))
noncomputable def mYDirectory_l1 (v3:(List Int)×Int×(List Int)) (s15:Int×(List Int)):Option (Lp (Int×(List Int)) (List Int)):=
 if(decide (s15.1 < ((v3.2.2).length:Int)))=true then
  (ck (0≤s15.1∧(Int.toNat s15.1) < (v3.2.2).length)).bind fun _=>
  (idx v3.2.2 s15.1).bind fun x16=>
  if(x16==2)=true then
   (ck ((s15.2).length+([s15.1]).length≤268435456)).bind fun _=>
   some (.go (IntKind.i64.wrap (s15.1+1),(s15.2++[s15.1])))
  else
   some (.go (IntKind.i64.wrap (s15.1+1),s15.2))
 else
  some (.out s15.2)
noncomputable def mYDirectory_l0 (s17:Int×(List Int)×Int×(List Int)):Option (Lp (Int×(List Int)×Int×(List Int)) ((List Int)×Int×(List Int))):=
 if(decide (0 < s17.1))=true then
  (mYPick (⟨s17.2.1,s17.2.2.1⟩:zT) [2,2,1,3]).bind fun y18=>
  (ck ((s17.2.2.2).length+([y18.1]).length≤268435456)).bind fun _=>
  some (.go (IntKind.i64.wrap (s17.1 - 1),y18.2.L,y18.2.at_,(s17.2.2.2++[y18.1])))
 else
  some (.out (s17.2.1,s17.2.2.1,s17.2.2.2))
noncomputable def mYDirectory (a0:zT):Option (api_Directory×zT):=
 (zT_Between a0 2 6).bind fun y1=>
 (some ([1]:List Int)).bind fun l2=>
 (iter (mYDirectory_l0) (y1.1,y1.2.L,y1.2.at_,l2)).bind fun v3=>
 (iter (mYDirectory_l1 v3) (0,[])).bind fun v4=>
 if(((v4).length:Int)==0)=true then
  some ((⟨v3.2.2,[]⟩:api_Directory),(⟨v3.1,v3.2.1⟩:zT))
 else
 (zT_Next (⟨v3.1,v3.2.1⟩:zT) 12).bind fun y5=>
 (mYClock y5.2 y5.1).bind fun y6=>
 (iter (mYDirectory_l2 y6 v3 v4) (0,y6.2.L,y6.2.at_,[])).bind fun v7=>
 some ((⟨v3.2.2,v7.2.2⟩:api_Directory),(⟨v7.1,v7.2.1⟩:zT))
noncomputable def mYEstate_j1 (s5:Int×(List Int)×Int×(List api_Access)) (x6:Int) (y7:Int×zT) (y8:Int×zT) (v9:(List Int)×Int×Int×Int×Int×Int):Option (Lp (Int×(List Int)×Int×(List api_Access)) ((List Int)×Int×(List api_Access))):=
 (ck ((s5.2.2.2).length+([(⟨x6,y7.1,y8.1,v9.2.2.1,v9.2.2.2.1,v9.2.2.2.2.1,v9.2.2.2.2.2⟩:api_Access)]).length≤268435456)).bind fun _=>
 some (.go (IntKind.i64.wrap (s5.1+1),v9.1,v9.2.1,(s5.2.2.2++[(⟨x6,y7.1,y8.1,v9.2.2.1,v9.2.2.2.1,v9.2.2.2.2.1,v9.2.2.2.2.2⟩:api_Access)])))
noncomputable def mYEstate_j3 (y8:Int×zT) (s5:Int×(List Int)×Int×(List api_Access)) (x6:Int) (y7:Int×zT) (y1:Int×zT) (v13:Bool):Option (Lp (Int×(List Int)×Int×(List api_Access)) ((List Int)×Int×(List api_Access))):=
 if v13=true then
  (zT_Next y8.2 3).bind fun y14=>
  mYEstate_j1 s5 x6 y7 y8 (y14.2.L,y14.2.at_,0,0,y14.1,0)
 else
 if(y7.1==7)=true then
  (zT_Next y8.2 y1.1).bind fun y15=>
  if(y15.1==y8.1)=true then
   some (.go (IntKind.i64.wrap (s5.1+1),y15.2.L,y15.2.at_,s5.2.2.2))
  else
   mYEstate_j1 s5 x6 y7 y8 (y15.2.L,y15.2.at_,0,0,0,y15.1)
 else
  mYEstate_j1 s5 x6 y7 y8 (y8.2.L,y8.2.at_,0,0,0,0)
noncomputable def mYEstate_j2 (y8:Int×zT) (a1:api_Directory) (s5:Int×(List Int)×Int×(List api_Access)) (x6:Int) (y7:Int×zT) (y1:Int×zT) (v10:Bool):Option (Lp (Int×(List Int)×Int×(List api_Access)) ((List Int)×Int×(List api_Access))):=
 if v10=true then
  (zT_Next y8.2 (IntKind.i64.wrap (((a1.Kinds).length:Int)+1))).bind fun y11=>
  mYEstate_j1 s5 x6 y7 y8 (y11.2.L,y11.2.at_,y11.1,0,0,0)
 else
 if(y7.1==3)=true then
  (zT_Next y8.2 5).bind fun y12=>
  mYEstate_j1 s5 x6 y7 y8 (y12.2.L,y12.2.at_,0,IntKind.i64.wrap ((IntKind.i64.wrap (x6+1))+y12.1),0,0)
 else
 if(y7.1==5)=true then
  mYEstate_j3 y8 s5 x6 y7 y1 (y7.1==5)
 else
  mYEstate_j3 y8 s5 x6 y7 y1 (y7.1==6)
noncomputable def mYEstate_l0 (y3:(List Int)×zT) (y1:Int×zT) (a1:api_Directory) (s5:Int×(List Int)×Int×(List api_Access)):Option (Lp (Int×(List Int)×Int×(List api_Access)) ((List Int)×Int×(List api_Access))):=
 if(decide (s5.1 < ((y3.1).length:Int)))=true then
  (idx y3.1 s5.1).bind fun x6=>
  (mYPick (⟨s5.2.1,s5.2.2.1⟩:zT) [1,1,2,3,4,5,5,6,7,7]).bind fun y7=>
  (zT_Next y7.2 y1.1).bind fun y8=>
  if(y7.1==1)=true then
   mYEstate_j2 y8 a1 s5 x6 y7 y1 (y7.1==1)
  else
   mYEstate_j2 y8 a1 s5 x6 y7 y1 (y7.1==2)
 else
  some (.out (s5.2.1,s5.2.2.1,s5.2.2.2))
noncomputable def mYEstate (a0:zT) (a1:api_Directory):Option (api_Estate×zT):=
 (zT_Between a0 1 4).bind fun y1=>
 (zT_Next y1.2 16).bind fun y2=>
 (mYClock y2.2 y2.1).bind fun y3=>
 (iter (mYEstate_l0 y3 y1 a1) (0,y3.2.L,y3.2.at_,[])).bind fun v4=>
 some ((⟨y1.1,v4.2.2⟩:api_Estate),(⟨v4.1,v4.2.1⟩:zT))
noncomputable def ref23_in (a0:Int) (a1:Int) (a2:Int):Option (Bool):=
 (some ((decide (a1≤a0))&&(decide (a0≤a2)))).bind fun v1=>
 some v1
noncomputable def ref23_Exists (a0:api_Directory) (a1:Int):Option (Bool):=
 (ref23_in a1 0 (IntKind.i64.wrap (((a0.Kinds).length:Int) - 1))).bind fun y1=>
 some y1
noncomputable def ref23_Reader (a0:api_Directory) (a1:Int):Option (Bool):=
 Option.bind (
  (ref23_Exists a0 a1).bind fun y2=>
  if y2=true then
   (idx a0.Kinds a1).bind fun x3=>
   some (x3 != 2)
  else
   some false) fun v1=>
 some v1
noncomputable def directory_Ascending_l0 (a0:List Int) (s2:Int):Option (Lp Int (Unit ⊕ Bool)):=
 if(decide (s2 < ((a0).length:Int)))=true then
  (idx a0 (IntKind.i64.wrap (s2 - 1))).bind fun x3=>
  (idx a0 s2).bind fun x4=>
  if(decide (x4≤x3))=true then
   some (.out (.inr false))
  else
   some (.go (IntKind.i64.wrap (s2+1)))
 else
  some (.out (.inl ()))
noncomputable def directory_Ascending (a0:List Int):Option (Bool):=
 (iter (directory_Ascending_l0 a0) 1).bind fun q6=>
 match q6 with
 | .inl v1=>
  some true
 | .inr r5=>
  some r5
noncomputable def copies_removed_1_cbbb (a0:api_Access) (a1:Int) (a2:Int) (a3:Int):Option (Bool×Int×Int×Int):=
 (some ((a0.Kind==6)&&((a0.Content==a1)&&((a0.Place==a2)&&(decide (a0.Time≤a3)))))).bind fun v1=>
 some (v1,a1,a2,a3)
noncomputable def sYIndexFunc_api_Access_at_copies_removed_1_bbb_l0 (a0:List api_Access) (s2:Int×Int×Int×Int):Option (Lp (Int×Int×Int×Int) ((Int×Int×Int) ⊕ (Int×Int×Int×Int))):=
 if(decide (s2.1 < ((a0).length:Int)))=true then
  (idx a0 s2.1).bind fun x3=>
  (copies_removed_1_cbbb x3 s2.2.1 s2.2.2.1 s2.2.2.2).bind fun y4=>
  if y4.1=true then
   some (.out (.inr (s2.1,y4.2.1,y4.2.2.1,y4.2.2.2)))
  else
   some (.go (IntKind.i64.wrap (s2.1+1),y4.2.1,y4.2.2.1,y4.2.2.2))
 else
  some (.out (.inl (s2.2.1,s2.2.2.1,s2.2.2.2)))
noncomputable def sYIndexFunc_api_Access_at_copies_removed_1_bbb (a0:List api_Access) (b10:Int) (b11:Int) (b12:Int):Option (Int×Int×Int×Int):=
 (iter (sYIndexFunc_api_Access_at_copies_removed_1_bbb_l0 a0) (0,b10,b11,b12)).bind fun q6=>
 match q6 with
 | .inl v1=>
  some ((-1),v1.1,v1.2.1,v1.2.2)
 | .inr r5=>
  some r5
noncomputable def sYContainsFunc_api_Access_at_copies_removed_1_bbb (a0:List api_Access) (b10:Int) (b11:Int) (b12:Int):Option (Bool×Int×Int×Int):=
 (sYIndexFunc_api_Access_at_copies_removed_1_bbb a0 b10 b11 b12).bind fun y1=>
 some ((decide (0≤y1.1)),y1.2.1,y1.2.2.1,y1.2.2.2)
noncomputable def copies_removed (a0:List api_Access) (a1:Int) (a2:Int) (a3:Int):Option (Bool):=
 (sYContainsFunc_api_Access_at_copies_removed_1_bbb a0 a1 a2 a3).bind fun y1=>
 some y1.1
noncomputable def copies_Proves_j1 (s6:Int) (x8:api_Access) (a1:Int) (a4:List Int) (a0:api_Estate) (a3:Int) (x7:Int) (v9:Int):Option (Lp Int (Unit ⊕ Bool)):=
 (some ((s6==0)&&((x8.Kind==5)&&(x8.Content==a1)))).bind fun v10=>
 Option.bind (
  if(decide (0 < s6))=true then
   if(x8.Kind==7)=true then
    (idx a4 (IntKind.i64.wrap (s6 - 1))).bind fun x15=>
    (idx a0.Events x15).bind fun x16=>
    some (x8.From==x16.Place)
   else
    some false
  else
   some false) fun v11=>
 Option.bind (
  if(!v10)=true then
   if(!v11)=true then
    some true
   else
   if(decide (a3 < x8.Time))=true then
    some true
   else
   (ck (0≤IntKind.i64.wrap (x7+1)∧IntKind.i64.wrap (x7+1)≤v9∧v9≤((a0.Events).length:Int))).bind fun _=>
   (copies_removed ((((a0.Events).take (Int.toNat v9))).drop (Int.toNat (IntKind.i64.wrap (x7+1)))) a1 x8.Place a3).bind fun y13=>
   some y13
  else
  if(decide (a3 < x8.Time))=true then
   some true
  else
  (ck (0≤IntKind.i64.wrap (x7+1)∧IntKind.i64.wrap (x7+1)≤v9∧v9≤((a0.Events).length:Int))).bind fun _=>
  (copies_removed ((((a0.Events).take (Int.toNat v9))).drop (Int.toNat (IntKind.i64.wrap (x7+1)))) a1 x8.Place a3).bind fun y14=>
  some y14) fun v12=>
 if v12=true then
  some (.out (.inr false))
 else
  some (.go (IntKind.i64.wrap (s6+1)))
noncomputable def copies_Proves_l0 (a4:List Int) (a0:api_Estate) (a1:Int) (a3:Int) (s6:Int):Option (Lp Int (Unit ⊕ Bool)):=
 if(decide (s6 < ((a4).length:Int)))=true then
  (idx a4 s6).bind fun x7=>
  (idx a0.Events x7).bind fun x8=>
  if(decide ((IntKind.i64.wrap (s6+1)) < ((a4).length:Int)))=true then
   (idx a4 (IntKind.i64.wrap (s6+1))).bind fun x17=>
   copies_Proves_j1 s6 x8 a1 a4 a0 a3 x7 x17
  else
   copies_Proves_j1 s6 x8 a1 a4 a0 a3 x7 ((a0.Events).length:Int)
 else
  some (.out (.inl ()))
noncomputable def copies_Proves (a0:api_Estate) (a1:Int) (a2:Int) (a3:Int) (a4:List Int):Option (Bool):=
 Option.bind (
  (access_Check a0).bind fun y22=>
  if(y22 != 0)=true then
   some true
  else
  (access_Content a1).bind fun y23=>
  if(!y23)=true then
   some true
  else
  (access_Place a0 a2).bind fun y24=>
  if(!y24)=true then
   some true
  else
  if(((a4).length:Int)==0)=true then
   some true
  else
  (directory_Ascending a4).bind fun y25=>
  some (!y25)) fun v1=>
 if v1=true then
  some false
 else
 Option.bind (
  (idx a4 0).bind fun x20=>
  if(decide (x20 < 0))=true then
   some true
  else
  (idx a4 (IntKind.i64.wrap (((a4).length:Int) - 1))).bind fun x21=>
  some (decide (((a0.Events).length:Int)≤x21))) fun v2=>
 if v2=true then
  some false
 else
 (iter (copies_Proves_l0 a4 a0 a1 a3) 0).bind fun q19=>
 match q19 with
 | .inl v3=>
  (idx a4 (IntKind.i64.wrap (((a4).length:Int) - 1))).bind fun x4=>
  (idx a0.Events x4).bind fun x5=>
  some (x5.Place==a2)
 | .inr r18=>
  some r18
noncomputable def access_Grant (a0:api_Estate) (a1:Int) (a2:Int) (a3:Int):Option (Int×Bool):=
 (access_known a0 a1).bind fun y1=>
 if(!y1)=true then
  some (0,false)
 else
 (access_grants a0 a1 a3).bind fun y2=>
 some (((mget inE y2 a2).getD 0),(mget inE y2 a2).isSome)
noncomputable def readers_Why (a0:api_Directory) (a1:api_Estate) (a2:Int) (a3:Int) (a4:Int):Option (api_Reading×Bool):=
 (readers_May a0 a1 a2 a3 a4).bind fun y1=>
 if(!y1)=true then
  some ((⟨0,0,0,0,[]⟩:api_Reading),false)
 else
 (access_Linked a1 a3 a4).bind fun y2=>
 if y2.2=true then
  some ((⟨a3,a4,y2.1,(-1),[]⟩:api_Reading),true)
 else
 (readers_grant a0 a1 a2 a3 a4).bind fun y3=>
 (access_Grant a1 a3 y3.1 a4).bind fun y4=>
 if(y3.1 != a2)=true then
  (directory_Why a0 a2 y3.1 a4).bind fun y5=>
  some ((⟨a3,a4,(-1),y4.1,y5.1⟩:api_Reading),true)
 else
  some ((⟨a3,a4,(-1),y4.1,[a2]⟩:api_Reading),true)
noncomputable def directory_Closed_1_cb (a0:Int) (a1:api_Directory):Option (Bool×api_Directory):=
 (directory_exists a1 a0).bind fun y1=>
 some ((!y1),a1)
noncomputable def sYIndexFunc_int_at_directory_Closed_1_b_l0 (a0:List Int) (s2:Int×(List Int)×(List api_Member)):Option (Lp (Int×(List Int)×(List api_Member)) (((List Int)×(List api_Member)) ⊕ (Int×api_Directory))):=
 if(decide (s2.1 < ((a0).length:Int)))=true then
  (idx a0 s2.1).bind fun x3=>
  (directory_Closed_1_cb x3 (⟨s2.2.1,s2.2.2⟩:api_Directory)).bind fun y4=>
  if y4.1=true then
   some (.out (.inr (s2.1,y4.2)))
  else
   some (.go (IntKind.i64.wrap (s2.1+1),y4.2.Kinds,y4.2.Events))
 else
  some (.out (.inl (s2.2.1,s2.2.2)))
noncomputable def sYIndexFunc_int_at_directory_Closed_1_b (a0:List Int) (b10:api_Directory):Option (Int×api_Directory):=
 (iter (sYIndexFunc_int_at_directory_Closed_1_b_l0 a0) (0,b10.Kinds,b10.Events)).bind fun q6=>
 match q6 with
 | .inl v1=>
  some ((-1),(⟨v1.1,v1.2⟩:api_Directory))
 | .inr r5=>
  some r5
noncomputable def sYContainsFunc_int_at_directory_Closed_1_b (a0:List Int) (b10:api_Directory):Option (Bool×api_Directory):=
 (sYIndexFunc_int_at_directory_Closed_1_b a0 b10).bind fun y1=>
 some ((decide (0≤y1.1)),y1.2)
noncomputable def directory_Closed_l1 (y7:(List Int)) (a2:List Int) (s9:Int):Option (Lp Int (Unit ⊕ Bool)):=
 if(decide (s9 < ((y7).length:Int)))=true then
  (idx y7 s9).bind fun x10=>
  (sYContains_int a2 x10).bind fun y11=>
  if(!y11)=true then
   some (.out (.inr false))
  else
   some (.go (IntKind.i64.wrap (s9+1)))
 else
  some (.out (.inl ()))
noncomputable def directory_Closed_l0 (a2:List Int) (y2:(List (List Bool))) (s4:Int):Option (Lp Int (Unit ⊕ Bool)):=
 if(decide (s4 < ((a2).length:Int)))=true then
  (idx a2 s4).bind fun x5=>
  (idx y2 x5).bind fun x6=>
  (directory_those x6).bind fun y7=>
  (iter (directory_Closed_l1 y7 a2) 0).bind fun q13=>
  match q13 with
  | .inl v8=>
   some (.go (IntKind.i64.wrap (s4+1)))
  | .inr r12=>
   some (.out (.inr r12))
 else
  some (.out (.inl ()))
noncomputable def directory_Closed (a0:api_Directory) (a1:Int) (a2:List Int):Option (Bool):=
 Option.bind (
  (directory_Check a0).bind fun y16=>
  if(y16 != 0)=true then
   some (true,a0.Kinds,a0.Events)
  else
  (directory_Ascending a2).bind fun y17=>
  if(!y17)=true then
   some (true,a0.Kinds,a0.Events)
  else
  (sYContainsFunc_int_at_directory_Closed_1_b a2 a0).bind fun y18=>
  some (y18.1,y18.2.Kinds,y18.2.Events)) fun v1=>
 if v1.1=true then
  some false
 else
 (directory_at (⟨v1.2.1,v1.2.2⟩:api_Directory) a1).bind fun y2=>
 (iter (directory_Closed_l0 a2 y2) 0).bind fun q15=>
 match q15 with
 | .inl v3=>
  some true
 | .inr r14=>
  some r14
noncomputable def readers_Refutes_1_cb (a0:Int) (a1:List Int):Option (Bool×(List Int)):=
 (sYContains_int a1 a0).bind fun y1=>
 some (y1,a1)
noncomputable def sYIndexFunc_int_at_readers_Refutes_1_b_l0 (a0:List Int) (s2:Int×(List Int)):Option (Lp (Int×(List Int)) ((List Int) ⊕ (Int×(List Int)))):=
 if(decide (s2.1 < ((a0).length:Int)))=true then
  (idx a0 s2.1).bind fun x3=>
  (readers_Refutes_1_cb x3 s2.2).bind fun y4=>
  if y4.1=true then
   some (.out (.inr (s2.1,y4.2)))
  else
   some (.go (IntKind.i64.wrap (s2.1+1),y4.2))
 else
  some (.out (.inl s2.2))
noncomputable def sYIndexFunc_int_at_readers_Refutes_1_b (a0:List Int) (b10:List Int):Option (Int×(List Int)):=
 (iter (sYIndexFunc_int_at_readers_Refutes_1_b_l0 a0) (0,b10)).bind fun q6=>
 match q6 with
 | .inl v1=>
  some ((-1),v1)
 | .inr r5=>
  some r5
noncomputable def sYContainsFunc_int_at_readers_Refutes_1_b (a0:List Int) (b10:List Int):Option (Bool×(List Int)):=
 (sYIndexFunc_int_at_readers_Refutes_1_b a0 b10).bind fun y1=>
 some ((decide (0≤y1.1)),y1.2)
noncomputable def readers_Refutes (a0:api_Directory) (a1:api_Estate) (a2:Int) (a3:Int) (a4:Int) (a5:List Int):Option (Bool):=
 Option.bind (
  (readers_fine a0 a1 a2 a3).bind fun y6=>
  if(!y6)=true then
   some true
  else
  (directory_Closed a0 a4 a5).bind fun y7=>
  if(!y7)=true then
   some true
  else
  (sYContains_int a5 a2).bind fun y8=>
  some (!y8)) fun v1=>
 if v1=true then
  some false
 else
 (access_Linked a1 a3 a4).bind fun y2=>
 Option.bind (
  if(!y2.2)=true then
   (access_Granted a1 a3 a4).bind fun y4=>
   (sYContainsFunc_int_at_readers_Refutes_1_b y4 a5).bind fun y5=>
   some (!y5.1)
  else
   some false) fun v3=>
 some v3
noncomputable def readers_Link_1_cbb (a0:api_Access) (a1:Int) (a2:Int):Option (Bool×Int×Int):=
 (some ((a0.Kind==4)&&((a0.Place==a1)&&(decide (a0.Time≤a2))))).bind fun v1=>
 some (v1,a1,a2)
noncomputable def sYIndexFunc_api_Access_at_readers_Link_1_bb_l0 (a0:List api_Access) (s2:Int×Int×Int):Option (Lp (Int×Int×Int) ((Int×Int) ⊕ (Int×Int×Int))):=
 if(decide (s2.1 < ((a0).length:Int)))=true then
  (idx a0 s2.1).bind fun x3=>
  (readers_Link_1_cbb x3 s2.2.1 s2.2.2).bind fun y4=>
  if y4.1=true then
   some (.out (.inr (s2.1,y4.2.1,y4.2.2)))
  else
   some (.go (IntKind.i64.wrap (s2.1+1),y4.2.1,y4.2.2))
 else
  some (.out (.inl (s2.2.1,s2.2.2)))
noncomputable def sYIndexFunc_api_Access_at_readers_Link_1_bb (a0:List api_Access) (b10:Int) (b11:Int):Option (Int×Int×Int):=
 (iter (sYIndexFunc_api_Access_at_readers_Link_1_bb_l0 a0) (0,b10,b11)).bind fun q6=>
 match q6 with
 | .inl v1=>
  some ((-1),v1.1,v1.2)
 | .inr r5=>
  some r5
noncomputable def sYContainsFunc_api_Access_at_readers_Link_1_bb (a0:List api_Access) (b10:Int) (b11:Int):Option (Bool×Int×Int):=
 (sYIndexFunc_api_Access_at_readers_Link_1_bb a0 b10 b11).bind fun y1=>
 some ((decide (0≤y1.1)),y1.2.1,y1.2.2)
noncomputable def readers_Link (a0:api_Estate) (a1:Int) (a2:Int) (a3:Int):Option (Bool):=
 (some ((decide (a3 < 0))||(decide (((a0.Events).length:Int)≤a3)))).bind fun v1=>
 if v1=true then
  some false
 else
 (idx a0.Events a3).bind fun x2=>
 Option.bind (
  if(x2.Kind==3)=true then
   if(x2.Place==a1)=true then
    if(decide (x2.Time≤a2))=true then
     if(decide (a2 < x2.Until))=true then
      (ck (0≤IntKind.i64.wrap (a3+1)∧IntKind.i64.wrap (a3+1)≤((a0.Events).length:Int)∧((a0.Events).length:Int)≤((a0.Events).length:Int))).bind fun _=>
      (sYContainsFunc_api_Access_at_readers_Link_1_bb ((a0.Events).drop (Int.toNat (IntKind.i64.wrap (a3+1)))) a1 a2).bind fun y4=>
      some (!y4.1)
     else
      some false
    else
     some false
   else
    some false
  else
   some false) fun v3=>
 some v3
noncomputable def readers_granted (a0:api_Estate) (a1:Int) (a2:Int) (a3:Int):Option (Int×Bool):=
 (some ((decide (a3 < 0))||(decide (((a0.Events).length:Int)≤a3)))).bind fun v1=>
 if v1=true then
  some (0,false)
 else
 (idx a0.Events a3).bind fun x2=>
 (access_Grant a0 a1 x2.Principal a2).bind fun y3=>
 (some (y3.2&&((x2.Kind==1)&&((x2.Place==a1)&&(decide (x2.Time≤a2)))))).bind fun v4=>
 some (x2.Principal,v4)
noncomputable def directory_Proves_l0 (a2:List Int) (a0:api_Directory) (y2:(List (List Bool))) (s4:Int):Option (Lp Int (Unit ⊕ Bool)):=
 if(decide (s4 < ((a2).length:Int)))=true then
  (idx a2 s4).bind fun x5=>
  Option.bind (
   (directory_exists a0 x5).bind fun y7=>
   if(!y7)=true then
    some true
   else
   (ck (0≤0∧0≤s4∧s4≤((a2).length:Int))).bind fun _=>
   (sYContains_int ((a2).take (Int.toNat s4)) x5).bind fun y8=>
   if y8=true then
    some true
   else
   if(decide (0 < s4))=true then
    (idx a2 (IntKind.i64.wrap (s4 - 1))).bind fun x9=>
    (idx y2 x9).bind fun x10=>
    (idx x10 x5).bind fun x11=>
    some (!x11)
   else
    some false) fun v6=>
  if v6=true then
   some (.out (.inr false))
  else
   some (.go (IntKind.i64.wrap (s4+1)))
 else
  some (.out (.inl ()))
noncomputable def directory_Proves (a0:api_Directory) (a1:Int) (a2:List Int):Option (Bool):=
 Option.bind (
  (directory_Check a0).bind fun y14=>
  if(y14 != 0)=true then
   some true
  else
   some (decide (((a2).length:Int) < 2))) fun v1=>
 if v1=true then
  some false
 else
 (directory_at a0 a1).bind fun y2=>
 (iter (directory_Proves_l0 a2 a0 y2) 0).bind fun q13=>
 match q13 with
 | .inl v3=>
  some true
 | .inr r12=>
  some r12
noncomputable def readers_Proves (a0:api_Directory) (a1:api_Estate) (a2:Int) (a3:api_Reading):Option (Bool):=
 (readers_fine a0 a1 a2 a3.Place).bind fun y1=>
 if(!y1)=true then
  some false
 else
 if(a3.Link != (-1))=true then
  Option.bind (
   if(a3.Grant==(-1))=true then
    if(((a3.Chain).length:Int)==0)=true then
     (readers_Link a1 a3.Place a3.Time a3.Link).bind fun y3=>
     some y3
    else
     some false
   else
    some false) fun v2=>
  some v2
 else
 (readers_granted a1 a3.Place a3.Time a3.Grant).bind fun y4=>
 Option.bind (
  if(!y4.2)=true then
   some true
  else
  if(((a3.Chain).length:Int)==0)=true then
   some true
  else
  (idx a3.Chain 0).bind fun x8=>
  if(x8 != a2)=true then
   some true
  else
  (idx a3.Chain (IntKind.i64.wrap (((a3.Chain).length:Int) - 1))).bind fun x9=>
  some (x9 != y4.1)) fun v5=>
 if v5=true then
  some false
 else
 Option.bind (
  if(((a3.Chain).length:Int)==1)=true then
   some true
  else
  (directory_Proves a0 a3.Time a3.Chain).bind fun y7=>
  some y7) fun v6=>
 some v6
noncomputable def exposure_Proves (a0:api_Directory) (a1:api_Estate) (a2:Int) (a3:api_Exposure) (a4:api_Leak):Option (Bool):=
 Option.bind (
  (exposure_check a0 a1 a2).bind fun y5=>
  if(y5 != 0)=true then
   some true
  else
  if(a4.Reading.Time != a3.Time)=true then
   some true
  else
  if(decide (a3.Time < 0))=true then
   some true
  else
  if(decide (1099511627776 < a3.Time))=true then
   some true
  else
  (copies_Proves a1 a2 a4.Reading.Place a4.Reading.Time a4.Way).bind fun y6=>
  some (!y6)) fun v1=>
 if v1=true then
  some false
 else
 if(a3.Principal != (-1))=true then
  (readers_Proves a0 a1 a3.Principal a4.Reading).bind fun y2=>
  some y2
 else
 Option.bind (
  if(a4.Reading.Grant==(-1))=true then
   if(((a4.Reading.Chain).length:Int)==0)=true then
    (readers_Link a1 a4.Reading.Place a4.Reading.Time a4.Reading.Link).bind fun y4=>
    some y4
   else
    some false
  else
   some false) fun v3=>
 some v3
noncomputable def exposure_Since (a0:api_Directory) (a1:api_Estate) (a2:Int) (a3:Int):Option (Int×Bool):=
 (exposure_check a0 a1 a2).bind fun y1=>
 if(y1 != 0)=true then
  some (0,false)
 else
 (exposure_since a0 a1 a2 a3).bind fun y2=>
 some (y2.1,y2.2)
noncomputable def top_TopReaders_l1 (y14:(List Int)) (y3:api_Estate×zT) (y4:Int×zT) (s13:Int×Int) (y2:api_Directory×zT) (y5:Int×zT) (s17:Bool×Int):Option (Lp (Bool×Int) (Bool ⊕ Bool)):=
 if(decide (s17.2 < ((y14).length:Int)))=true then
  (idx y14 s17.2).bind fun x18=>
  (copies_Way y3.1 y4.1 x18 s13.2).bind fun y19=>
  Option.bind (
   if(!y19.2)=true then
    some true
   else
   (copies_Proves y3.1 y4.1 x18 s13.2 y19.1).bind fun y29=>
   some (!y29)) fun v20=>
  if v20=true then
   some (.out (.inr false))
  else
  (readers_Why y2.1 y3.1 y5.1 x18 s13.2).bind fun y21=>
  (directory_Upward y2.1 y5.1 s13.2).bind fun y22=>
  (readers_Refutes y2.1 y3.1 y5.1 x18 s13.2 y22).bind fun y23=>
  Option.bind (
   if(y21.2==y23)=true then
    some true
   else
   if y21.2=true then
    (readers_Proves y2.1 y3.1 y5.1 y21.1).bind fun y28=>
    some (!y28)
   else
    some false) fun v24=>
  if v24=true then
   some (.out (.inr false))
  else
  Option.bind (
   if y21.2=true then
    (exposure_Proves y2.1 y3.1 y4.1 (⟨y5.1,s13.2⟩:api_Exposure) (⟨y19.1,y21.1⟩:api_Leak)).bind fun y27=>
    some (!y27)
   else
    some false) fun v25=>
  if v25=true then
   some (.out (.inr false))
  else
  (some (s17.1||y21.2)).bind fun v26=>
  some (.go (v26,IntKind.i64.wrap (s17.2+1)))
 else
  some (.out (.inl s17.1))
noncomputable def top_TopReaders_l0 (y3:api_Estate×zT) (y4:Int×zT) (y2:api_Directory×zT) (y5:Int×zT) (s13:Int×Int):Option (Lp (Int×Int) (Int ⊕ Bool)):=
 if(decide (s13.2 < 45))=true then
  (copies_Where y3.1 y4.1 s13.2).bind fun y14=>
  (iter (top_TopReaders_l1 y14 y3 y4 s13 y2 y5) (false,0)).bind fun q31=>
  match q31 with
  | .inl v15=>
   (some (v15&&(decide (s13.1 < 0)))).bind fun v16=>
   if v16=true then
    some (.go (s13.2,IntKind.i64.wrap (s13.2+1)))
   else
    some (.go (s13.1,IntKind.i64.wrap (s13.2+1)))
  | .inr r30=>
   some (.out (.inr r30))
 else
  some (.out (.inl s13.1))
noncomputable def top_TopReaders (a0:List Int):Option (Bool):=
 if(decide (500 < ((a0).length:Int)))=true then
  (top_awake31).bind fun y1=>
  some y1
 else
 (mYDirectory (⟨a0,0⟩:zT)).bind fun y2=>
 (mYEstate y2.2 y2.1).bind fun y3=>
 (zT_Next y3.2 3).bind fun y4=>
 (zT_Next y4.2 ((y2.1.Kinds).length:Int)).bind fun y5=>
 (ref23_Reader y2.1 y5.1).bind fun y6=>
 if(!y6)=true then
  (top_awake31).bind fun y7=>
  some y7
 else
 (iter (top_TopReaders_l0 y3 y4 y2 y5) ((-1),0)).bind fun q33=>
 match q33 with
 | .inl v8=>
  (exposure_Since y2.1 y3.1 y4.1 y5.1).bind fun y9=>
  Option.bind (
   if(y9.2==(decide (0≤v8)))=true then
    if(!y9.2)=true then
     (top_awake31).bind fun y11=>
     some y11
    else
    if(y9.1==v8)=true then
     (top_awake31).bind fun y12=>
     some y12
    else
     some false
   else
    some false) fun v10=>
  some v10
 | .inr r32=>
  some r32
end Go.Vl
namespace Go.Vl
open Go Go.Proofs
theorem zT_Next_ok {a0:zT} {a1:Int} {r:Int×zT} (h0:zT_Next a0 a1=some r):FnOK Tryz.prog 7 [zTa a0] [.ptr (InO 0) 0,.d (.int .i64 a1)] (.d (.int .i64 r.1)) [zTa r.2]:=by
 unfold zT_Next at h0
 refine fn_ok (nt:=37) (rs:=[.tmp 4]) Tryz.func7 rfl Tryz.ntmps7 rfl (by simp) (by decide) rfl fun K=>?_
 refine kr [0,1] (by simp;rfl) ?_
 refine trq ?_
 refine kd [[],[0],[1],[2],[],[4],[5],[6],[7],[3,8]] [] [] none [] 10 fol (by decide +kernel) (by simp) ?_
 refine dr_go 0 2 rfl (by simp (maxSteps:=1000000);rfl) ?_
 refine dr_go 2 2 rfl (by simp (maxSteps:=1000000);rfl) ?_
 refine dr_go 4 2 rfl (by simp (maxSteps:=1000000);rfl) ?_
 refine dr_go 6 2 rfl (by simp (maxSteps:=1000000);rfl) ?_
 refine dr_go 8 2 rfl (by simp (maxSteps:=1000000);rfl) ?_
 refine dr_end rfl (tpN ?_)
 refine trc (b:=(decide (((a0.L).length:Int)≤a0.at_))) (by simp) (fun c1=>?_) (fun c1=>?_)
 ·rw[if_pos c1] at h0
  refine kr [4] (by simp;rfl) ?_
  cases h0
  exact trr ⟨[],by simp,rfl,by simp⟩
 ·rw[if_neg (by rw[c1];decide)] at h0
  refine trk ?_
  refine kd [[],[0],[1],[2],[],[4],[5],[6],[3,7],[8],[9],[10]] [] [] none [] 12 fol (by decide +kernel) (by simp) ?_
  replace h0:=bnd h0;obtain⟨x1,p3,h0⟩:=h0
  replace p3:=idx_some p3
  have p3':=p3;try simp at p3'
  refine dr_go 0 2 rfl (by simp (maxSteps:=1000000) [p3,p3'];rfl) ?_
  refine dr_go 2 2 rfl (by simp (maxSteps:=1000000) [p3,p3'];rfl) ?_
  refine dr_go 4 2 rfl (by simp (maxSteps:=1000000) [p3,p3'];rfl) ?_
  refine dr_go 6 2 rfl (by simp (maxSteps:=1000000) [p3,p3'];rfl) ?_
  refine dr_go 8 2 rfl (by simp (maxSteps:=1000000) [p3,p3'];rfl) ?_
  refine dr_go 10 2 rfl (by simp (maxSteps:=1000000) [p3,p3'];rfl) ?_
  refine dr_end rfl (tpN ?_)
  refine kr [1,5] (by simp;rfl) ?_
  replace h0:=bnd h0;obtain⟨_,p4,h0⟩:=h0
  replace p4:=ck_some p4
  have p4':=p4;try simp at p4'
  refine kr [4] (by simp[p4,p4'];rfl) ?_
  cases h0
  exact trr ⟨[],by simp,rfl,by simp⟩
theorem zT_Between_ok {a0:zT} {a1:Int} {a2:Int} {r:Int×zT} (h0:zT_Between a0 a1 a2=some r):FnOK Tryz.prog 19 [zTa a0] [.ptr (InO 0) 0,.d (.int .i64 a1),.d (.int .i64 a2)] (.d (.int .i64 r.1)) [zTa r.2]:=by
 unfold zT_Between at h0
 refine fn_ok (nt:=15) (rs:=[.tmp 6]) Tryz.func19 rfl Tryz.ntmps19 rfl (by simp) (by decide) rfl fun K=>?_
 refine kr [0,1,2] (by simp;rfl) ?_
 refine kc ?_
 refine ko [7,8,12] 6 (by simp;rfl) ?_
 replace h0:=bnd h0;obtain⟨y1,hy1,h0⟩:=h0
 refine kcall [7,13] [1000000] (zT_Next_ok hy1) rfl rfl rfl Tryz.call7 (by simp) (by simp;rfl) ?_
 refine ko [6] 2 (by simp;rfl) ?_
 refine tpN ?_
 cases h0
 exact trr ⟨[],by simp,rfl,by simp⟩
theorem mYPick_ok {a0:zT} {a1:List Int} {r:Int×zT} (h0:mYPick a0 a1=some r):FnOK Tryz.prog 20 [zTa a0] [.ptr (InO 0) 0,.d (.slice (rowsF (iRow .i64) a1))] (.d (.int .i64 r.1)) [zTa r.2]:=by
 unfold mYPick at h0
 refine fn_ok (nt:=12) (rs:=[.tmp 4]) Tryz.func20 rfl Tryz.ntmps20 rfl (by simp) (by decide) rfl fun K=>?_
 refine kr [0,1] (by simp;rfl) ?_
 refine kc ?_
 refine ko [5,6,8] 4 (by simp;rfl) ?_
 replace h0:=bnd h0;obtain⟨y1,hy1,h0⟩:=h0
 refine kcall [5,9] [1000000] (zT_Next_ok hy1) rfl rfl rfl Tryz.call7 (by simp) (by simp;rfl) ?_
 replace h0:=bnd h0;obtain⟨x2,p1,h0⟩:=h0
 replace p1:=idx_some p1
 have p1':=p1;try simp at p1'
 refine ko [4] 3 (by simp[p1,p1'];rfl) ?_
 refine tpN ?_
 cases h0
 exact trr ⟨[],by simp,rfl,by simp⟩
theorem mYClock_ok {a0:zT} {a1:Int} {r:(List Int)×zT} (h0:mYClock a0 a1=some r):FnOK Tryz.prog 21 [zTa a0] [.ptr (InO 0) 0,.d (.int .i64 a1)] (.d (.slice (rowsF (iRow .i64) r.1))) [zTa r.2]:=by
 unfold mYClock at h0
 refine fn_ok (nt:=24) (rs:=[.tmp 4]) Tryz.func21 rfl Tryz.ntmps21 rfl (by simp) (by decide) rfl fun K=>?_
 refine kr [0,1] (by simp;rfl) ?_
 refine kr [0,1,5] (by simp;rfl) ?_
 refine kc ?_
 refine ko [0,1,5,8] 1 (by simp;rfl) ?_
 replace h0:=bnd h0;obtain⟨y1,hy1,h0⟩:=h0
 refine kcall [0,1,5,9] [1000000] (zT_Next_ok hy1) rfl rfl rfl Tryz.call7 (by simp) (by simp;rfl) ?_
 refine ko [0,1,5,6] 1 (by simp;rfl) ?_
 refine tpN ?_
 refine trq ?_
 refine kr [0,1,5,6,7] (by simp;rfl) ?_
 refine tr_wk (wk_own 5 22 3 1 (by simp) (by simp)) ?_
 replace h0:=bnd h0;obtain⟨e1,hI1,h0⟩:=h0
 refine tjv (fun v2:(List Int)×Int×(List Int)=>({ nt:=24,env:=[(5,.vec 22)],box:=[(1000000,[.d (.slice (rowsF (iRow .i64) v2.1)),.d (.int .i64 v2.2.1)])],vec:=[(22,⟨3,1,rowsF (iRow .i64) v2.2.2⟩)]}:St)) (fun v2=>v2=e1) (fun v2 hI1e _ W1=>?_) ?_
 ·subst hI1e
  refine tr_wk W1 ?_
  refine kr [4] (by simp;rfl) ?_
  cases h0
  exact trr ⟨[22],by simp,rfl,by simp⟩
 ·refine trb (tr_iter (fun s3:Int×Int×(List Int)×Int×(List Int)=>({ nt:=24,env:=[(0,.ptr 1000000 0),(1,.d (.int .i64 a1)),(5,.vec 22),(6,.d (.int .i64 s3.1)),(7,.d (.int .i64 s3.2.1))],box:=[(1000000,[.d (.slice (rowsF (iRow .i64) s3.2.2.1)),.d (.int .i64 s3.2.2.2.1)])],vec:=[(22,⟨3,1,rowsF (iRow .i64) s3.2.2.2.2⟩)]}:St)) hI1 (wk (by simp[wkI])) fun G1 s3 o1 h1 hg1 he1=>?_)
  unfold mYClock_l0 at h1
  refine trq ?_
  refine kr [0,1,5,6,7,12] (by simp;rfl) ?_
  refine trc (b:=(decide (s3.2.1 < a1))) (by simp) (fun c4=>?_) (fun c4=>?_)
  ·rw[if_pos c4] at h1
   refine trk ?_
   refine trq ?_
   refine trb ?_
   refine kc ?_
   refine ko [0,1,5,7,15,16] 2 (by simp;rfl) ?_
   replace h1:=bnd h1;obtain⟨y4,hy4,h1⟩:=h1
   refine kcall [0,1,5,7,15,17] [1000000] (zT_Next_ok hy4) rfl rfl rfl Tryz.call7 (by simp) (by simp;rfl) ?_
   refine ko [0,1,5,6,7] 2 (by simp;rfl) ?_
   refine tpN ?_
   replace h1:=bnd h1;obtain⟨_,p6,h1⟩:=h1
   replace p6:=ck_some p6
   have p6':=p6;try simp at p6'
   refine lr (by simp[p6,p6'];rfl) ?_
   refine lr (by simp;rfl) ?_
   exact⟨_,hg1 _ (Option.some.inj h1),wk (by simp[wkI])⟩
  ·rw[if_neg (by rw[c4];decide)] at h1
   refine tr_exit ?_
   exact⟨_,he1 _ (Option.some.inj h1),wk (by simp[wkI])⟩
theorem mYDirectory_ok {a0:zT} {r:api_Directory×zT} (h0:mYDirectory a0=some r):FnOK Tryz.prog 5 [zTa a0] [.ptr (InO 0) 0] (.agg (api_Directory_av r.1)) [zTa r.2]:=by
 unfold mYDirectory at h0
 refine fn_ok (nt:=86) (rs:=[.cell 2 29]) Tryz.func5 rfl Tryz.ntmps5 rfl (by simp) (by decide) rfl fun K=>?_
 refine kr [0,2] (by simp;rfl) ?_
 refine kr [0,2,3] (by simp;rfl) ?_
 refine trq ?_
 refine kc ?_
 refine ko [0,2,3,13] 1 (by simp;rfl) ?_
 replace h0:=bnd h0;obtain⟨y1,hy1,h0⟩:=h0
 refine kcall [0,2,3,14] [1000000] (zT_Between_ok hy1) rfl rfl rfl Tryz.call19 (by simp) (by simp;rfl) ?_
 refine ko [0,2,3,4] 1 (by simp;rfl) ?_
 refine tpN ?_
 replace h0:=bnd h0;obtain⟨l2,hl2,h0⟩:=h0
 replace hl2:=Option.some.inj hl2
 replace h0:=bnd h0;obtain⟨e1,hI1,h0⟩:=h0
 refine tjv (fun v3:(List Int)×Int×(List Int)=>({ nt:=86,env:=[(0,.ptr 1000000 0),(2,.ptr 2 0),(3,.ptr 3 0)],box:=[(2,[.nilS,.nilS]),(3,[.vec 11,.nilS]),(1000000,[.d (.slice (rowsF (iRow .i64) v3.1)),.d (.int .i64 v3.2.1)])],vec:=[(11,⟨3,1,rowsF (iRow .i64) v3.2.2⟩)]}:St)) (fun v3=>v3=e1) (fun v3 hI1e _ W1=>?_) ?_
 ·subst hI1e
  refine tr_wk W1 ?_
  refine kr [0,2,3,5] (by simp;rfl) ?_
  refine trq ?_
  refine kr [0,2,3,5,28,29,30] (by simp;rfl) ?_
  refine tr_wk (wk_own 5 40 3 1 (by simp) (by simp)) ?_
  replace h0:=bnd h0;obtain⟨e2,hI2,h0⟩:=h0
  refine tjv (fun v4:(List Int)=>({ nt:=86,env:=[(0,.ptr 1000000 0),(2,.ptr 2 0),(3,.ptr 3 0),(5,.vec 40)],box:=[(2,[.nilS,.nilS]),(3,[.vec 11,.nilS]),(1000000,[.d (.slice (rowsF (iRow .i64) v3.1)),.d (.int .i64 v3.2.1)])],vec:=[(11,⟨3,1,rowsF (iRow .i64) v3.2.2⟩),(40,⟨3,1,rowsF (iRow .i64) v4⟩)]}:St)) (fun v4=>v4=e2) (fun v4 hI2e _ W2=>?_) ?_
  ·subst hI2e
   refine tr_wk W2 ?_
   refine trq ?_
   refine kr [0,2,3,5,44] (by simp;rfl) ?_
   refine trc (b:=(((v4).length:Int)==0)) (by simp) (fun c9=>?_) (fun c9=>?_)
   ·rw[if_pos c9] at h0
    refine kr [2] (by simp;rfl) ?_
    cases h0
    exact trr ⟨[11],by simp,rfl,by simp⟩
   ·rw[if_neg (by rw[c9];decide)] at h0
    refine trk ?_
    refine trq ?_
    refine kc ?_
    refine ko [0,2,3,5,46,47] 2 (by simp;rfl) ?_
    replace h0:=bnd h0;obtain⟨y5,hy5,h0⟩:=h0
    refine kcall [0,2,3,5,46,48] [1000000] (zT_Next_ok hy5) rfl rfl rfl Tryz.call7 (by simp) (by simp;rfl) ?_
    replace h0:=bnd h0;obtain⟨y6,hy6,h0⟩:=h0
    refine kcall [0,2,3,5,49] [1000000] (mYClock_ok hy6) rfl rfl rfl Tryz.call21 (by simp) (by simp;rfl) ?_
    refine ko [0,2,3,5,49,50,51] 2 (by simp;rfl) ?_
    refine tpN ?_
    refine tr_wk (wk_ownbox 3 1 82 57 4 (by simp;rfl) (by simp) (by simp)) ?_
    replace h0:=bnd h0;obtain⟨e3,hI3,h0⟩:=h0
    refine tjv (fun v7:(List Int)×Int×(List api_Member)=>({ nt:=86,env:=[(2,.ptr 2 0),(3,.ptr 3 0)],box:=[(2,[.nilS,.nilS]),(3,[.vec 11,.vec 82]),(1000000,[.d (.slice (rowsF (iRow .i64) v7.1)),.d (.int .i64 v7.2.1)])],vec:=[(11,⟨3,1,rowsF (iRow .i64) v3.2.2⟩),(82,⟨57,4,rowsF api_Member_row v7.2.2⟩)]}:St)) (fun v7=>v7=e3) (fun v7 hI3e _ W3=>?_) ?_
    ·subst hI3e
     refine tr_wk W3 ?_
     refine kr [2] (by simp;rfl) ?_
     cases h0
     exact trr ⟨[11,82],by simp,rfl,by simp⟩
    ·refine trb (tr_iter (fun s8:Int×(List Int)×Int×(List api_Member)=>({ nt:=86,env:=[(0,.ptr 1000000 0),(2,.ptr 2 0),(3,.ptr 3 0),(5,.vec 40),(49,.d (.slice (rowsF (iRow .i64) y6.1))),(50,.d (.int .i64 ((y6.1).length:Int))),(51,.d (.int .i64 s8.1))],box:=[(2,[.nilS,.nilS]),(3,[.vec 11,.vec 82]),(1000000,[.d (.slice (rowsF (iRow .i64) s8.2.1)),.d (.int .i64 s8.2.2.1)])],vec:=[(11,⟨3,1,rowsF (iRow .i64) v3.2.2⟩),(40,⟨3,1,rowsF (iRow .i64) v4⟩),(82,⟨57,4,rowsF api_Member_row s8.2.2.2⟩)]}:St)) hI3 (wk (by simp[wkI])) fun G3 s8 o3 h3 hg3 he3=>?_)
     unfold mYDirectory_l2 at h3
     refine kr [0,2,3,5,49,50,51,52] (by simp;rfl) ?_
     refine trq ?_
     refine trc (b:=(decide (s8.1 < ((y6.1).length:Int)))) (by simp) (fun c19=>?_) (fun c19=>?_)
     ·rw[if_pos c19] at h3
      refine trk ?_
      refine trq ?_
      refine trb ?_
      replace h3:=bnd h3;obtain⟨x9,p30,h3⟩:=h3
      replace p30:=idx_some p30
      have p30':=p30;try simp at p30'
      refine kr [0,2,3,5,9,49,50,51] (by simp[p30,p30'];rfl) ?_
      refine kc ?_
      refine ko [0,2,3,5,49,50,51,55,56,59] 5 (by simp;rfl) ?_
      replace h3:=bnd h3;obtain⟨y10,hy10,h3⟩:=h3
      refine kcall [0,2,3,5,49,50,51,55,60] [1000000] (zT_Next_ok hy10) rfl rfl rfl Tryz.call7 (by simp) (by simp;rfl) ?_
      refine ko [0,2,3,5,49,50,51,55,60,61,62,64] 4 (by simp;rfl) ?_
      replace h3:=bnd h3;obtain⟨y11,hy11,h3⟩:=h3
      refine kcall [0,2,3,5,49,50,51,55,60,61,65] [1000000] (zT_Next_ok hy11) rfl rfl rfl Tryz.call7 (by simp) (by simp;rfl) ?_
      replace h3:=bnd h3;obtain⟨_,p31,h3⟩:=h3
      replace p31:=ck_some p31
      have p31':=p31;try simp at p31'
      have p31o:y11.1 < (((v4)).length:Int):=by omega
      replace h3:=bnd h3;obtain⟨x12,p32,h3⟩:=h3
      replace p32:=idx_some p32
      have p32':=p32;try simp at p32'
      refine ko [0,2,3,5,10,49,50,51] 5 (by simp[-getElem?_pos,List.getElem?_cons_zero,List.getElem?_cons_succ,p31,p31o,p32,p31',p32'];rfl) ?_
      refine tpN ?_
      refine sjv (fun v13:(List Int)×Int×Int=>({ nt:=86,env:=[(0,.ptr 1000000 0),(2,.ptr 2 0),(3,.ptr 3 0),(5,.vec 40),(10,.ptr 10 0),(49,.d (.slice (rowsF (iRow .i64) y6.1))),(50,.d (.int .i64 ((y6.1).length:Int))),(51,.d (.int .i64 s8.1))],box:=[(2,[.nilS,.nilS]),(3,[.vec 11,.vec 82]),(10,[.d (.int .i64 x9),.d (.int .i64 v13.2.2),.d (.int .i64 y10.1),.d (.int .i64 x12)]),(1000000,[.d (.slice (rowsF (iRow .i64) v13.1)),.d (.int .i64 v13.2.1)])],vec:=[(11,⟨3,1,rowsF (iRow .i64) v3.2.2⟩),(40,⟨3,1,rowsF (iRow .i64) v4⟩),(82,⟨57,4,rowsF api_Member_row s8.2.2.2⟩)]}:St)) (fun v13=>mYDirectory_j3 y10 x12 s8 x9 v13=some o3) (fun v13 h3=>?_) ?_
      ·unfold mYDirectory_j3 at h3
       refine kr [0,2,3,5,10,49,50,51,77] (by simp;rfl) ?_
       refine trc (b:=(y10.1 != x12)) (by simp) (fun c21=>?_) (fun c21=>?_)
       ·rw[if_pos c21] at h3
        replace h3:=bnd h3;obtain⟨_,p34,h3⟩:=h3
        replace p34:=ck_some p34
        have p34':=p34;try simp at p34'
        refine lr (by simp[p34,p34'];rfl) ?_
        refine lr (by simp;rfl) ?_
        exact⟨_,hg3 _ (Option.some.inj h3),wk (by simp[wkI])⟩
       ·rw[if_neg (by rw[c21];decide)] at h3
        refine trk ?_
        refine lr (by simp;rfl) ?_
        exact⟨_,hg3 _ (Option.some.inj h3),wk (by simp[wkI])⟩
      ·refine kc ?_
       refine ko [0,2,3,5,10,49,50,51,69] 1 (by simp;rfl) ?_
       replace h3:=bnd h3;obtain⟨y14,hy14,h3⟩:=h3
       refine kcall [0,2,3,5,10,49,50,51,70] [1000000] (zT_Next_ok hy14) rfl rfl rfl Tryz.call7 (by simp) (by simp;rfl) ?_
       refine ko [0,2,3,5,10,49,50,51,71] 1 (by simp;rfl) ?_
       refine tpN ?_
       refine trc (b:=(y14.1==3)) (by simp) (fun c22=>?_) (fun c22=>?_)
       ·rw[if_pos c22] at h3
        refine lr (by simp;rfl) ?_
        exact⟨_,h3,wk (by simp[wkI])⟩
       ·rw[if_neg (by rw[c22];decide)] at h3
        refine trk ?_
        exact⟨_,h3,wk (by simp[wkI])⟩
     ·rw[if_neg (by rw[c19];decide)] at h3
      refine tr_exit ?_
      exact⟨_,he3 _ (Option.some.inj h3),wk (by simp[wkI])⟩
  ·refine trb (tr_iter (fun s15:Int×(List Int)=>({ nt:=86,env:=[(0,.ptr 1000000 0),(2,.ptr 2 0),(3,.ptr 3 0),(5,.vec 40),(28,.vec 11),(29,.d (.int .i64 ((v3.2.2).length:Int))),(30,.d (.int .i64 s15.1))],box:=[(2,[.nilS,.nilS]),(3,[.vec 11,.nilS]),(1000000,[.d (.slice (rowsF (iRow .i64) v3.1)),.d (.int .i64 v3.2.1)])],vec:=[(11,⟨3,1,rowsF (iRow .i64) v3.2.2⟩),(40,⟨3,1,rowsF (iRow .i64) s15.2⟩)]}:St)) hI2 (wk (by simp[wkI])) fun G3 s15 o3 h3 hg3 he3=>?_)
   unfold mYDirectory_l1 at h3
   refine kr [0,2,3,5,28,29,30,31] (by simp;rfl) ?_
   refine trq ?_
   refine trc (b:=(decide (s15.1 < ((v3.2.2).length:Int)))) (by simp) (fun c23=>?_) (fun c23=>?_)
   ·rw[if_pos c23] at h3
    refine trk ?_
    refine trq ?_
    refine trb ?_
    replace h3:=bnd h3;obtain⟨_,p35,h3⟩:=h3
    replace p35:=ck_some p35
    have p35':=p35;try simp at p35'
    have p35o:s15.1 < (((v3.2.2)).length:Int):=by omega
    replace h3:=bnd h3;obtain⟨x16,p36,h3⟩:=h3
    replace p36:=idx_some p36
    have p36':=p36;try simp at p36'
    refine kr [0,2,3,5,6,7,28,29,30] (by simp[-getElem?_pos,List.getElem?_cons_zero,List.getElem?_cons_succ,p35,p35o,p36,p35',p36'];rfl) ?_
    refine kr [0,2,3,5,6,28,29,30,36] (by simp;rfl) ?_
    refine trc (b:=(x16==2)) (by simp) (fun c24=>?_) (fun c24=>?_)
    ·rw[if_pos c24] at h3
     replace h3:=bnd h3;obtain⟨_,p38,h3⟩:=h3
     replace p38:=ck_some p38
     have p38':=p38;try simp at p38'
     refine lr (by simp[p38,p38'];rfl) ?_
     refine lr (by simp;rfl) ?_
     exact⟨_,hg3 _ (Option.some.inj h3),wk (by simp[wkI])⟩
    ·rw[if_neg (by rw[c24];decide)] at h3
     refine trk ?_
     refine lr (by simp;rfl) ?_
     exact⟨_,hg3 _ (Option.some.inj h3),wk (by simp[wkI])⟩
   ·rw[if_neg (by rw[c23];decide)] at h3
    refine tr_exit ?_
    exact⟨_,he3 _ (Option.some.inj h3),wk (by simp[wkI])⟩
 ·refine trb (tr_iter (fun s17:Int×(List Int)×Int×(List Int)=>({ nt:=86,env:=[(0,.ptr 1000000 0),(2,.ptr 2 0),(3,.ptr 3 0),(4,.d (.int .i64 s17.1))],box:=[(2,[.nilS,.nilS]),(3,[.vec 11,.nilS]),(1000000,[.d (.slice (rowsF (iRow .i64) s17.2.1)),.d (.int .i64 s17.2.2.1)])],vec:=[(11,⟨3,1,rowsF (iRow .i64) s17.2.2.2⟩)]}:St)) hI1 (wk (by subst hl2;simp[wkI])) fun G3 s17 o3 h3 hg3 he3=>?_)
  unfold mYDirectory_l0 at h3
  refine trq ?_
  refine kr [0,2,3,4,16] (by simp;rfl) ?_
  refine trc (b:=(decide (0 < s17.1))) (by simp) (fun c25=>?_) (fun c25=>?_)
  ·rw[if_pos c25] at h3
   refine trk ?_
   refine trq ?_
   refine trb ?_
   refine kd1 [[],[0],[],[],[2,3],[4],[1,4,5],[6],[1,6,7]] [4,6,8] [(3,[6,8]),(1000000,[4,6])] (some (6,11)) [20] 9 fol (by decide +kernel) (by simp) ?_
   refine dr_go 0 2 rfl (by simp (maxSteps:=1000000);rfl) ?_
   refine dr_go 2 2 rfl (by simp (maxSteps:=1000000);rfl) ?_
   replace h3:=bnd h3;obtain⟨y18,hy18,h3⟩:=h3
   refine dr_call 4 [1000000] (mYPick_ok hy18) rfl rfl rfl rfl rfl Tryz.call20 (by simp) ?_
   replace h3:=bnd h3;obtain⟨_,p41,h3⟩:=h3
   replace p41:=ck_some p41
   have p41':=p41;try simp at p41'
   refine dr_go 5 2 rfl (by simp (maxSteps:=1000000) [p41,p41'];rfl) ?_
   refine dr_go 7 2 rfl (by simp (maxSteps:=1000000) [p41,p41'];rfl) ?_
   refine dr_end rfl (tpN ?_)
   refine lr (by simp;rfl) ?_
   exact⟨_,hg3 _ (Option.some.inj h3),Wk.trans (wk_ren 25 11) (wk (by simp[wkI]))⟩
  ·rw[if_neg (by rw[c25];decide)] at h3
   refine tr_exit ?_
   exact⟨_,he3 _ (Option.some.inj h3),wk (by simp[wkI])⟩
theorem mYEstate_ok {a0:zT} {a1:api_Directory} {r:api_Estate×zT} (h0:mYEstate a0 a1=some r):FnOK Tryz.prog 6 [zTa a0] [.ptr (InO 0) 0,.agg (api_Directory_av a1)] (.agg (api_Estate_av r.1)) [zTa r.2]:=by
 unfold mYEstate at h0
 refine fn_ok (nt:=76) (rs:=[.cell 4 33]) Tryz.func6 rfl Tryz.ntmps6 rfl (by simp) (by decide) rfl fun K=>?_
 refine kr [0,3,4] (by simp;rfl) ?_
 refine kc ?_
 refine ko [0,3,4,9] 1 (by simp;rfl) ?_
 replace h0:=bnd h0;obtain⟨y1,hy1,h0⟩:=h0
 refine kcall [0,3,4,10] [1000000] (zT_Between_ok hy1) rfl rfl rfl Tryz.call19 (by simp) (by simp;rfl) ?_
 refine ko [0,3,4,5] 3 (by simp;rfl) ?_
 refine tpN ?_
 refine trq ?_
 refine kc ?_
 refine ko [0,3,4,5,12,13] 2 (by simp;rfl) ?_
 replace h0:=bnd h0;obtain⟨y2,hy2,h0⟩:=h0
 refine kcall [0,3,4,5,12,14] [1000000] (zT_Next_ok hy2) rfl rfl rfl Tryz.call7 (by simp) (by simp;rfl) ?_
 replace h0:=bnd h0;obtain⟨y3,hy3,h0⟩:=h0
 refine kcall [0,3,4,5,15] [1000000] (mYClock_ok hy3) rfl rfl rfl Tryz.call21 (by simp) (by simp;rfl) ?_
 refine ko [0,3,4,5,15,16,17] 2 (by simp;rfl) ?_
 refine tpN ?_
 refine tr_wk (wk_ownbox 5 1 72 59 7 (by simp;rfl) (by simp) (by simp)) ?_
 replace h0:=bnd h0;obtain⟨e1,hI1,h0⟩:=h0
 refine tjv (fun v4:(List Int)×Int×(List api_Access)=>({ nt:=76,env:=[(4,.ptr 4 0),(5,.ptr 5 0)],box:=[(4,[.d (.int .i64 0),.nilS]),(5,[.d (.int .i64 y1.1),.vec 72]),(1000000,[.d (.slice (rowsF (iRow .i64) v4.1)),.d (.int .i64 v4.2.1)])],vec:=[(72,⟨59,7,rowsF api_Access_row v4.2.2⟩)]}:St)) (fun v4=>v4=e1) (fun v4 hI1e _ W1=>?_) ?_
 ·subst hI1e
  refine tr_wk W1 ?_
  refine kr [4] (by simp;rfl) ?_
  cases h0
  exact trr ⟨[72],by simp,rfl,by simp⟩
 ·refine trb (tr_iter (fun s5:Int×(List Int)×Int×(List api_Access)=>({ nt:=76,env:=[(0,.ptr 1000000 0),(3,.ptr 3 0),(4,.ptr 4 0),(5,.ptr 5 0),(15,.d (.slice (rowsF (iRow .i64) y3.1))),(16,.d (.int .i64 ((y3.1).length:Int))),(17,.d (.int .i64 s5.1))],box:=[(3,[.d (.slice (rowsF (iRow .i64) a1.Kinds)),.d (.slice (rowsF api_Member_row a1.Events))]),(4,[.d (.int .i64 0),.nilS]),(5,[.d (.int .i64 y1.1),.vec 72]),(1000000,[.d (.slice (rowsF (iRow .i64) s5.2.1)),.d (.int .i64 s5.2.2.1)])],vec:=[(72,⟨59,7,rowsF api_Access_row s5.2.2.2⟩)]}:St)) hI1 (wk (by simp[wkI])) fun G1 s5 o1 h1 hg1 he1=>?_)
  unfold mYEstate_l0 at h1
  refine kr [0,3,4,5,15,16,17,18] (by simp;rfl) ?_
  refine trq ?_
  refine trc (b:=(decide (s5.1 < ((y3.1).length:Int)))) (by simp) (fun c25=>?_) (fun c25=>?_)
  ·rw[if_pos c25] at h1
   refine trk ?_
   refine trq ?_
   refine trb ?_
   replace h1:=bnd h1;obtain⟨x6,p8,h1⟩:=h1
   replace p8:=idx_some p8
   have p8':=p8;try simp at p8'
   refine kr [0,3,4,5,7,15,16,17] (by simp[p8,p8'];rfl) ?_
   refine kd [[],[],[],[1,2],[],[],[5],[3,4,6],[0,3,7],[],[8,9]] [3,7,9,10] [(8,[9,10]),(1000000,[3,7])] none [] 11 fol (by decide +kernel) (by simp) ?_
   refine dr_go 0 2 rfl (by simp (maxSteps:=1000000);rfl) ?_
   refine dr_go 2 1 rfl (by simp (maxSteps:=1000000);rfl) ?_
   replace h1:=bnd h1;obtain⟨y7,hy7,h1⟩:=h1
   refine dr_call 3 [1000000] (mYPick_ok hy7) rfl rfl rfl rfl rfl Tryz.call20 (by simp) ?_
   refine dr_go 4 2 rfl (by simp (maxSteps:=1000000);rfl) ?_
   refine dr_go 6 1 rfl (by simp (maxSteps:=1000000);rfl) ?_
   replace h1:=bnd h1;obtain⟨y8,hy8,h1⟩:=h1
   refine dr_call 7 [1000000] (zT_Next_ok hy8) rfl rfl rfl rfl rfl Tryz.call7 (by simp) ?_
   refine dr_go 8 2 rfl (by simp (maxSteps:=1000000);rfl) ?_
   refine dr_go 10 1 rfl (by simp (maxSteps:=1000000);rfl) ?_
   refine dr_end rfl (tpN ?_)
   refine sjv (fun v9:(List Int)×Int×Int×Int×Int×Int=>({ nt:=76,env:=[(0,.ptr 1000000 0),(3,.ptr 3 0),(4,.ptr 4 0),(5,.ptr 5 0),(8,.ptr 8 0),(15,.d (.slice (rowsF (iRow .i64) y3.1))),(16,.d (.int .i64 ((y3.1).length:Int))),(17,.d (.int .i64 s5.1))],box:=[(3,[.d (.slice (rowsF (iRow .i64) a1.Kinds)),.d (.slice (rowsF api_Member_row a1.Events))]),(4,[.d (.int .i64 0),.nilS]),(5,[.d (.int .i64 y1.1),.vec 72]),(8,[.d (.int .i64 x6),.d (.int .i64 y7.1),.d (.int .i64 y8.1),.d (.int .i64 v9.2.2.1),.d (.int .i64 v9.2.2.2.1),.d (.int .i64 v9.2.2.2.2.1),.d (.int .i64 v9.2.2.2.2.2)]),(1000000,[.d (.slice (rowsF (iRow .i64) v9.1)),.d (.int .i64 v9.2.1)])],vec:=[(72,⟨59,7,rowsF api_Access_row s5.2.2.2⟩)]}:St)) (fun v9=>mYEstate_j1 s5 x6 y7 y8 v9=some o1) (fun v9 h1=>?_) ?_
   ·unfold mYEstate_j1 at h1
    replace h1:=bnd h1;obtain⟨_,p10,h1⟩:=h1
    replace p10:=ck_some p10
    have p10':=p10;try simp at p10'
    refine lr (by simp[p10,p10'];rfl) ?_
    refine lr (by simp;rfl) ?_
    exact⟨_,hg1 _ (Option.some.inj h1),wk (by simp[wkI])⟩
   ·refine kr [0,3,4,5,7,8,15,16,17,31] (by simp;rfl) ?_
    refine trb ?_
    refine sjv (fun v10:Bool=>({ nt:=76,env:=[(0,.ptr 1000000 0),(3,.ptr 3 0),(4,.ptr 4 0),(5,.ptr 5 0),(7,.d (.int .i64 x6)),(8,.ptr 8 0),(15,.d (.slice (rowsF (iRow .i64) y3.1))),(16,.d (.int .i64 ((y3.1).length:Int))),(17,.d (.int .i64 s5.1)),(31,.d (.int .i64 y7.1)),(32,.d (.bool v10))],box:=[(3,[.d (.slice (rowsF (iRow .i64) a1.Kinds)),.d (.slice (rowsF api_Member_row a1.Events))]),(4,[.d (.int .i64 0),.nilS]),(5,[.d (.int .i64 y1.1),.vec 72]),(8,[.d (.int .i64 x6),.d (.int .i64 y7.1),.d (.int .i64 y8.1),.d (.int .i64 0),.d (.int .i64 0),.d (.int .i64 0),.d (.int .i64 0)]),(1000000,[.d (.slice (rowsF (iRow .i64) y8.2.L)),.d (.int .i64 y8.2.at_)])],vec:=[(72,⟨59,7,rowsF api_Access_row s5.2.2.2⟩)]}:St)) (fun v10=>mYEstate_j2 y8 a1 s5 x6 y7 y1 v10=some o1) (fun v10 h1=>?_) ?_
    ·unfold mYEstate_j2 at h1
     refine trc (b:=v10) (by simp) (fun c34=>?_) (fun c34=>?_)
     ·rw[if_pos c34] at h1
      refine kc1 ?_
      refine ko [0,3,4,5,8,15,16,17,35,39] 5 (by simp;rfl) ?_
      replace h1:=bnd h1;obtain⟨y11,hy11,h1⟩:=h1
      refine kcall [0,3,4,5,8,15,16,17,40] [1000000] (zT_Next_ok hy11) rfl rfl rfl Tryz.call7 (by simp) (by simp;rfl) ?_
      refine ko [0,3,4,5,8,15,16,17] 2 (by simp;rfl) ?_
      refine tpN ?_
      exact⟨_,h1,wk (by simp[wkI])⟩
     ·rw[if_neg (by rw[c34];decide)] at h1
      refine kr [0,3,4,5,7,8,15,16,17,31,42] (by simp;rfl) ?_
      refine trc (b:=(y7.1==3)) (by simp) (fun c35=>?_) (fun c35=>?_)
      ·rw[if_pos c35] at h1
       refine kc1 ?_
       refine ko [0,3,4,5,8,15,16,17,45,46] 3 (by simp;rfl) ?_
       replace h1:=bnd h1;obtain⟨y12,hy12,h1⟩:=h1
       refine kcall [0,3,4,5,8,15,16,17,45,47] [1000000] (zT_Next_ok hy12) rfl rfl rfl Tryz.call7 (by simp) (by simp;rfl) ?_
       refine ko [0,3,4,5,8,15,16,17] 3 (by simp;rfl) ?_
       refine tpN ?_
       exact⟨_,h1,wk (by simp[wkI])⟩
      ·rw[if_neg (by rw[c35];decide)] at h1
       refine sjv (fun v13:Bool=>({ nt:=76,env:=[(0,.ptr 1000000 0),(3,.ptr 3 0),(4,.ptr 4 0),(5,.ptr 5 0),(8,.ptr 8 0),(15,.d (.slice (rowsF (iRow .i64) y3.1))),(16,.d (.int .i64 ((y3.1).length:Int))),(17,.d (.int .i64 s5.1)),(31,.d (.int .i64 y7.1)),(50,.d (.bool v13))],box:=[(3,[.d (.slice (rowsF (iRow .i64) a1.Kinds)),.d (.slice (rowsF api_Member_row a1.Events))]),(4,[.d (.int .i64 0),.nilS]),(5,[.d (.int .i64 y1.1),.vec 72]),(8,[.d (.int .i64 x6),.d (.int .i64 y7.1),.d (.int .i64 y8.1),.d (.int .i64 0),.d (.int .i64 0),.d (.int .i64 0),.d (.int .i64 0)]),(1000000,[.d (.slice (rowsF (iRow .i64) y8.2.L)),.d (.int .i64 y8.2.at_)])],vec:=[(72,⟨59,7,rowsF api_Access_row s5.2.2.2⟩)]}:St)) (fun v13=>mYEstate_j3 y8 s5 x6 y7 y1 v13=some o1) (fun v13 h1=>?_) ?_
       ·unfold mYEstate_j3 at h1
        refine trc (b:=v13) (by simp) (fun c37=>?_) (fun c37=>?_)
        ·rw[if_pos c37] at h1
         refine kc1 ?_
         refine ko [0,3,4,5,8,15,16,17,53] 1 (by simp;rfl) ?_
         replace h1:=bnd h1;obtain⟨y14,hy14,h1⟩:=h1
         refine kcall [0,3,4,5,8,15,16,17,54] [1000000] (zT_Next_ok hy14) rfl rfl rfl Tryz.call7 (by simp) (by simp;rfl) ?_
         refine ko [0,3,4,5,8,15,16,17] 2 (by simp;rfl) ?_
         refine tpN ?_
         exact⟨_,h1,wk (by simp[wkI])⟩
        ·rw[if_neg (by rw[c37];decide)] at h1
         refine kr [0,3,4,5,8,15,16,17,56] (by simp;rfl) ?_
         refine trc (b:=(y7.1==7)) (by simp) (fun c38=>?_) (fun c38=>?_)
         ·rw[if_pos c38] at h1
          refine kc ?_
          refine ko [0,3,4,5,8,15,16,17,58,60] 3 (by simp;rfl) ?_
          replace h1:=bnd h1;obtain⟨y15,hy15,h1⟩:=h1
          refine kcall [0,3,4,5,8,15,16,17,61] [1000000] (zT_Next_ok hy15) rfl rfl rfl Tryz.call7 (by simp) (by simp;rfl) ?_
          refine ko [0,3,4,5,8,15,16,17] 2 (by simp;rfl) ?_
          refine tpN ?_
          refine kr [0,3,4,5,8,15,16,17,67] (by simp;rfl) ?_
          refine trc (b:=(y15.1==y8.1)) (by simp) (fun c39=>?_) (fun c39=>?_)
          ·rw[if_pos c39] at h1
           refine tr_exit ?_
           refine lr (by simp;rfl) ?_
           exact⟨_,hg1 _ (Option.some.inj h1),wk (by simp[wkI])⟩
          ·rw[if_neg (by rw[c39];decide)] at h1
           refine trk ?_
           exact⟨_,h1,wk (by simp[wkI])⟩
         ·rw[if_neg (by rw[c38];decide)] at h1
          refine trk ?_
          exact⟨_,h1,wk (by simp[wkI])⟩
       ·refine kr [0,3,4,5,8,15,16,17,31,50] (by simp;rfl) ?_
        refine trc (b:=(y7.1==5)) (by simp) (fun c40=>?_) (fun c40=>?_)
        ·rw[if_pos c40] at h1
         refine trk ?_
         exact⟨_,h1,wk (by simp[wkI])⟩
        ·rw[if_neg (by rw[c40];decide)] at h1
         refine lr (by simp;rfl) ?_
         exact⟨_,h1,wk (by simp[wkI])⟩
    ·refine kr [0,3,4,5,7,8,15,16,17,31,32] (by simp;rfl) ?_
     refine trc (b:=(y7.1==1)) (by simp) (fun c41=>?_) (fun c41=>?_)
     ·rw[if_pos c41] at h1
      refine trk ?_
      exact⟨_,h1,wk (by simp[wkI])⟩
     ·rw[if_neg (by rw[c41];decide)] at h1
      refine lr (by simp;rfl) ?_
      exact⟨_,h1,wk (by simp[wkI])⟩
  ·rw[if_neg (by rw[c25];decide)] at h1
   refine tr_exit ?_
   exact⟨_,he1 _ (Option.some.inj h1),wk (by simp[wkI])⟩
theorem ref23_in_ok {a0:Int} {a1:Int} {a2:Int} {r:Bool} (h0:ref23_in a0 a1 a2=some r):FnOK Tryz.prog 51 [] [.d (.int .i64 a0),.d (.int .i64 a1),.d (.int .i64 a2)] (.d (.bool r)) []:=by
 unfold ref23_in at h0
 refine fn_ok (nt:=15) (rs:=[.tmp 6]) Tryz.func51 rfl Tryz.ntmps51 rfl (by simp) (by decide) rfl fun K=>?_
 refine kr [0,1,2] (by simp;rfl) ?_
 replace h0:=bnd h0;obtain⟨v1,hvv1,h0⟩:=h0
 refine sjv (fun v1_:Bool=>({ nt:=15,env:=[(6,.d (.bool v1_))],box:=[],vec:=[]}:St)) (fun v1_=>v1=v1_) (fun v1_ e=>?_) ?_
 ·subst e
  cases h0
  exact trr ⟨[],by simp,rfl,by simp⟩
 ·refine kc1 ?_
  refine ko [0,2,10] 4 (by simp;rfl) ?_
  refine tops_split 10 (decide (a1≤a0)) (by simp) (fun c3=>?_) (fun c3=>?_)
  ·rw[c3] at hvv1
   refine ko [6] 5 (by simp;rfl) ?_
   refine tpN ?_
   cases hvv1
   exact⟨_,rfl,wk (by simp[wkI])⟩
  ·rw[c3] at hvv1
   refine kskip 3 [] (by kernel_rfl) ?_
   refine ko [6] 2 (by simp;rfl) ?_
   refine tpN ?_
   cases hvv1
   exact⟨_,rfl,wk (by simp[wkI])⟩
theorem ref23_Exists_ok {a0:api_Directory} {a1:Int} {r:Bool} (h0:ref23_Exists a0 a1=some r):FnOK Tryz.prog 22 [] [.agg (api_Directory_av a0),.d (.int .i64 a1)] (.d (.bool r)) []:=by
 unfold ref23_Exists at h0
 refine fn_ok (nt:=11) (rs:=[.tmp 4]) Tryz.func22 rfl Tryz.ntmps22 rfl (by simp) (by decide) rfl fun K=>?_
 refine kr [1,2] (by simp;rfl) ?_
 refine kc ?_
 refine ko [5,9] 5 (by simp;rfl) ?_
 replace h0:=bnd h0;obtain⟨y1,hy1,h0⟩:=h0
 refine kcall [10] [] (ref23_in_ok hy1) rfl rfl rfl Tryz.call51 (by simp) (by simp;rfl) ?_
 refine ko [4] 1 (by simp;rfl) ?_
 refine tpN ?_
 cases h0
 exact trr ⟨[],by simp,rfl,by simp⟩
theorem ref23_Reader_ok {a0:api_Directory} {a1:Int} {r:Bool} (h0:ref23_Reader a0 a1=some r):FnOK Tryz.prog 8 [] [.agg (api_Directory_av a0),.d (.int .i64 a1)] (.d (.bool r)) []:=by
 unfold ref23_Reader at h0
 refine fn_ok (nt:=16) (rs:=[.tmp 4]) Tryz.func8 rfl Tryz.ntmps8 rfl (by simp) (by decide) rfl fun K=>?_
 refine kr [1,2] (by simp;rfl) ?_
 replace h0:=bnd h0;obtain⟨v1,hvv1,h0⟩:=h0
 refine sjv (fun v1_:Bool=>({ nt:=16,env:=[(4,.d (.bool v1_))],box:=[],vec:=[]}:St)) (fun v1_=>v1=v1_) (fun v1_ e=>?_) ?_
 ·subst e
  cases h0
  exact trr ⟨[],by simp,rfl,by simp⟩
 ·refine kc1 ?_
  refine ko [1,2,5,6] 2 (by simp;rfl) ?_
  replace hvv1:=bnd hvv1;obtain⟨y2,hy2,hvv1⟩:=hvv1
  refine kcall [1,2,7] [] (ref23_Exists_ok hy2) rfl rfl rfl Tryz.call22 (by simp) (by simp;rfl) ?_
  refine ko [1,2,8] 1 (by simp;rfl) ?_
  refine tops_split 8 y2 (by simp) (fun c3=>?_) (fun c3=>?_)
  ·rw[if_pos c3] at hvv1
   replace hvv1:=bnd hvv1;obtain⟨x3,p3,hvv1⟩:=hvv1
   replace p3:=idx_some p3
   have p3':=p3;try simp at p3'
   refine ko [4] 8 (by simp[p3,p3'];rfl) ?_
   refine tpN ?_
   cases hvv1
   exact⟨_,rfl,wk (by simp[wkI])⟩
  ·rw[if_neg (by rw[c3];decide)] at hvv1
   refine kskip 6 [] (by kernel_rfl) ?_
   refine ko [4] 2 (by simp;rfl) ?_
   refine tpN ?_
   cases hvv1
   exact⟨_,rfl,wk (by simp[wkI])⟩
theorem directory_Ascending_ok {a0:List Int} {r:Bool} (h0:directory_Ascending a0=some r):FnOK Tryz.prog 29 [] [.d (.slice (rowsF (iRow .i64) a0))] (.d (.bool r)) []:=by
 unfold directory_Ascending at h0
 refine fn_ok (nt:=20) (rs:=[.tmp 2]) Tryz.func29 rfl Tryz.ntmps29 rfl (by simp) (by decide) rfl fun K=>?_
 refine kr [0] (by simp;rfl) ?_
 refine trq ?_
 refine kr [0,3] (by simp;rfl) ?_
 replace h0:=bnd h0;obtain⟨e1,hI1,h0⟩:=h0
 refine tjv (fun v1:Unit=>({ nt:=20,env:=[],box:=[],vec:=[]}:St)) (fun v1=>.inl v1=e1) (fun v1 hI1e _ W1=>?_) ?_
 ·subst hI1e
  dsimp only at h0
  refine tr_wk W1 ?_
  refine kr [2] (by simp;rfl) ?_
  cases h0
  exact trr ⟨[],by simp,rfl,by simp⟩
 ·refine trb (tr_iter (fun s2:Int=>({ nt:=20,env:=[(0,.d (.slice (rowsF (iRow .i64) a0))),(3,.d (.int .i64 s2))],box:=[],vec:=[]}:St)) hI1 (wk (by simp[wkI])) fun G1 s2 o1 h1 hg1 he1=>?_)
  unfold directory_Ascending_l0 at h1
  refine trq ?_
  refine kr [0,3,7] (by simp;rfl) ?_
  refine trc (b:=(decide (s2 < ((a0).length:Int)))) (by simp) (fun c5=>?_) (fun c5=>?_)
  ·rw[if_pos c5] at h1
   refine trk ?_
   refine trq ?_
   refine trb ?_
   refine kd [[],[],[1],[0,2],[3],[],[],[5,6],[7],[4,8]] [] [] none [] 10 fol (by decide +kernel) (by simp) ?_
   replace h1:=bnd h1;obtain⟨x3,p17,h1⟩:=h1
   replace p17:=idx_some p17
   have p17':=p17;try simp at p17'
   replace h1:=bnd h1;obtain⟨x4,p18,h1⟩:=h1
   replace p18:=idx_some p18
   have p18':=p18;try simp at p18'
   refine dr_go 0 2 rfl (by simp (maxSteps:=1000000) [p17,p18,p17',p18'];rfl) ?_
   refine dr_go 2 2 rfl (by simp (maxSteps:=1000000) [p17,p18,p17',p18'];rfl) ?_
   refine dr_go 4 2 rfl (by simp (maxSteps:=1000000) [p17,p18,p17',p18'];rfl) ?_
   refine dr_go 6 2 rfl (by simp (maxSteps:=1000000) [p17,p18,p17',p18'];rfl) ?_
   refine dr_go 8 2 rfl (by simp (maxSteps:=1000000) [p17,p18,p17',p18'];rfl) ?_
   refine dr_end rfl (tpN ?_)
   refine trc (b:=(decide (x4≤x3))) (by simp) (fun c6=>?_) (fun c6=>?_)
   ·rw[if_pos c6] at h1
    refine kr [2] (by simp;rfl) ?_
    have k1:=he1 _ (Option.some.inj h1)
    subst k1
    dsimp only at h0
    cases h0
    exact trr ⟨[],by simp,rfl,by simp⟩
   ·rw[if_neg (by rw[c6];decide)] at h1
    refine trk ?_
    refine lr (by simp;rfl) ?_
    exact⟨_,hg1 _ (Option.some.inj h1),wk (by simp[wkI])⟩
  ·rw[if_neg (by rw[c5];decide)] at h1
   refine tr_exit ?_
   exact⟨_,he1 _ (Option.some.inj h1),wk (by simp[wkI])⟩
theorem copies_removed_1_cbbb_ok {a0:api_Access} {a1:Int} {a2:Int} {a3:Int} {r:Bool×Int×Int×Int} (h0:copies_removed_1_cbbb a0 a1 a2 a3=some r):FnOK Tryz.prog 56 [[.d (.int .i64 a1)],[.d (.int .i64 a2)],[.d (.int .i64 a3)]] [.agg (api_Access_av a0),.ptr (InO 0) 0,.ptr (InO 1) 0,.ptr (InO 2) 0] (.d (.bool r.1)) [[.d (.int .i64 r.2.1)],[.d (.int .i64 r.2.2.1)],[.d (.int .i64 r.2.2.2)]]:=by
 unfold copies_removed_1_cbbb at h0
 refine fn_ok (nt:=27) (rs:=[.tmp 5]) Tryz.func56 rfl Tryz.ntmps56 rfl (by simp) (by decide) rfl fun K=>?_
 refine kr [1,2,3,4] (by simp;rfl) ?_
 replace h0:=bnd h0;obtain⟨v1,hvv1,h0⟩:=h0
 refine sjv (fun v1_:Bool=>({ nt:=27,env:=[(5,.d (.bool v1_))],box:=[(1000000,[.d (.int .i64 a1)]),(1000001,[.d (.int .i64 a2)]),(1000002,[.d (.int .i64 a3)])],vec:=[]}:St)) (fun v1_=>v1=v1_) (fun v1_ e=>?_) ?_
 ·subst e
  cases h0
  exact trr ⟨[],by simp,rfl,by simp⟩
 ·refine kc1 ?_
  refine ko [1,2,3,4,9] 4 (by simp;rfl) ?_
  refine tops_split 9 (a0.Kind==6) (by simp) (fun c7=>?_) (fun c7=>?_)
  ·rw[c7] at hvv1
   refine ko [2,3,4,15] 6 (by simp;rfl) ?_
   refine tops_split 15 (a0.Content==a1) (by simp) (fun c8=>?_) (fun c8=>?_)
   ·rw[c8] at hvv1
    refine ko [3,4,21] 6 (by simp;rfl) ?_
    refine tops_split 21 (a0.Place==a2) (by simp) (fun c9=>?_) (fun c9=>?_)
    ·rw[c9] at hvv1
     refine ko [5] 6 (by simp;rfl) ?_
     refine tpN ?_
     cases hvv1
     exact⟨_,rfl,wk (by simp[wkI])⟩
    ·rw[c9] at hvv1
     refine kskip 4 [] (by kernel_rfl) ?_
     refine ko [5] 2 (by simp;rfl) ?_
     refine tpN ?_
     cases hvv1
     exact⟨_,rfl,wk (by simp[wkI])⟩
   ·rw[c8] at hvv1
    refine kskip 4 [] (by kernel_rfl) ?_
    refine ko [3,4,21] 2 (by simp;rfl) ?_
    refine kskip 4 [] (by kernel_rfl) ?_
    refine ko [5] 2 (by simp;rfl) ?_
    refine tpN ?_
    cases hvv1
    exact⟨_,rfl,wk (by simp[wkI])⟩
  ·rw[c7] at hvv1
   refine kskip 4 [] (by kernel_rfl) ?_
   refine ko [2,3,4,15] 2 (by simp;rfl) ?_
   refine kskip 4 [] (by kernel_rfl) ?_
   refine ko [3,4,21] 2 (by simp;rfl) ?_
   refine kskip 4 [] (by kernel_rfl) ?_
   refine ko [5] 2 (by simp;rfl) ?_
   refine tpN ?_
   cases hvv1
   exact⟨_,rfl,wk (by simp[wkI])⟩
theorem sYIndexFunc_api_Access_at_copies_removed_1_bbb_ok {a0:List api_Access} {b10:Int} {b11:Int} {b12:Int} {r:Int×Int×Int×Int} (h0:sYIndexFunc_api_Access_at_copies_removed_1_bbb a0 b10 b11 b12=some r):FnOK Tryz.prog 74 [[.d (.int .i64 b10)],[.d (.int .i64 b11)],[.d (.int .i64 b12)]] [.d (.slice (rowsF api_Access_row a0)),.fn 56 [.ptr (InO 0) 0,.ptr (InO 1) 0,.ptr (InO 2) 0]] (.d (.int .i64 r.1)) [[.d (.int .i64 r.2.1)],[.d (.int .i64 r.2.2.1)],[.d (.int .i64 r.2.2.2)]]:=by
 unfold sYIndexFunc_api_Access_at_copies_removed_1_bbb at h0
 refine fn_ok (nt:=19) (rs:=[.tmp 4]) Tryz.func74 rfl Tryz.ntmps74 rfl (by simp) (by decide) rfl fun K=>?_
 refine kr [0,1] (by simp;rfl) ?_
 refine trq ?_
 refine kr [0,1,7,8] (by simp;rfl) ?_
 replace h0:=bnd h0;obtain⟨e1,hI1,h0⟩:=h0
 refine tjv (fun v1:Int×Int×Int=>({ nt:=19,env:=[],box:=[(1000000,[.d (.int .i64 v1.1)]),(1000001,[.d (.int .i64 v1.2.1)]),(1000002,[.d (.int .i64 v1.2.2)])],vec:=[]}:St)) (fun v1=>.inl v1=e1) (fun v1 hI1e _ W1=>?_) ?_
 ·subst hI1e
  dsimp only at h0
  refine tr_wk W1 ?_
  refine kr [4] (by simp;rfl) ?_
  cases h0
  exact trr ⟨[],by simp,rfl,by simp⟩
 ·refine trb (tr_iter (fun s2:Int×Int×Int×Int=>({ nt:=19,env:=[(0,.d (.slice (rowsF api_Access_row a0))),(1,.fn 56 [.ptr 1000000 0,.ptr 1000001 0,.ptr 1000002 0]),(7,.d (.int .i64 ((a0).length:Int))),(8,.d (.int .i64 s2.1))],box:=[(1000000,[.d (.int .i64 s2.2.1)]),(1000001,[.d (.int .i64 s2.2.2.1)]),(1000002,[.d (.int .i64 s2.2.2.2)])],vec:=[]}:St)) hI1 (wk (by simp[wkI])) fun G1 s2 o1 h1 hg1 he1=>?_)
  unfold sYIndexFunc_api_Access_at_copies_removed_1_bbb_l0 at h1
  refine kr [0,1,7,8,9] (by simp;rfl) ?_
  refine trq ?_
  refine trc (b:=(decide (s2.1 < ((a0).length:Int)))) (by simp) (fun c5=>?_) (fun c5=>?_)
  ·rw[if_pos c5] at h1
   refine trk ?_
   refine trq ?_
   refine trb ?_
   refine kr [0,1,5,7,8] (by simp;rfl) ?_
   refine kc ?_
   replace h1:=bnd h1;obtain⟨x3,p3,h1⟩:=h1
   replace p3:=idx_some p3
   have p3':=p3;try simp at p3'
   refine ko [0,1,5,7,8,11,15] 5 (by simp[p3,p3'];rfl) ?_
   replace h1:=bnd h1;obtain⟨y4,hy4,h1⟩:=h1
   refine kcallV [0,1,5,7,8,16] [1000000,1000001,1000002] [] [] (copies_removed_1_cbbb_ok hy4) rfl rfl rfl Tryz.call56 (by simp) (by simp;rfl) ?_
   refine tpN ?_
   refine trc (b:=y4.1) (by simp) (fun c6=>?_) (fun c6=>?_)
   ·rw[if_pos c6] at h1
    refine kr [4] (by simp;rfl) ?_
    have k1:=he1 _ (Option.some.inj h1)
    subst k1
    dsimp only at h0
    cases h0
    exact trr ⟨[],by simp,rfl,by simp⟩
   ·rw[if_neg (by rw[c6];decide)] at h1
    refine trk ?_
    refine lr (by simp;rfl) ?_
    exact⟨_,hg1 _ (Option.some.inj h1),wk (by simp[wkI])⟩
  ·rw[if_neg (by rw[c5];decide)] at h1
   refine tr_exit ?_
   exact⟨_,he1 _ (Option.some.inj h1),wk (by simp[wkI])⟩
theorem sYContainsFunc_api_Access_at_copies_removed_1_bbb_ok {a0:List api_Access} {b10:Int} {b11:Int} {b12:Int} {r:Bool×Int×Int×Int} (h0:sYContainsFunc_api_Access_at_copies_removed_1_bbb a0 b10 b11 b12=some r):FnOK Tryz.prog 55 [[.d (.int .i64 b10)],[.d (.int .i64 b11)],[.d (.int .i64 b12)]] [.d (.slice (rowsF api_Access_row a0)),.fn 56 [.ptr (InO 0) 0,.ptr (InO 1) 0,.ptr (InO 2) 0]] (.d (.bool r.1)) [[.d (.int .i64 r.2.1)],[.d (.int .i64 r.2.2.1)],[.d (.int .i64 r.2.2.2)]]:=by
 unfold sYContainsFunc_api_Access_at_copies_removed_1_bbb at h0
 refine fn_ok (nt:=9) (rs:=[.tmp 4]) Tryz.func55 rfl Tryz.ntmps55 rfl (by simp) (by decide) rfl fun K=>?_
 refine kr [0,1] (by simp;rfl) ?_
 refine kc ?_
 refine ko [5,6] 2 (by simp;rfl) ?_
 replace h0:=bnd h0;obtain⟨y1,hy1,h0⟩:=h0
 refine kcall [7] [1000000,1000001,1000002] (sYIndexFunc_api_Access_at_copies_removed_1_bbb_ok hy1) rfl rfl rfl Tryz.call74 (by simp) (by simp;rfl) ?_
 refine ko [4] 2 (by simp;rfl) ?_
 refine tpN ?_
 cases h0
 exact trr ⟨[],by simp,rfl,by simp⟩
theorem copies_removed_ok {a0:List api_Access} {a1:Int} {a2:Int} {a3:Int} {r:Bool} (h0:copies_removed a0 a1 a2 a3=some r):FnOK Tryz.prog 30 [] [.d (.slice (rowsF api_Access_row a0)),.d (.int .i64 a1),.d (.int .i64 a2),.d (.int .i64 a3)] (.d (.bool r)) []:=by
 unfold copies_removed at h0
 refine fn_ok (nt:=12) (rs:=[.tmp 8]) Tryz.func30 rfl Tryz.ntmps30 rfl (by simp) (by decide) rfl fun K=>?_
 refine kr [0,5,6,7] (by simp;rfl) ?_
 refine kc ?_
 refine ko [9,10] 2 (by simp;rfl) ?_
 replace h0:=bnd h0;obtain⟨y1,hy1,h0⟩:=h0
 refine kcall [11] [5,6,7] (sYContainsFunc_api_Access_at_copies_removed_1_bbb_ok hy1) rfl rfl rfl Tryz.call55 (by simp) (by simp;rfl) ?_
 refine ko [8] 1 (by simp;rfl) ?_
 refine tpN ?_
 cases h0
 exact trr ⟨[],by simp,rfl,by simp⟩
theorem copies_Proves_ok {a0:api_Estate} {a1:Int} {a2:Int} {a3:Int} {a4:List Int} {r:Bool} (h0:copies_Proves a0 a1 a2 a3 a4=some r):FnOK Tryz.prog 11 [] [.agg (api_Estate_av a0),.d (.int .i64 a1),.d (.int .i64 a2),.d (.int .i64 a3),.d (.slice (rowsF (iRow .i64) a4))] (.d (.bool r)) []:=by
 unfold copies_Proves at h0
 refine fn_ok (nt:=156) (rs:=[.tmp 10]) Tryz.func11 rfl Tryz.ntmps11 rfl (by simp) (by decide) rfl fun K=>?_
 refine kr [1,2,3,4,5] (by simp;rfl) ?_
 refine trq ?_
 replace h0:=bnd h0;obtain⟨v1,hvv1,h0⟩:=h0
 refine sjv (fun v1_:Bool=>({ nt:=156,env:=[(1,.d (.int .i64 a1)),(2,.d (.int .i64 a2)),(3,.d (.int .i64 a3)),(4,.d (.slice (rowsF (iRow .i64) a4))),(5,.ptr 5 0),(40,.d (.bool v1_))],box:=[(5,[.d (.int .i64 a0.Places),.d (.slice (rowsF api_Access_row a0.Events))])],vec:=[]}:St)) (fun v1_=>v1=v1_) (fun v1_ e=>?_) ?_
 ·subst e
  refine trc (b:=v1) (by simp) (fun c9=>?_) (fun c9=>?_)
  ·rw[if_pos c9] at h0
   refine kr [10] (by simp;rfl) ?_
   cases h0
   exact trr ⟨[],by simp,rfl,by simp⟩
  ·rw[if_neg (by rw[c9];decide)] at h0
   refine trk ?_
   refine trq ?_
   replace h0:=bnd h0;obtain⟨v2,hvv2,h0⟩:=h0
   refine sjv (fun v2_:Bool=>({ nt:=156,env:=[(1,.d (.int .i64 a1)),(2,.d (.int .i64 a2)),(3,.d (.int .i64 a3)),(4,.d (.slice (rowsF (iRow .i64) a4))),(5,.ptr 5 0),(56,.d (.bool v2_))],box:=[(5,[.d (.int .i64 a0.Places),.d (.slice (rowsF api_Access_row a0.Events))])],vec:=[]}:St)) (fun v2_=>v2=v2_) (fun v2_ e=>?_) ?_
   ·subst e
    refine trc (b:=v2) (by simp) (fun c16=>?_) (fun c16=>?_)
    ·rw[if_pos c16] at h0
     refine kr [10] (by simp;rfl) ?_
     cases h0
     exact trr ⟨[],by simp,rfl,by simp⟩
    ·rw[if_neg (by rw[c16];decide)] at h0
     refine trk ?_
     refine trq ?_
     refine kr [1,2,3,4,5,57,58,59] (by simp;rfl) ?_
     replace h0:=bnd h0;obtain⟨e1,hI1,h0⟩:=h0
     refine tjv (fun v3:Unit=>({ nt:=156,env:=[(2,.d (.int .i64 a2)),(4,.d (.slice (rowsF (iRow .i64) a4))),(5,.ptr 5 0)],box:=[(5,[.d (.int .i64 a0.Places),.d (.slice (rowsF api_Access_row a0.Events))])],vec:=[]}:St)) (fun v3=>.inl v3=e1) (fun v3 hI1e _ W1=>?_) ?_
     ·subst hI1e
      dsimp only at h0
      refine tr_wk W1 ?_
      refine kd [[],[0],[],[],[3],[4],[2,4,5],[4,6],[1,4,7],[4,8],[4,9],[],[4,10,11],[4,12]] [] [] none [] 14 fol (by decide +kernel) (by simp) ?_
      replace h0:=bnd h0;obtain⟨x4,p47,h0⟩:=h0
      replace p47:=idx_some p47
      have p47':=p47;try simp at p47'
      replace h0:=bnd h0;obtain⟨x5,p48,h0⟩:=h0
      replace p48:=idx_some p48
      have p48':=p48;try simp at p48'
      refine dr_go 0 2 rfl (by simp (maxSteps:=1000000) [p47,p48,p47',p48'];rfl) ?_
      refine dr_go 2 2 rfl (by simp (maxSteps:=1000000) [p47,p48,p47',p48'];rfl) ?_
      refine dr_go 4 2 rfl (by simp (maxSteps:=1000000) [p47,p48,p47',p48'];rfl) ?_
      refine dr_go 6 2 rfl (by simp (maxSteps:=1000000) [p47,p48,p47',p48'];rfl) ?_
      refine dr_go 8 2 rfl (by simp (maxSteps:=1000000) [p47,p48,p47',p48'];rfl) ?_
      refine dr_go 10 2 rfl (by simp (maxSteps:=1000000) [p47,p48,p47',p48'];rfl) ?_
      refine dr_go 12 2 rfl (by simp (maxSteps:=1000000) [p47,p48,p47',p48'];rfl) ?_
      refine dr_end rfl (tpN ?_)
      cases h0
      exact trr ⟨[],by simp,rfl,by simp⟩
     ·refine trb (tr_iter (fun s6:Int=>({ nt:=156,env:=[(1,.d (.int .i64 a1)),(2,.d (.int .i64 a2)),(3,.d (.int .i64 a3)),(4,.d (.slice (rowsF (iRow .i64) a4))),(5,.ptr 5 0),(57,.d (.slice (rowsF (iRow .i64) a4))),(58,.d (.int .i64 ((a4).length:Int))),(59,.d (.int .i64 s6))],box:=[(5,[.d (.int .i64 a0.Places),.d (.slice (rowsF api_Access_row a0.Events))])],vec:=[]}:St)) hI1 (wk (by simp[wkI])) fun G1 s6 o1 h1 hg1 he1=>?_)
      unfold copies_Proves_l0 at h1
      refine kr [1,2,3,4,5,57,58,59,60] (by simp;rfl) ?_
      refine trq ?_
      refine trc (b:=(decide (s6 < ((a4).length:Int)))) (by simp) (fun c63=>?_) (fun c63=>?_)
      ·rw[if_pos c63] at h1
       refine trk ?_
       refine trq ?_
       refine trb ?_
       replace h1:=bnd h1;obtain⟨x7,p49,h1⟩:=h1
       replace p49:=idx_some p49
       have p49':=p49;try simp at p49'
       refine kr [1,2,3,4,5,11,12,57,58,59] (by simp[p49,p49'];rfl) ?_
       replace h1:=bnd h1;obtain⟨x8,p50,h1⟩:=h1
       replace p50:=idx_some p50
       have p50':=p50;try simp at p50'
       refine kr [1,2,3,4,5,11,12,13,57,58,59] (by simp[p50,p50'];rfl) ?_
       refine kr [1,2,3,4,5,11,12,13,14,57,58,59] (by simp;rfl) ?_
       refine sjv (fun v9:Int=>({ nt:=156,env:=[(1,.d (.int .i64 a1)),(2,.d (.int .i64 a2)),(3,.d (.int .i64 a3)),(4,.d (.slice (rowsF (iRow .i64) a4))),(5,.ptr 5 0),(11,.d (.int .i64 s6)),(12,.d (.int .i64 x7)),(13,.ptr 13 0),(14,.d (.int .i64 v9)),(57,.d (.slice (rowsF (iRow .i64) a4))),(58,.d (.int .i64 ((a4).length:Int))),(59,.d (.int .i64 s6))],box:=[(5,[.d (.int .i64 a0.Places),.d (.slice (rowsF api_Access_row a0.Events))]),(13,[.d (.int .i64 x8.Time),.d (.int .i64 x8.Kind),.d (.int .i64 x8.Place),.d (.int .i64 x8.Principal),.d (.int .i64 x8.Until),.d (.int .i64 x8.Content),.d (.int .i64 x8.From)])],vec:=[]}:St)) (fun v9=>copies_Proves_j1 s6 x8 a1 a4 a0 a3 x7 v9=some o1) (fun v9 h1=>?_) ?_
       ·unfold copies_Proves_j1 at h1
        replace h1:=bnd h1;obtain⟨v10,hvv10,h1⟩:=h1
        refine sjv (fun v10_:Bool=>({ nt:=156,env:=[(1,.d (.int .i64 a1)),(2,.d (.int .i64 a2)),(3,.d (.int .i64 a3)),(4,.d (.slice (rowsF (iRow .i64) a4))),(5,.ptr 5 0),(11,.d (.int .i64 s6)),(12,.d (.int .i64 x7)),(13,.ptr 13 0),(14,.d (.int .i64 v9)),(15,.d (.bool v10_)),(57,.d (.slice (rowsF (iRow .i64) a4))),(58,.d (.int .i64 ((a4).length:Int))),(59,.d (.int .i64 s6))],box:=[(5,[.d (.int .i64 a0.Places),.d (.slice (rowsF api_Access_row a0.Events))]),(13,[.d (.int .i64 x8.Time),.d (.int .i64 x8.Kind),.d (.int .i64 x8.Place),.d (.int .i64 x8.Principal),.d (.int .i64 x8.Until),.d (.int .i64 x8.Content),.d (.int .i64 x8.From)])],vec:=[]}:St)) (fun v10_=>v10=v10_) (fun v10_ e=>?_) ?_
        ·subst e
         replace h1:=bnd h1;obtain⟨v11,hvv11,h1⟩:=h1
         refine sjv (fun v11_:Bool=>({ nt:=156,env:=[(1,.d (.int .i64 a1)),(2,.d (.int .i64 a2)),(3,.d (.int .i64 a3)),(4,.d (.slice (rowsF (iRow .i64) a4))),(5,.ptr 5 0),(12,.d (.int .i64 x7)),(13,.ptr 13 0),(14,.d (.int .i64 v9)),(15,.d (.bool v10)),(16,.d (.bool v11_)),(57,.d (.slice (rowsF (iRow .i64) a4))),(58,.d (.int .i64 ((a4).length:Int))),(59,.d (.int .i64 s6))],box:=[(5,[.d (.int .i64 a0.Places),.d (.slice (rowsF api_Access_row a0.Events))]),(13,[.d (.int .i64 x8.Time),.d (.int .i64 x8.Kind),.d (.int .i64 x8.Place),.d (.int .i64 x8.Principal),.d (.int .i64 x8.Until),.d (.int .i64 x8.Content),.d (.int .i64 x8.From)])],vec:=[]}:St)) (fun v11_=>v11=v11_) (fun v11_ e=>?_) ?_
         ·subst e
          replace h1:=bnd h1;obtain⟨v12,hvv12,h1⟩:=h1
          refine sjv (fun v12_:Bool=>({ nt:=156,env:=[(1,.d (.int .i64 a1)),(2,.d (.int .i64 a2)),(3,.d (.int .i64 a3)),(4,.d (.slice (rowsF (iRow .i64) a4))),(5,.ptr 5 0),(57,.d (.slice (rowsF (iRow .i64) a4))),(58,.d (.int .i64 ((a4).length:Int))),(59,.d (.int .i64 s6)),(141,.d (.bool v12_))],box:=[(5,[.d (.int .i64 a0.Places),.d (.slice (rowsF api_Access_row a0.Events))])],vec:=[]}:St)) (fun v12_=>v12=v12_) (fun v12_ e=>?_) ?_
          ·subst e
           refine trc (b:=v12) (by simp) (fun c105=>?_) (fun c105=>?_)
           ·rw[if_pos c105] at h1
            refine kr [10] (by simp;rfl) ?_
            have k1:=he1 _ (Option.some.inj h1)
            subst k1
            dsimp only at h0
            cases h0
            exact trr ⟨[],by simp,rfl,by simp⟩
           ·rw[if_neg (by rw[c105];decide)] at h1
            refine trk ?_
            refine lr (by simp;rfl) ?_
            exact⟨_,hg1 _ (Option.some.inj h1),wk (by simp[wkI])⟩
          ·refine kd1 [[],[0],[1],[2],[2,3],[2,4],[5],[6],[6,7],[6],[6,8,9],[6,10],[11],[12],[12,13],[12],[12,15],[12],[12,14,16,17],[12],[12],[12,20],[12],[12,18,19,21,22],[12,23]] [] [] none [] 25 fol (by decide +kernel) (by simp) ?_
           refine dr_go 0 2 rfl (by simp (maxSteps:=1000000);rfl) ?_
           refine dr_go 2 1 rfl (by simp (maxSteps:=1000000);rfl) ?_
           refine dr_split 2 119 (!v10) (by simp) (fun c114=>?_) (fun c114=>?_)
           ·rw[if_pos c114] at hvv12
            refine dr_go 3 2 rfl (by simp (maxSteps:=1000000);rfl) ?_
            refine dr_go 5 2 rfl (by simp (maxSteps:=1000000);rfl) ?_
            refine dr_split 6 123 (!v11) (by simp) (fun c115=>?_) (fun c115=>?_)
            ·rw[if_pos c115] at hvv12
             refine dr_skip 7 156 [some 124,some 125,some 126,some 127] rfl rfl (by decide) (by kernel_rfl) (by simp only[skEf,List.map_cons,List.map_nil,List.cons_append,List.nil_append];rfl) ?_
             refine dr_go 11 2 rfl (by simp (maxSteps:=1000000);rfl) ?_
             refine dr_skip 13 156 [some 130,some 131,some 132,some 133,some 134,some 135,some 136,some 137,some 138,some 139,some 140] rfl rfl (by decide) (by kernel_rfl) (by simp only[skEf,List.map_cons,List.map_nil,List.cons_append,List.nil_append];rfl) ?_
             refine dr_go 24 1 rfl (by simp (maxSteps:=1000000);rfl) ?_
             refine dr_end rfl (tpN ?_)
             cases hvv12
             exact⟨_,rfl,wk (by simp[wkI])⟩
            ·rw[if_neg (by rw[c115];decide)] at hvv12
             refine dr_go 7 2 rfl (by simp (maxSteps:=1000000);rfl) ?_
             refine dr_go 9 2 rfl (by simp (maxSteps:=1000000);rfl) ?_
             refine dr_go 11 2 rfl (by simp (maxSteps:=1000000);rfl) ?_
             refine dr_split 12 129 (decide (a3 < x8.Time)) (by simp) (fun c116=>?_) (fun c116=>?_)
             ·rw[if_pos c116] at hvv12
              refine dr_skip 13 156 [some 130,some 131,some 132,some 133,some 134,some 135,some 136,some 137,some 138,some 139,some 140] rfl rfl (by decide) (by kernel_rfl) (by simp only[skEf,List.map_cons,List.map_nil,List.cons_append,List.nil_append];rfl) ?_
              refine dr_go 24 1 rfl (by simp (maxSteps:=1000000);rfl) ?_
              refine dr_end rfl (tpN ?_)
              cases hvv12
              exact⟨_,rfl,wk (by simp[wkI])⟩
             ·rw[if_neg (by rw[c116];decide)] at hvv12
              replace hvv12:=bnd hvv12;obtain⟨_,p80,hvv12⟩:=hvv12
              replace p80:=ck_some p80
              have p80':=p80;try simp at p80'
              refine dr_go 13 2 rfl (by simp (maxSteps:=1000000) [p80,p80'];rfl) ?_
              refine dr_go 15 2 rfl (by simp (maxSteps:=1000000) [p80,p80'];rfl) ?_
              refine dr_go 17 2 rfl (by simp (maxSteps:=1000000) [p80,p80'];rfl) ?_
              refine dr_go 19 2 rfl (by simp (maxSteps:=1000000) [p80,p80'];rfl) ?_
              refine dr_go 21 2 rfl (by simp (maxSteps:=1000000) [p80,p80'];rfl) ?_
              replace hvv12:=bnd hvv12;obtain⟨y13,hy13,hvv12⟩:=hvv12
              refine dr_call 23 [] (copies_removed_ok hy13) rfl rfl rfl rfl rfl Tryz.call30 (by simp) ?_
              refine dr_go 24 1 rfl (by simp (maxSteps:=1000000);rfl) ?_
              refine dr_end rfl (tpN ?_)
              cases hvv12
              exact⟨_,rfl,wk (by simp[wkI])⟩
           ·rw[if_neg (by rw[c114];decide)] at hvv12
            refine dr_skip 3 156 [some 120,some 121] rfl rfl (by decide) (by kernel_rfl) (by simp only[skEf,List.map_cons,List.map_nil,List.cons_append,List.nil_append];rfl) ?_
            refine dr_go 5 2 rfl (by simp (maxSteps:=1000000);rfl) ?_
            refine dr_go 7 2 rfl (by simp (maxSteps:=1000000);rfl) ?_
            refine dr_go 9 2 rfl (by simp (maxSteps:=1000000);rfl) ?_
            refine dr_go 11 2 rfl (by simp (maxSteps:=1000000);rfl) ?_
            refine dr_split 12 129 (decide (a3 < x8.Time)) (by simp) (fun c117=>?_) (fun c117=>?_)
            ·rw[if_pos c117] at hvv12
             refine dr_skip 13 156 [some 130,some 131,some 132,some 133,some 134,some 135,some 136,some 137,some 138,some 139,some 140] rfl rfl (by decide) (by kernel_rfl) (by simp only[skEf,List.map_cons,List.map_nil,List.cons_append,List.nil_append];rfl) ?_
             refine dr_go 24 1 rfl (by simp (maxSteps:=1000000);rfl) ?_
             refine dr_end rfl (tpN ?_)
             cases hvv12
             exact⟨_,rfl,wk (by simp[wkI])⟩
            ·rw[if_neg (by rw[c117];decide)] at hvv12
             replace hvv12:=bnd hvv12;obtain⟨_,p81,hvv12⟩:=hvv12
             replace p81:=ck_some p81
             have p81':=p81;try simp at p81'
             refine dr_go 13 2 rfl (by simp (maxSteps:=1000000) [p81,p81'];rfl) ?_
             refine dr_go 15 2 rfl (by simp (maxSteps:=1000000) [p81,p81'];rfl) ?_
             refine dr_go 17 2 rfl (by simp (maxSteps:=1000000) [p81,p81'];rfl) ?_
             refine dr_go 19 2 rfl (by simp (maxSteps:=1000000) [p81,p81'];rfl) ?_
             refine dr_go 21 2 rfl (by simp (maxSteps:=1000000) [p81,p81'];rfl) ?_
             replace hvv12:=bnd hvv12;obtain⟨y14,hy14,hvv12⟩:=hvv12
             refine dr_call 23 [] (copies_removed_ok hy14) rfl rfl rfl rfl rfl Tryz.call30 (by simp) ?_
             refine dr_go 24 1 rfl (by simp (maxSteps:=1000000);rfl) ?_
             refine dr_end rfl (tpN ?_)
             cases hvv12
             exact⟨_,rfl,wk (by simp[wkI])⟩
         ·refine kd1 [[],[0],[1],[2],[2,3],[2,4],[2,5],[6],[7],[7,8],[7],[7,10],[7],[7],[7,13],[7,12,14],[7,15],[7,11,16],[7,17],[7,18],[7,9,19],[7,20],[21]] [] [] none [] 23 fol (by decide +kernel) (by simp) ?_
          refine dr_go 0 2 rfl (by simp (maxSteps:=1000000);rfl) ?_
          refine dr_go 2 1 rfl (by simp (maxSteps:=1000000);rfl) ?_
          refine dr_split 2 97 (decide (0 < s6)) (by simp) (fun c122=>?_) (fun c122=>?_)
          ·rw[if_pos c122] at hvv11
           refine dr_go 3 2 rfl (by simp (maxSteps:=1000000);rfl) ?_
           refine dr_go 5 2 rfl (by simp (maxSteps:=1000000);rfl) ?_
           refine dr_go 7 1 rfl (by simp (maxSteps:=1000000);rfl) ?_
           refine dr_split 7 102 (x8.Kind==7) (by simp) (fun c123=>?_) (fun c123=>?_)
           ·rw[if_pos c123] at hvv11
            replace hvv11:=bnd hvv11;obtain⟨x15,p86,hvv11⟩:=hvv11
            replace p86:=idx_some p86
            have p86':=p86;try simp at p86'
            replace hvv11:=bnd hvv11;obtain⟨x16,p87,hvv11⟩:=hvv11
            replace p87:=idx_some p87
            have p87':=p87;try simp at p87'
            refine dr_go 8 2 rfl (by simp (maxSteps:=1000000) [p86,p87,p86',p87'];rfl) ?_
            refine dr_go 10 2 rfl (by simp (maxSteps:=1000000) [p86,p87,p86',p87'];rfl) ?_
            refine dr_go 12 2 rfl (by simp (maxSteps:=1000000) [p86,p87,p86',p87'];rfl) ?_
            refine dr_go 14 2 rfl (by simp (maxSteps:=1000000) [p86,p87,p86',p87'];rfl) ?_
            refine dr_go 16 2 rfl (by simp (maxSteps:=1000000) [p86,p87,p86',p87'];rfl) ?_
            refine dr_go 18 2 rfl (by simp (maxSteps:=1000000) [p86,p87,p86',p87'];rfl) ?_
            refine dr_go 20 2 rfl (by simp (maxSteps:=1000000) [p86,p87,p86',p87'];rfl) ?_
            refine dr_go 22 1 rfl (by simp (maxSteps:=1000000) [p86,p87,p86',p87'];rfl) ?_
            refine dr_end rfl (tpN ?_)
            cases hvv11
            exact⟨_,rfl,wk (by simp[wkI])⟩
           ·rw[if_neg (by rw[c123];decide)] at hvv11
            refine dr_skip 8 156 [some 103,some 104,some 105,some 106,some 107,some 108,some 109,some 110,some 111,some 112,some 113,some 114,some 115] rfl rfl (by decide) (by kernel_rfl) (by simp only[skEf,List.map_cons,List.map_nil,List.cons_append,List.nil_append];rfl) ?_
            refine dr_go 21 2 rfl (by simp (maxSteps:=1000000);rfl) ?_
            refine dr_end rfl (tpN ?_)
            cases hvv11
            exact⟨_,rfl,wk (by simp[wkI])⟩
          ·rw[if_neg (by rw[c122];decide)] at hvv11
           refine dr_skip 3 156 [some 98,some 99,some 100] rfl rfl (by decide) (by kernel_rfl) (by simp only[skEf,List.map_cons,List.map_nil,List.cons_append,List.nil_append];rfl) ?_
           refine dr_go 6 2 rfl (by simp (maxSteps:=1000000);rfl) ?_
           refine dr_skip 8 156 [some 103,some 104,some 105,some 106,some 107,some 108,some 109,some 110,some 111,some 112,some 113,some 114,some 115] rfl rfl (by decide) (by kernel_rfl) (by simp only[skEf,List.map_cons,List.map_nil,List.cons_append,List.nil_append];rfl) ?_
           refine dr_go 21 2 rfl (by simp (maxSteps:=1000000);rfl) ?_
           refine dr_end rfl (tpN ?_)
           cases hvv11
           exact⟨_,rfl,wk (by simp[wkI])⟩
        ·refine kc1 ?_
         refine ko [1,2,3,4,5,11,12,13,14,57,58,59,84] 3 (by simp;rfl) ?_
         refine tops_split 84 (s6==0) (by simp) (fun c124=>?_) (fun c124=>?_)
         ·rw[c124] at hvv10
          refine ko [1,2,3,4,5,11,12,13,14,57,58,59,85,86,87,89] 5 (by simp;rfl) ?_
          refine tops_split 89 (x8.Kind==5) (by simp) (fun c125=>?_) (fun c125=>?_)
          ·rw[c125] at hvv10
           refine ko [1,2,3,4,5,11,12,13,14,15,57,58,59,85,86,87,90,91,92,93] 6 (by simp;rfl) ?_
           refine tpN ?_
           cases hvv10
           exact⟨_,rfl,wk (by simp[wkI])⟩
          ·rw[c125] at hvv10
           refine kskip 4 [] (by kernel_rfl) ?_
           refine ko [1,2,3,4,5,11,12,13,14,15,57,58,59,85,86,87] 2 (by simp;rfl) ?_
           refine tpN ?_
           cases hvv10
           exact⟨_,rfl,wk (by simp[wkI])⟩
         ·rw[c124] at hvv10
          refine kskip 3 [] (by kernel_rfl) ?_
          refine ko [1,2,3,4,5,11,12,13,14,57,58,59,89] 2 (by simp;rfl) ?_
          refine kskip 4 [] (by kernel_rfl) ?_
          refine ko [1,2,3,4,5,11,12,13,14,15,57,58,59] 2 (by simp;rfl) ?_
          refine tpN ?_
          cases hvv10
          exact⟨_,rfl,wk (by simp[wkI])⟩
       ·refine kr [1,2,3,4,5,11,12,13,14,57,58,59,76] (by simp;rfl) ?_
        refine trc (b:=(decide ((IntKind.i64.wrap (s6+1)) < ((a4).length:Int)))) (by simp) (fun c126=>?_) (fun c126=>?_)
        ·rw[if_pos c126] at h1
         replace h1:=bnd h1;obtain⟨x17,p88,h1⟩:=h1
         replace p88:=idx_some p88
         have p88':=p88;try simp at p88'
         refine lr (by simp[p88,p88'];rfl) ?_
         exact⟨_,h1,wk (by simp[wkI])⟩
        ·rw[if_neg (by rw[c126];decide)] at h1
         refine trk ?_
         exact⟨_,h1,wk (by simp[wkI])⟩
      ·rw[if_neg (by rw[c63];decide)] at h1
       refine tr_exit ?_
       exact⟨_,he1 _ (Option.some.inj h1),wk (by simp[wkI])⟩
   ·refine kd1 [[],[0],[1],[2],[3],[4],[4],[4,6],[4,7],[4,5,7,8],[4,7,9],[4],[4,11],[4,12],[4,7,10,13],[4,7,13,14]] [] [] none [] 16 fol (by decide +kernel) (by simp) ?_
    replace hvv2:=bnd hvv2;obtain⟨x20,p93,hvv2⟩:=hvv2
    replace p93:=idx_some p93
    have p93':=p93;try simp at p93'
    refine dr_go 0 2 rfl (by simp (maxSteps:=1000000) [p93,p93'];rfl) ?_
    refine dr_go 2 2 rfl (by simp (maxSteps:=1000000) [p93,p93'];rfl) ?_
    refine dr_go 4 1 rfl (by simp (maxSteps:=1000000) [p93,p93'];rfl) ?_
    refine dr_split 4 45 (decide (x20 < 0)) (by simp) (fun c129=>?_) (fun c129=>?_)
    ·rw[if_pos c129] at hvv2
     refine dr_skip 5 156 [some 46,some 47,some 48,some 49,some 50,some 51,some 52,some 53,some 54,some 55] rfl rfl (by decide) (by kernel_rfl) (by simp only[skEf,List.map_cons,List.map_nil,List.cons_append,List.nil_append];rfl) ?_
     refine dr_go 15 1 rfl (by simp (maxSteps:=1000000);rfl) ?_
     refine dr_end rfl (tpN ?_)
     cases hvv2
     exact⟨_,rfl,wk (by simp[wkI])⟩
    ·rw[if_neg (by rw[c129];decide)] at hvv2
     replace hvv2:=bnd hvv2;obtain⟨x21,p94,hvv2⟩:=hvv2
     replace p94:=idx_some p94
     have p94':=p94;try simp at p94'
     refine dr_go 5 2 rfl (by simp (maxSteps:=1000000) [p94,p94'];rfl) ?_
     refine dr_go 7 2 rfl (by simp (maxSteps:=1000000) [p94,p94'];rfl) ?_
     refine dr_go 9 2 rfl (by simp (maxSteps:=1000000) [p94,p94'];rfl) ?_
     refine dr_go 11 2 rfl (by simp (maxSteps:=1000000) [p94,p94'];rfl) ?_
     refine dr_go 13 2 rfl (by simp (maxSteps:=1000000) [p94,p94'];rfl) ?_
     refine dr_go 15 1 rfl (by simp (maxSteps:=1000000) [p94,p94'];rfl) ?_
     refine dr_end rfl (tpN ?_)
     cases hvv2
     exact⟨_,rfl,wk (by simp[wkI])⟩
 ·refine kc1 ?_
  refine ko [1,2,3,4,5,17] 1 (by simp;rfl) ?_
  replace hvv1:=bnd hvv1;obtain⟨y22,hy22,hvv1⟩:=hvv1
  refine kcall [1,2,3,4,5,18] [] (access_Check_ok hy22) rfl rfl rfl Tryz.call23 (by simp) (by simp;rfl) ?_
  refine ko [1,2,3,4,5,20] 2 (by simp;rfl) ?_
  refine tops_split 20 (y22 != 0) (by simp) (fun c130=>?_) (fun c130=>?_)
  ·rw[if_pos c130] at hvv1
   refine kskip 3 [] (by kernel_rfl) ?_
   refine ko [1,2,3,4,5,25] 2 (by simp;rfl) ?_
   refine kskip 4 [] (by kernel_rfl) ?_
   refine ko [1,2,3,4,5,31] 2 (by simp;rfl) ?_
   refine kskip 3 [] (by kernel_rfl) ?_
   refine ko [1,2,3,4,5,36] 2 (by simp;rfl) ?_
   refine kskip 3 [] (by kernel_rfl) ?_
   refine ko [1,2,3,4,5,40] 1 (by simp;rfl) ?_
   refine tpN ?_
   cases hvv1
   exact⟨_,rfl,wk (by simp[wkI])⟩
  ·rw[if_neg (by rw[c130];decide)] at hvv1
   refine ko [1,2,3,4,5,20,21] 1 (by simp;rfl) ?_
   replace hvv1:=bnd hvv1;obtain⟨y23,hy23,hvv1⟩:=hvv1
   refine kcall [1,2,3,4,5,20,22] [] (access_Content_ok hy23) rfl rfl rfl Tryz.call24 (by simp) (by simp;rfl) ?_
   refine ko [1,2,3,4,5,25] 3 (by simp;rfl) ?_
   refine tops_split 25 (!y23) (by simp) (fun c131=>?_) (fun c131=>?_)
   ·rw[if_pos c131] at hvv1
    refine kskip 4 [] (by kernel_rfl) ?_
    refine ko [1,2,3,4,5,31] 2 (by simp;rfl) ?_
    refine kskip 3 [] (by kernel_rfl) ?_
    refine ko [1,2,3,4,5,36] 2 (by simp;rfl) ?_
    refine kskip 3 [] (by kernel_rfl) ?_
    refine ko [1,2,3,4,5,40] 1 (by simp;rfl) ?_
    refine tpN ?_
    cases hvv1
    exact⟨_,rfl,wk (by simp[wkI])⟩
   ·rw[if_neg (by rw[c131];decide)] at hvv1
    refine ko [1,2,3,4,5,25,26,27] 2 (by simp;rfl) ?_
    replace hvv1:=bnd hvv1;obtain⟨y24,hy24,hvv1⟩:=hvv1
    refine kcall [1,2,3,4,5,25,28] [] (access_Place_ok hy24) rfl rfl rfl Tryz.call27 (by simp) (by simp;rfl) ?_
    refine ko [1,2,3,4,5,31] 3 (by simp;rfl) ?_
    refine tops_split 31 (!y24) (by simp) (fun c132=>?_) (fun c132=>?_)
    ·rw[if_pos c132] at hvv1
     refine kskip 3 [] (by kernel_rfl) ?_
     refine ko [1,2,3,4,5,36] 2 (by simp;rfl) ?_
     refine kskip 3 [] (by kernel_rfl) ?_
     refine ko [1,2,3,4,5,40] 1 (by simp;rfl) ?_
     refine tpN ?_
     cases hvv1
     exact⟨_,rfl,wk (by simp[wkI])⟩
    ·rw[if_neg (by rw[c132];decide)] at hvv1
     refine ko [1,2,3,4,5,36] 5 (by simp;rfl) ?_
     refine tops_split 36 (((a4).length:Int)==0) (by simp) (fun c133=>?_) (fun c133=>?_)
     ·rw[if_pos c133] at hvv1
      refine kskip 3 [] (by kernel_rfl) ?_
      refine ko [1,2,3,4,5,40] 1 (by simp;rfl) ?_
      refine tpN ?_
      cases hvv1
      exact⟨_,rfl,wk (by simp[wkI])⟩
     ·rw[if_neg (by rw[c133];decide)] at hvv1
      refine ko [1,2,3,4,5,36,37] 1 (by simp;rfl) ?_
      replace hvv1:=bnd hvv1;obtain⟨y25,hy25,hvv1⟩:=hvv1
      refine kcall [1,2,3,4,5,36,38] [] (directory_Ascending_ok hy25) rfl rfl rfl Tryz.call29 (by simp) (by simp;rfl) ?_
      refine ko [1,2,3,4,5,40] 2 (by simp;rfl) ?_
      refine tpN ?_
      cases hvv1
      exact⟨_,rfl,wk (by simp[wkI])⟩
theorem access_Grant_ok {a0:api_Estate} {a1:Int} {a2:Int} {a3:Int} {r:Int×Bool} (h0:access_Grant a0 a1 a2 a3=some r):FnOK Tryz.prog 34 [] [.agg (api_Estate_av a0),.d (.int .i64 a1),.d (.int .i64 a2),.d (.int .i64 a3)] (.tup [.d (.int .i64 r.1),.d (.bool r.2)]) []:=by
 unfold access_Grant at h0
 refine fn_ok (nt:=27) (rs:=[.tmp 8,.tmp 9]) Tryz.func34 rfl Tryz.ntmps34 rfl (by simp) (by decide) rfl fun K=>?_
 refine kr [1,2,3,4] (by simp;rfl) ?_
 refine trq ?_
 refine kc ?_
 refine ko [1,2,3,4,12,13] 2 (by simp;rfl) ?_
 replace h0:=bnd h0;obtain⟨y1,hy1,h0⟩:=h0
 refine kcall [1,2,3,4,14] [] (access_known_ok hy1) rfl rfl rfl Tryz.call57 (by simp) (by simp;rfl) ?_
 refine ko [1,2,3,4,15] 1 (by simp;rfl) ?_
 refine tpN ?_
 refine trc (b:=(!y1)) (by simp) (fun c1=>?_) (fun c1=>?_)
 ·rw[if_pos c1] at h0
  refine kr [8,9] (by simp;rfl) ?_
  cases h0
  exact trr ⟨[],by simp,rfl,by simp⟩
 ·rw[if_neg (by rw[c1];decide)] at h0
  refine trk ?_
  refine kc ?_
  refine ko [2,17,18,19] 3 (by simp;rfl) ?_
  replace h0:=bnd h0;obtain⟨y2,hy2,h0⟩:=h0
  refine kcall [2,20] [] (access_grants_ok hy2) rfl rfl rfl Tryz.call59 (by simp) (by simp;rfl) ?_
  refine ko [10,11] 7 (by simp;rfl) ?_
  refine tpN ?_
  refine kr [8,9] (by simp;rfl) ?_
  cases h0
  exact trr ⟨[],by simp,rfl,by simp⟩
theorem readers_Why_ok {a0:api_Directory} {a1:api_Estate} {a2:Int} {a3:Int} {a4:Int} {r:api_Reading×Bool} (h0:readers_Why a0 a1 a2 a3 a4=some r):FnOK Tryz.prog 12 [] [.agg (api_Directory_av a0),.agg (api_Estate_av a1),.d (.int .i64 a2),.d (.int .i64 a3),.d (.int .i64 a4)] (.tup [.agg (api_Reading_av r.1),.d (.bool r.2)]) []:=by
 unfold readers_Why at h0
 refine fn_ok (nt:=73) (rs:=[.cell 10 42,.tmp 11]) Tryz.func12 rfl Tryz.ntmps12 rfl (by simp) (by decide) rfl fun K=>?_
 refine kr [2,3,4,5,6,10] (by simp;rfl) ?_
 refine trq ?_
 refine kc ?_
 refine ko [2,3,4,5,6,10,17,18,19,20,21] 5 (by simp;rfl) ?_
 replace h0:=bnd h0;obtain⟨y1,hy1,h0⟩:=h0
 refine kcall [2,3,4,5,6,10,22] [] (readers_May_ok hy1) rfl rfl rfl Tryz.call31 (by simp) (by simp;rfl) ?_
 refine ko [2,3,4,5,6,10,23] 1 (by simp;rfl) ?_
 refine tpN ?_
 refine trc (b:=(!y1)) (by simp) (fun c1=>?_) (fun c1=>?_)
 ·rw[if_pos c1] at h0
  refine kr [10,11] (by simp;rfl) ?_
  cases h0
  exact trr ⟨[],by simp,rfl,by simp⟩
 ·rw[if_neg (by rw[c1];decide)] at h0
  refine trk ?_
  refine trq ?_
  refine kc ?_
  refine ko [2,3,4,5,6,10,26,27,28] 3 (by simp;rfl) ?_
  replace h0:=bnd h0;obtain⟨y2,hy2,h0⟩:=h0
  refine kcall [2,3,4,5,6,10,29] [] (access_Linked_ok hy2) rfl rfl rfl Tryz.call32 (by simp) (by simp;rfl) ?_
  refine ko [2,3,4,5,6,10,12,13] 5 (by simp;rfl) ?_
  refine tpN ?_
  refine kr [2,3,4,5,6,10,12,32] (by simp;rfl) ?_
  refine trc (b:=y2.2) (by simp) (fun c2=>?_) (fun c2=>?_)
  ·rw[if_pos c2] at h0
   refine kr [10,11] (by simp;rfl) ?_
   cases h0
   exact trr ⟨[],by simp,rfl,by simp⟩
  ·rw[if_neg (by rw[c2];decide)] at h0
   refine trk ?_
   refine kc ?_
   refine ko [2,3,4,5,6,10,38,39,40,41,42] 5 (by simp;rfl) ?_
   replace h0:=bnd h0;obtain⟨y3,hy3,h0⟩:=h0
   refine kcall [2,3,4,5,6,10,43] [] (readers_grant_ok hy3) rfl rfl rfl Tryz.call33 (by simp) (by simp;rfl) ?_
   refine ko [2,3,4,5,6,10,14] 5 (by simp;rfl) ?_
   refine tpN ?_
   refine kr [2,3,4,5,6,10,14,16] (by simp;rfl) ?_
   refine kc ?_
   refine ko [2,4,5,10,14,16,52,53,54,55] 4 (by simp;rfl) ?_
   replace h0:=bnd h0;obtain⟨y4,hy4,h0⟩:=h0
   refine kcall [2,4,5,10,14,16,56] [] (access_Grant_ok hy4) rfl rfl rfl Tryz.call34 (by simp) (by simp;rfl) ?_
   refine ko [2,4,5,10,14,16] 5 (by simp;rfl) ?_
   refine tpN ?_
   refine trq ?_
   refine kr [2,4,5,10,14,16,62] (by simp;rfl) ?_
   refine trc (b:=(y3.1 != a2)) (by simp) (fun c3=>?_) (fun c3=>?_)
   ·rw[if_pos c3] at h0
    refine kc1 ?_
    refine ko [10,16,64,65,66,67] 4 (by simp;rfl) ?_
    replace h0:=bnd h0;obtain⟨y5,hy5,h0⟩:=h0
    refine kcall [10,16,68] [] (directory_Why_ok hy5) rfl rfl rfl Tryz.call35 (by simp) (by simp;rfl) ?_
    refine ko [10,16] 5 (by simp;rfl) ?_
    refine tpN ?_
    refine kr [10,11] (by simp;rfl) ?_
    cases h0
    exact trr ⟨[],by simp,rfl,by simp⟩
   ·rw[if_neg (by rw[c3];decide)] at h0
    refine trk ?_
    refine kr [10,11] (by simp;rfl) ?_
    cases h0
    exact trr ⟨[49],by simp,rfl,by simp⟩
theorem directory_Closed_1_cb_ok {a0:Int} {a1:api_Directory} {r:Bool×api_Directory} (h0:directory_Closed_1_cb a0 a1=some r):FnOK Tryz.prog 66 [api_Directory_av a1] [.d (.int .i64 a0),.ptr (InO 0) 0] (.d (.bool r.1)) [api_Directory_av r.2]:=by
 unfold directory_Closed_1_cb at h0
 refine fn_ok (nt:=8) (rs:=[.tmp 3]) Tryz.func66 rfl Tryz.ntmps66 rfl (by simp) (by decide) rfl fun K=>?_
 refine kr [0,1] (by simp;rfl) ?_
 refine kc ?_
 refine ko [4,5] 2 (by simp;rfl) ?_
 replace h0:=bnd h0;obtain⟨y1,hy1,h0⟩:=h0
 refine kcall [6] [] (directory_exists_ok hy1) rfl rfl rfl Tryz.call67 (by simp) (by simp;rfl) ?_
 refine ko [3] 2 (by simp;rfl) ?_
 refine tpN ?_
 cases h0
 exact trr ⟨[],by simp,rfl,by simp⟩
theorem sYIndexFunc_int_at_directory_Closed_1_b_ok {a0:List Int} {b10:api_Directory} {r:Int×api_Directory} (h0:sYIndexFunc_int_at_directory_Closed_1_b a0 b10=some r):FnOK Tryz.prog 69 [api_Directory_av b10] [.d (.slice (rowsF (iRow .i64) a0)),.fn 66 [.ptr (InO 0) 0]] (.d (.int .i64 r.1)) [api_Directory_av r.2]:=by
 unfold sYIndexFunc_int_at_directory_Closed_1_b at h0
 refine fn_ok (nt:=19) (rs:=[.tmp 4]) Tryz.func69 rfl Tryz.ntmps69 rfl (by simp) (by decide) rfl fun K=>?_
 refine kr [0,1] (by simp;rfl) ?_
 refine trq ?_
 refine kr [0,1,7,8] (by simp;rfl) ?_
 replace h0:=bnd h0;obtain⟨e1,hI1,h0⟩:=h0
 refine tjv (fun v1:(List Int)×(List api_Member)=>({ nt:=19,env:=[],box:=[(1000000,[.d (.slice (rowsF (iRow .i64) v1.1)),.d (.slice (rowsF api_Member_row v1.2))])],vec:=[]}:St)) (fun v1=>.inl v1=e1) (fun v1 hI1e _ W1=>?_) ?_
 ·subst hI1e
  dsimp only at h0
  refine tr_wk W1 ?_
  refine kr [4] (by simp;rfl) ?_
  cases h0
  exact trr ⟨[],by simp,rfl,by simp⟩
 ·refine trb (tr_iter (fun s2:Int×(List Int)×(List api_Member)=>({ nt:=19,env:=[(0,.d (.slice (rowsF (iRow .i64) a0))),(1,.fn 66 [.ptr 1000000 0]),(7,.d (.int .i64 ((a0).length:Int))),(8,.d (.int .i64 s2.1))],box:=[(1000000,[.d (.slice (rowsF (iRow .i64) s2.2.1)),.d (.slice (rowsF api_Member_row s2.2.2))])],vec:=[]}:St)) hI1 (wk (by simp[wkI])) fun G1 s2 o1 h1 hg1 he1=>?_)
  unfold sYIndexFunc_int_at_directory_Closed_1_b_l0 at h1
  refine kr [0,1,7,8,9] (by simp;rfl) ?_
  refine trq ?_
  refine trc (b:=(decide (s2.1 < ((a0).length:Int)))) (by simp) (fun c5=>?_) (fun c5=>?_)
  ·rw[if_pos c5] at h1
   refine trk ?_
   refine trq ?_
   refine trb ?_
   refine kr [0,1,5,7,8] (by simp;rfl) ?_
   refine kc ?_
   replace h1:=bnd h1;obtain⟨x3,p3,h1⟩:=h1
   replace p3:=idx_some p3
   have p3':=p3;try simp at p3'
   refine ko [0,1,5,7,8,11,15] 5 (by simp[p3,p3'];rfl) ?_
   replace h1:=bnd h1;obtain⟨y4,hy4,h1⟩:=h1
   refine kcallV [0,1,5,7,8,16] [1000000] [] [] (directory_Closed_1_cb_ok hy4) rfl rfl rfl Tryz.call66 (by simp) (by simp;rfl) ?_
   refine tpN ?_
   refine trc (b:=y4.1) (by simp) (fun c6=>?_) (fun c6=>?_)
   ·rw[if_pos c6] at h1
    refine kr [4] (by simp;rfl) ?_
    have k1:=he1 _ (Option.some.inj h1)
    subst k1
    dsimp only at h0
    cases h0
    exact trr ⟨[],by simp,rfl,by simp⟩
   ·rw[if_neg (by rw[c6];decide)] at h1
    refine trk ?_
    refine lr (by simp;rfl) ?_
    exact⟨_,hg1 _ (Option.some.inj h1),wk (by simp[wkI])⟩
  ·rw[if_neg (by rw[c5];decide)] at h1
   refine tr_exit ?_
   exact⟨_,he1 _ (Option.some.inj h1),wk (by simp[wkI])⟩
theorem sYContainsFunc_int_at_directory_Closed_1_b_ok {a0:List Int} {b10:api_Directory} {r:Bool×api_Directory} (h0:sYContainsFunc_int_at_directory_Closed_1_b a0 b10=some r):FnOK Tryz.prog 39 [api_Directory_av b10] [.d (.slice (rowsF (iRow .i64) a0)),.fn 66 [.ptr (InO 0) 0]] (.d (.bool r.1)) [api_Directory_av r.2]:=by
 unfold sYContainsFunc_int_at_directory_Closed_1_b at h0
 refine fn_ok (nt:=9) (rs:=[.tmp 4]) Tryz.func39 rfl Tryz.ntmps39 rfl (by simp) (by decide) rfl fun K=>?_
 refine kr [0,1] (by simp;rfl) ?_
 refine kc ?_
 refine ko [5,6] 2 (by simp;rfl) ?_
 replace h0:=bnd h0;obtain⟨y1,hy1,h0⟩:=h0
 refine kcall [7] [1000000] (sYIndexFunc_int_at_directory_Closed_1_b_ok hy1) rfl rfl rfl Tryz.call69 (by simp) (by simp;rfl) ?_
 refine ko [4] 2 (by simp;rfl) ?_
 refine tpN ?_
 cases h0
 exact trr ⟨[],by simp,rfl,by simp⟩
theorem directory_Closed_ok {a0:api_Directory} {a1:Int} {a2:List Int} {r:Bool} (h0:directory_Closed a0 a1 a2=some r):FnOK Tryz.prog 37 [] [.agg (api_Directory_av a0),.d (.int .i64 a1),.d (.slice (rowsF (iRow .i64) a2))] (.d (.bool r)) []:=by
 unfold directory_Closed at h0
 refine fn_ok (nt:=50) (rs:=[.tmp 6]) Tryz.func37 rfl Tryz.ntmps37 rfl (by simp) (by decide) rfl fun K=>?_
 refine kr [1,2,3] (by simp;rfl) ?_
 refine trq ?_
 replace h0:=bnd h0;obtain⟨v1,hvv1,h0⟩:=h0
 refine sjv (fun v1_:Bool×(List Int)×(List api_Member)=>({ nt:=50,env:=[(1,.d (.int .i64 a1)),(2,.d (.slice (rowsF (iRow .i64) a2))),(3,.ptr 3 0),(24,.d (.bool v1_.1))],box:=[(3,[.d (.slice (rowsF (iRow .i64) v1_.2.1)),.d (.slice (rowsF api_Member_row v1_.2.2))])],vec:=[]}:St)) (fun v1_=>v1=v1_) (fun v1_ e=>?_) ?_
 ·subst e
  refine trc (b:=v1.1) (by simp) (fun c5=>?_) (fun c5=>?_)
  ·rw[if_pos c5] at h0
   refine kr [6] (by simp;rfl) ?_
   cases h0
   exact trr ⟨[],by simp,rfl,by simp⟩
  ·rw[if_neg (by rw[c5];decide)] at h0
   refine trk ?_
   refine kc ?_
   refine ko [2,25,26] 2 (by simp;rfl) ?_
   replace h0:=bnd h0;obtain⟨y2,hy2,h0⟩:=h0
   refine kcall [2,27] [] (directory_at_ok hy2) rfl rfl rfl Tryz.call44 (by simp) (by simp;rfl) ?_
   refine ko [2,7] 1 (by simp;rfl) ?_
   refine tpN ?_
   refine trq ?_
   refine kr [2,7,28,29,30] (by simp;rfl) ?_
   replace h0:=bnd h0;obtain⟨e1,hI1,h0⟩:=h0
   refine tjv (fun v3:Unit=>({ nt:=50,env:=[],box:=[],vec:=[]}:St)) (fun v3=>.inl v3=e1) (fun v3 hI1e _ W1=>?_) ?_
   ·subst hI1e
    dsimp only at h0
    refine tr_wk W1 ?_
    refine kr [6] (by simp;rfl) ?_
    cases h0
    exact trr ⟨[],by simp,rfl,by simp⟩
   ·refine trb (tr_iter (fun s4:Int=>({ nt:=50,env:=[(2,.d (.slice (rowsF (iRow .i64) a2))),(7,.d (.slice (rowsF (slRow bRow) y2))),(28,.d (.slice (rowsF (iRow .i64) a2))),(29,.d (.int .i64 ((a2).length:Int))),(30,.d (.int .i64 s4))],box:=[],vec:=[]}:St)) hI1 (wk (by simp[wkI])) fun G1 s4 o1 h1 hg1 he1=>?_)
    unfold directory_Closed_l0 at h1
    refine kr [2,7,28,29,30,31] (by simp;rfl) ?_
    refine trq ?_
    refine trc (b:=(decide (s4 < ((a2).length:Int)))) (by simp) (fun c16=>?_) (fun c16=>?_)
    ·rw[if_pos c16] at h1
     refine trk ?_
     refine trq ?_
     refine trb ?_
     replace h1:=bnd h1;obtain⟨x5,p9,h1⟩:=h1
     replace p9:=idx_some p9
     have p9':=p9;try simp at p9'
     refine kr [2,7,9,28,29,30] (by simp[p9,p9'];rfl) ?_
     refine kc ?_
     replace h1:=bnd h1;obtain⟨x6,p10,h1⟩:=h1
     replace p10:=idx_some p10
     have p10':=p10;try simp at p10'
     refine ko [2,7,28,29,30,37] 4 (by simp[p10,p10'];rfl) ?_
     replace h1:=bnd h1;obtain⟨y7,hy7,h1⟩:=h1
     refine kcall [2,7,28,29,30,38] [] (directory_those_ok hy7) rfl rfl rfl Tryz.call43 (by simp) (by simp;rfl) ?_
     refine ko [2,7,28,29,30,38,39,40] 2 (by simp;rfl) ?_
     refine tpN ?_
     replace h1:=bnd h1;obtain⟨e2,hI2,h1⟩:=h1
     refine tjv (fun v8:Unit=>({ nt:=50,env:=[(2,.d (.slice (rowsF (iRow .i64) a2))),(7,.d (.slice (rowsF (slRow bRow) y2))),(28,.d (.slice (rowsF (iRow .i64) a2))),(29,.d (.int .i64 ((a2).length:Int))),(30,.d (.int .i64 s4))],box:=[],vec:=[]}:St)) (fun v8=>.inl v8=e2) (fun v8 hI2e _ W2=>?_) ?_
     ·subst hI2e
      dsimp only at h1
      refine tr_wk W2 ?_
      refine lr (by simp;rfl) ?_
      exact⟨_,hg1 _ (Option.some.inj h1),wk (by simp[wkI])⟩
     ·refine trb (tr_iter (fun s9:Int=>({ nt:=50,env:=[(2,.d (.slice (rowsF (iRow .i64) a2))),(7,.d (.slice (rowsF (slRow bRow) y2))),(28,.d (.slice (rowsF (iRow .i64) a2))),(29,.d (.int .i64 ((a2).length:Int))),(30,.d (.int .i64 s4)),(38,.d (.slice (rowsF (iRow .i64) y7))),(39,.d (.int .i64 ((y7).length:Int))),(40,.d (.int .i64 s9))],box:=[],vec:=[]}:St)) hI2 (wk (by simp[wkI])) fun G2 s9 o2 h2 hg2 he2=>?_)
      unfold directory_Closed_l1 at h2
      refine kr [2,7,28,29,30,38,39,40,41] (by simp;rfl) ?_
      refine trq ?_
      refine trc (b:=(decide (s9 < ((y7).length:Int)))) (by simp) (fun c21=>?_) (fun c21=>?_)
      ·rw[if_pos c21] at h2
       refine trk ?_
       refine trq ?_
       refine trb ?_
       replace h2:=bnd h2;obtain⟨x10,p13,h2⟩:=h2
       replace p13:=idx_some p13
       have p13':=p13;try simp at p13'
       refine kr [2,7,11,28,29,30,38,39,40] (by simp[p13,p13'];rfl) ?_
       refine kc ?_
       refine ko [2,7,28,29,30,38,39,40,44,45] 2 (by simp;rfl) ?_
       replace h2:=bnd h2;obtain⟨y11,hy11,h2⟩:=h2
       refine kcall [2,7,28,29,30,38,39,40,46] [] (sYContains_int_ok hy11) rfl rfl rfl Tryz.call38 (by simp) (by simp;rfl) ?_
       refine ko [2,7,28,29,30,38,39,40,47] 1 (by simp;rfl) ?_
       refine tpN ?_
       refine trc (b:=(!y11)) (by simp) (fun c22=>?_) (fun c22=>?_)
       ·rw[if_pos c22] at h2
        refine kr [6] (by simp;rfl) ?_
        have k2:=he2 _ (Option.some.inj h2)
        subst k2
        dsimp only at h1
        have k1:=he1 _ (Option.some.inj h1)
        subst k1
        dsimp only at h0
        cases h0
        exact trr ⟨[],by simp,rfl,by simp⟩
       ·rw[if_neg (by rw[c22];decide)] at h2
        refine trk ?_
        refine lr (by simp;rfl) ?_
        exact⟨_,hg2 _ (Option.some.inj h2),wk (by simp[wkI])⟩
      ·rw[if_neg (by rw[c21];decide)] at h2
       refine tr_exit ?_
       exact⟨_,he2 _ (Option.some.inj h2),wk (by simp[wkI])⟩
    ·rw[if_neg (by rw[c16];decide)] at h1
     refine tr_exit ?_
     exact⟨_,he1 _ (Option.some.inj h1),wk (by simp[wkI])⟩
 ·refine kc1 ?_
  refine ko [1,2,3,12] 1 (by simp;rfl) ?_
  replace hvv1:=bnd hvv1;obtain⟨y16,hy16,hvv1⟩:=hvv1
  refine kcall [1,2,3,13] [] (directory_Check_ok hy16) rfl rfl rfl Tryz.call65 (by simp) (by simp;rfl) ?_
  refine ko [1,2,3,15] 2 (by simp;rfl) ?_
  refine tops_split 15 (y16 != 0) (by simp) (fun c23=>?_) (fun c23=>?_)
  ·rw[if_pos c23] at hvv1
   refine kskip 3 [] (by kernel_rfl) ?_
   refine ko [1,2,3,20] 2 (by simp;rfl) ?_
   refine kskip 3 [] (by kernel_rfl) ?_
   refine ko [1,2,3,24] 1 (by simp;rfl) ?_
   refine tpN ?_
   cases hvv1
   exact⟨_,rfl,wk (by simp[wkI])⟩
  ·rw[if_neg (by rw[c23];decide)] at hvv1
   refine ko [1,2,3,15,16] 1 (by simp;rfl) ?_
   replace hvv1:=bnd hvv1;obtain⟨y17,hy17,hvv1⟩:=hvv1
   refine kcall [1,2,3,15,17] [] (directory_Ascending_ok hy17) rfl rfl rfl Tryz.call29 (by simp) (by simp;rfl) ?_
   refine ko [1,2,3,20] 3 (by simp;rfl) ?_
   refine tops_split 20 (!y17) (by simp) (fun c24=>?_) (fun c24=>?_)
   ·rw[if_pos c24] at hvv1
    refine kskip 3 [] (by kernel_rfl) ?_
    refine ko [1,2,3,24] 1 (by simp;rfl) ?_
    refine tpN ?_
    cases hvv1
    exact⟨_,rfl,wk (by simp[wkI])⟩
   ·rw[if_neg (by rw[c24];decide)] at hvv1
    refine ko [1,2,3,20,21,22] 2 (by simp;rfl) ?_
    replace hvv1:=bnd hvv1;obtain⟨y18,hy18,hvv1⟩:=hvv1
    refine kcall [1,2,3,20,23] [3] (sYContainsFunc_int_at_directory_Closed_1_b_ok hy18) rfl rfl rfl Tryz.call39 (by simp) (by simp;rfl) ?_
    refine ko [1,2,3,24] 1 (by simp;rfl) ?_
    refine tpN ?_
    cases hvv1
    exact⟨_,rfl,wk (by simp[wkI])⟩
theorem readers_Refutes_1_cb_ok {a0:Int} {a1:List Int} {r:Bool×(List Int)} (h0:readers_Refutes_1_cb a0 a1=some r):FnOK Tryz.prog 41 [[.d (.slice (rowsF (iRow .i64) a1))]] [.d (.int .i64 a0),.ptr (InO 0) 0] (.d (.bool r.1)) [[.d (.slice (rowsF (iRow .i64) r.2))]]:=by
 unfold readers_Refutes_1_cb at h0
 refine fn_ok (nt:=7) (rs:=[.tmp 3]) Tryz.func41 rfl Tryz.ntmps41 rfl (by simp) (by decide) rfl fun K=>?_
 refine kr [0,1] (by simp;rfl) ?_
 refine kc ?_
 refine ko [4,5] 2 (by simp;rfl) ?_
 replace h0:=bnd h0;obtain⟨y1,hy1,h0⟩:=h0
 refine kcall [6] [] (sYContains_int_ok hy1) rfl rfl rfl Tryz.call38 (by simp) (by simp;rfl) ?_
 refine ko [3] 1 (by simp;rfl) ?_
 refine tpN ?_
 cases h0
 exact trr ⟨[],by simp,rfl,by simp⟩
theorem sYIndexFunc_int_at_readers_Refutes_1_b_ok {a0:List Int} {b10:List Int} {r:Int×(List Int)} (h0:sYIndexFunc_int_at_readers_Refutes_1_b a0 b10=some r):FnOK Tryz.prog 69 [[.d (.slice (rowsF (iRow .i64) b10))]] [.d (.slice (rowsF (iRow .i64) a0)),.fn 41 [.ptr (InO 0) 0]] (.d (.int .i64 r.1)) [[.d (.slice (rowsF (iRow .i64) r.2))]]:=by
 unfold sYIndexFunc_int_at_readers_Refutes_1_b at h0
 refine fn_ok (nt:=19) (rs:=[.tmp 4]) Tryz.func69 rfl Tryz.ntmps69 rfl (by simp) (by decide) rfl fun K=>?_
 refine kr [0,1] (by simp;rfl) ?_
 refine trq ?_
 refine kr [0,1,7,8] (by simp;rfl) ?_
 replace h0:=bnd h0;obtain⟨e1,hI1,h0⟩:=h0
 refine tjv (fun v1:(List Int)=>({ nt:=19,env:=[],box:=[(1000000,[.d (.slice (rowsF (iRow .i64) v1))])],vec:=[]}:St)) (fun v1=>.inl v1=e1) (fun v1 hI1e _ W1=>?_) ?_
 ·subst hI1e
  dsimp only at h0
  refine tr_wk W1 ?_
  refine kr [4] (by simp;rfl) ?_
  cases h0
  exact trr ⟨[],by simp,rfl,by simp⟩
 ·refine trb (tr_iter (fun s2:Int×(List Int)=>({ nt:=19,env:=[(0,.d (.slice (rowsF (iRow .i64) a0))),(1,.fn 41 [.ptr 1000000 0]),(7,.d (.int .i64 ((a0).length:Int))),(8,.d (.int .i64 s2.1))],box:=[(1000000,[.d (.slice (rowsF (iRow .i64) s2.2))])],vec:=[]}:St)) hI1 (wk (by simp[wkI])) fun G1 s2 o1 h1 hg1 he1=>?_)
  unfold sYIndexFunc_int_at_readers_Refutes_1_b_l0 at h1
  refine kr [0,1,7,8,9] (by simp;rfl) ?_
  refine trq ?_
  refine trc (b:=(decide (s2.1 < ((a0).length:Int)))) (by simp) (fun c5=>?_) (fun c5=>?_)
  ·rw[if_pos c5] at h1
   refine trk ?_
   refine trq ?_
   refine trb ?_
   refine kr [0,1,5,7,8] (by simp;rfl) ?_
   refine kc ?_
   replace h1:=bnd h1;obtain⟨x3,p3,h1⟩:=h1
   replace p3:=idx_some p3
   have p3':=p3;try simp at p3'
   refine ko [0,1,5,7,8,11,15] 5 (by simp[p3,p3'];rfl) ?_
   replace h1:=bnd h1;obtain⟨y4,hy4,h1⟩:=h1
   refine kcallV [0,1,5,7,8,16] [1000000] [] [] (readers_Refutes_1_cb_ok hy4) rfl rfl rfl Tryz.call41 (by simp) (by simp;rfl) ?_
   refine tpN ?_
   refine trc (b:=y4.1) (by simp) (fun c6=>?_) (fun c6=>?_)
   ·rw[if_pos c6] at h1
    refine kr [4] (by simp;rfl) ?_
    have k1:=he1 _ (Option.some.inj h1)
    subst k1
    dsimp only at h0
    cases h0
    exact trr ⟨[],by simp,rfl,by simp⟩
   ·rw[if_neg (by rw[c6];decide)] at h1
    refine trk ?_
    refine lr (by simp;rfl) ?_
    exact⟨_,hg1 _ (Option.some.inj h1),wk (by simp[wkI])⟩
  ·rw[if_neg (by rw[c5];decide)] at h1
   refine tr_exit ?_
   exact⟨_,he1 _ (Option.some.inj h1),wk (by simp[wkI])⟩
theorem sYContainsFunc_int_at_readers_Refutes_1_b_ok {a0:List Int} {b10:List Int} {r:Bool×(List Int)} (h0:sYContainsFunc_int_at_readers_Refutes_1_b a0 b10=some r):FnOK Tryz.prog 39 [[.d (.slice (rowsF (iRow .i64) b10))]] [.d (.slice (rowsF (iRow .i64) a0)),.fn 41 [.ptr (InO 0) 0]] (.d (.bool r.1)) [[.d (.slice (rowsF (iRow .i64) r.2))]]:=by
 unfold sYContainsFunc_int_at_readers_Refutes_1_b at h0
 refine fn_ok (nt:=9) (rs:=[.tmp 4]) Tryz.func39 rfl Tryz.ntmps39 rfl (by simp) (by decide) rfl fun K=>?_
 refine kr [0,1] (by simp;rfl) ?_
 refine kc ?_
 refine ko [5,6] 2 (by simp;rfl) ?_
 replace h0:=bnd h0;obtain⟨y1,hy1,h0⟩:=h0
 refine kcall [7] [1000000] (sYIndexFunc_int_at_readers_Refutes_1_b_ok hy1) rfl rfl rfl Tryz.call69 (by simp) (by simp;rfl) ?_
 refine ko [4] 2 (by simp;rfl) ?_
 refine tpN ?_
 cases h0
 exact trr ⟨[],by simp,rfl,by simp⟩
theorem readers_Refutes_ok {a0:api_Directory} {a1:api_Estate} {a2:Int} {a3:Int} {a4:Int} {a5:List Int} {r:Bool} (h0:readers_Refutes a0 a1 a2 a3 a4 a5=some r):FnOK Tryz.prog 13 [] [.agg (api_Directory_av a0),.agg (api_Estate_av a1),.d (.int .i64 a2),.d (.int .i64 a3),.d (.int .i64 a4),.d (.slice (rowsF (iRow .i64) a5))] (.d (.bool r)) []:=by
 unfold readers_Refutes at h0
 refine fn_ok (nt:=52) (rs:=[.tmp 12]) Tryz.func13 rfl Tryz.ntmps13 rfl (by simp) (by decide) rfl fun K=>?_
 refine kr [2,3,4,6,7,11] (by simp;rfl) ?_
 refine trq ?_
 replace h0:=bnd h0;obtain⟨v1,hvv1,h0⟩:=h0
 refine sjv (fun v1_:Bool=>({ nt:=52,env:=[(3,.d (.int .i64 a3)),(4,.d (.int .i64 a4)),(7,.ptr 7 0),(11,.ptr 11 0),(33,.d (.bool v1_))],box:=[(7,[.d (.int .i64 a1.Places),.d (.slice (rowsF api_Access_row a1.Events))]),(11,[.d (.slice (rowsF (iRow .i64) a5))])],vec:=[]}:St)) (fun v1_=>v1=v1_) (fun v1_ e=>?_) ?_
 ·subst e
  refine trc (b:=v1) (by simp) (fun c5=>?_) (fun c5=>?_)
  ·rw[if_pos c5] at h0
   refine kr [12] (by simp;rfl) ?_
   cases h0
   exact trr ⟨[],by simp,rfl,by simp⟩
  ·rw[if_neg (by rw[c5];decide)] at h0
   refine trk ?_
   refine kc ?_
   refine ko [3,4,7,11,35,36,37] 3 (by simp;rfl) ?_
   replace h0:=bnd h0;obtain⟨y2,hy2,h0⟩:=h0
   refine kcall [3,4,7,11,38] [] (access_Linked_ok hy2) rfl rfl rfl Tryz.call32 (by simp) (by simp;rfl) ?_
   refine ko [3,4,7,11,14] 5 (by simp;rfl) ?_
   refine tpN ?_
   replace h0:=bnd h0;obtain⟨v3,hvv3,h0⟩:=h0
   refine sjv (fun v3_:Bool=>({ nt:=52,env:=[(12,.d (.bool v3_))],box:=[],vec:=[]}:St)) (fun v3_=>v3=v3_) (fun v3_ e=>?_) ?_
   ·subst e
    cases h0
    exact trr ⟨[],by simp,rfl,by simp⟩
   ·refine kc1 ?_
    refine ko [3,4,7,11,43] 3 (by simp;rfl) ?_
    refine tops_split 43 (!y2.2) (by simp) (fun c8=>?_) (fun c8=>?_)
    ·rw[if_pos c8] at hvv3
     refine ko [11,43,44,45,46] 3 (by simp;rfl) ?_
     replace hvv3:=bnd hvv3;obtain⟨y4,hy4,hvv3⟩:=hvv3
     refine kcall [11,43,47] [] (access_Granted_ok hy4) rfl rfl rfl Tryz.call40 (by simp) (by simp;rfl) ?_
     refine ko [43,47,48] 1 (by simp;rfl) ?_
     replace hvv3:=bnd hvv3;obtain⟨y5,hy5,hvv3⟩:=hvv3
     refine kcall [43,49] [11] (sYContainsFunc_int_at_readers_Refutes_1_b_ok hy5) rfl rfl rfl Tryz.call39 (by simp) (by simp;rfl) ?_
     refine ko [12] 3 (by simp;rfl) ?_
     refine tpN ?_
     cases hvv3
     exact⟨_,rfl,wk (by simp[wkI])⟩
    ·rw[if_neg (by rw[c8];decide)] at hvv3
     refine kskip 7 [] (by kernel_rfl) ?_
     refine ko [12] 2 (by simp;rfl) ?_
     refine tpN ?_
     cases hvv3
     exact⟨_,rfl,wk (by simp[wkI])⟩
 ·refine kc1 ?_
  refine ko [2,3,4,6,7,11,15,16,17,18] 4 (by simp;rfl) ?_
  replace hvv1:=bnd hvv1;obtain⟨y6,hy6,hvv1⟩:=hvv1
  refine kcall [2,3,4,6,7,11,19] [] (readers_fine_ok hy6) rfl rfl rfl Tryz.call36 (by simp) (by simp;rfl) ?_
  refine ko [2,3,4,6,7,11,21] 2 (by simp;rfl) ?_
  refine tops_split 21 (!y6) (by simp) (fun c9=>?_) (fun c9=>?_)
  ·rw[if_pos c9] at hvv1
   refine kskip 5 [] (by kernel_rfl) ?_
   refine ko [2,3,4,7,11,28] 2 (by simp;rfl) ?_
   refine kskip 4 [] (by kernel_rfl) ?_
   refine ko [3,4,7,11,33] 1 (by simp;rfl) ?_
   refine tpN ?_
   cases hvv1
   exact⟨_,rfl,wk (by simp[wkI])⟩
  ·rw[if_neg (by rw[c9];decide)] at hvv1
   refine ko [2,3,4,7,11,21,22,23,24] 3 (by simp;rfl) ?_
   replace hvv1:=bnd hvv1;obtain⟨y7,hy7,hvv1⟩:=hvv1
   refine kcall [2,3,4,7,11,21,25] [] (directory_Closed_ok hy7) rfl rfl rfl Tryz.call37 (by simp) (by simp;rfl) ?_
   refine ko [2,3,4,7,11,28] 3 (by simp;rfl) ?_
   refine tops_split 28 (!y7) (by simp) (fun c10=>?_) (fun c10=>?_)
   ·rw[if_pos c10] at hvv1
    refine kskip 4 [] (by kernel_rfl) ?_
    refine ko [3,4,7,11,33] 1 (by simp;rfl) ?_
    refine tpN ?_
    cases hvv1
    exact⟨_,rfl,wk (by simp[wkI])⟩
   ·rw[if_neg (by rw[c10];decide)] at hvv1
    refine ko [3,4,7,11,28,29,30] 2 (by simp;rfl) ?_
    replace hvv1:=bnd hvv1;obtain⟨y8,hy8,hvv1⟩:=hvv1
    refine kcall [3,4,7,11,28,31] [] (sYContains_int_ok hy8) rfl rfl rfl Tryz.call38 (by simp) (by simp;rfl) ?_
    refine ko [3,4,7,11,33] 2 (by simp;rfl) ?_
    refine tpN ?_
    cases hvv1
    exact⟨_,rfl,wk (by simp[wkI])⟩
theorem readers_Link_1_cbb_ok {a0:api_Access} {a1:Int} {a2:Int} {r:Bool×Int×Int} (h0:readers_Link_1_cbb a0 a1 a2=some r):FnOK Tryz.prog 71 [[.d (.int .i64 a1)],[.d (.int .i64 a2)]] [.agg (api_Access_av a0),.ptr (InO 0) 0,.ptr (InO 1) 0] (.d (.bool r.1)) [[.d (.int .i64 r.2.1)],[.d (.int .i64 r.2.2)]]:=by
 unfold readers_Link_1_cbb at h0
 refine fn_ok (nt:=20) (rs:=[.tmp 4]) Tryz.func71 rfl Tryz.ntmps71 rfl (by simp) (by decide) rfl fun K=>?_
 refine kr [1,2,3] (by simp;rfl) ?_
 replace h0:=bnd h0;obtain⟨v1,hvv1,h0⟩:=h0
 refine sjv (fun v1_:Bool=>({ nt:=20,env:=[(4,.d (.bool v1_))],box:=[(1000000,[.d (.int .i64 a1)]),(1000001,[.d (.int .i64 a2)])],vec:=[]}:St)) (fun v1_=>v1=v1_) (fun v1_ e=>?_) ?_
 ·subst e
  cases h0
  exact trr ⟨[],by simp,rfl,by simp⟩
 ·refine kc1 ?_
  refine ko [1,2,3,8] 4 (by simp;rfl) ?_
  refine tops_split 8 (a0.Kind==4) (by simp) (fun c5=>?_) (fun c5=>?_)
  ·rw[c5] at hvv1
   refine ko [2,3,14] 6 (by simp;rfl) ?_
   refine tops_split 14 (a0.Place==a1) (by simp) (fun c6=>?_) (fun c6=>?_)
   ·rw[c6] at hvv1
    refine ko [4] 6 (by simp;rfl) ?_
    refine tpN ?_
    cases hvv1
    exact⟨_,rfl,wk (by simp[wkI])⟩
   ·rw[c6] at hvv1
    refine kskip 4 [] (by kernel_rfl) ?_
    refine ko [4] 2 (by simp;rfl) ?_
    refine tpN ?_
    cases hvv1
    exact⟨_,rfl,wk (by simp[wkI])⟩
  ·rw[c5] at hvv1
   refine kskip 4 [] (by kernel_rfl) ?_
   refine ko [2,3,14] 2 (by simp;rfl) ?_
   refine kskip 4 [] (by kernel_rfl) ?_
   refine ko [4] 2 (by simp;rfl) ?_
   refine tpN ?_
   cases hvv1
   exact⟨_,rfl,wk (by simp[wkI])⟩
theorem sYIndexFunc_api_Access_at_readers_Link_1_bb_ok {a0:List api_Access} {b10:Int} {b11:Int} {r:Int×Int×Int} (h0:sYIndexFunc_api_Access_at_readers_Link_1_bb a0 b10 b11=some r):FnOK Tryz.prog 74 [[.d (.int .i64 b10)],[.d (.int .i64 b11)]] [.d (.slice (rowsF api_Access_row a0)),.fn 71 [.ptr (InO 0) 0,.ptr (InO 1) 0]] (.d (.int .i64 r.1)) [[.d (.int .i64 r.2.1)],[.d (.int .i64 r.2.2)]]:=by
 unfold sYIndexFunc_api_Access_at_readers_Link_1_bb at h0
 refine fn_ok (nt:=19) (rs:=[.tmp 4]) Tryz.func74 rfl Tryz.ntmps74 rfl (by simp) (by decide) rfl fun K=>?_
 refine kr [0,1] (by simp;rfl) ?_
 refine trq ?_
 refine kr [0,1,7,8] (by simp;rfl) ?_
 replace h0:=bnd h0;obtain⟨e1,hI1,h0⟩:=h0
 refine tjv (fun v1:Int×Int=>({ nt:=19,env:=[],box:=[(1000000,[.d (.int .i64 v1.1)]),(1000001,[.d (.int .i64 v1.2)])],vec:=[]}:St)) (fun v1=>.inl v1=e1) (fun v1 hI1e _ W1=>?_) ?_
 ·subst hI1e
  dsimp only at h0
  refine tr_wk W1 ?_
  refine kr [4] (by simp;rfl) ?_
  cases h0
  exact trr ⟨[],by simp,rfl,by simp⟩
 ·refine trb (tr_iter (fun s2:Int×Int×Int=>({ nt:=19,env:=[(0,.d (.slice (rowsF api_Access_row a0))),(1,.fn 71 [.ptr 1000000 0,.ptr 1000001 0]),(7,.d (.int .i64 ((a0).length:Int))),(8,.d (.int .i64 s2.1))],box:=[(1000000,[.d (.int .i64 s2.2.1)]),(1000001,[.d (.int .i64 s2.2.2)])],vec:=[]}:St)) hI1 (wk (by simp[wkI])) fun G1 s2 o1 h1 hg1 he1=>?_)
  unfold sYIndexFunc_api_Access_at_readers_Link_1_bb_l0 at h1
  refine kr [0,1,7,8,9] (by simp;rfl) ?_
  refine trq ?_
  refine trc (b:=(decide (s2.1 < ((a0).length:Int)))) (by simp) (fun c5=>?_) (fun c5=>?_)
  ·rw[if_pos c5] at h1
   refine trk ?_
   refine trq ?_
   refine trb ?_
   refine kr [0,1,5,7,8] (by simp;rfl) ?_
   refine kc ?_
   replace h1:=bnd h1;obtain⟨x3,p3,h1⟩:=h1
   replace p3:=idx_some p3
   have p3':=p3;try simp at p3'
   refine ko [0,1,5,7,8,11,15] 5 (by simp[p3,p3'];rfl) ?_
   replace h1:=bnd h1;obtain⟨y4,hy4,h1⟩:=h1
   refine kcallV [0,1,5,7,8,16] [1000000,1000001] [] [] (readers_Link_1_cbb_ok hy4) rfl rfl rfl Tryz.call71 (by simp) (by simp;rfl) ?_
   refine tpN ?_
   refine trc (b:=y4.1) (by simp) (fun c6=>?_) (fun c6=>?_)
   ·rw[if_pos c6] at h1
    refine kr [4] (by simp;rfl) ?_
    have k1:=he1 _ (Option.some.inj h1)
    subst k1
    dsimp only at h0
    cases h0
    exact trr ⟨[],by simp,rfl,by simp⟩
   ·rw[if_neg (by rw[c6];decide)] at h1
    refine trk ?_
    refine lr (by simp;rfl) ?_
    exact⟨_,hg1 _ (Option.some.inj h1),wk (by simp[wkI])⟩
  ·rw[if_neg (by rw[c5];decide)] at h1
   refine tr_exit ?_
   exact⟨_,he1 _ (Option.some.inj h1),wk (by simp[wkI])⟩
theorem sYContainsFunc_api_Access_at_readers_Link_1_bb_ok {a0:List api_Access} {b10:Int} {b11:Int} {r:Bool×Int×Int} (h0:sYContainsFunc_api_Access_at_readers_Link_1_bb a0 b10 b11=some r):FnOK Tryz.prog 55 [[.d (.int .i64 b10)],[.d (.int .i64 b11)]] [.d (.slice (rowsF api_Access_row a0)),.fn 71 [.ptr (InO 0) 0,.ptr (InO 1) 0]] (.d (.bool r.1)) [[.d (.int .i64 r.2.1)],[.d (.int .i64 r.2.2)]]:=by
 unfold sYContainsFunc_api_Access_at_readers_Link_1_bb at h0
 refine fn_ok (nt:=9) (rs:=[.tmp 4]) Tryz.func55 rfl Tryz.ntmps55 rfl (by simp) (by decide) rfl fun K=>?_
 refine kr [0,1] (by simp;rfl) ?_
 refine kc ?_
 refine ko [5,6] 2 (by simp;rfl) ?_
 replace h0:=bnd h0;obtain⟨y1,hy1,h0⟩:=h0
 refine kcall [7] [1000000,1000001] (sYIndexFunc_api_Access_at_readers_Link_1_bb_ok hy1) rfl rfl rfl Tryz.call74 (by simp) (by simp;rfl) ?_
 refine ko [4] 2 (by simp;rfl) ?_
 refine tpN ?_
 cases h0
 exact trr ⟨[],by simp,rfl,by simp⟩
theorem readers_Link_ok {a0:api_Estate} {a1:Int} {a2:Int} {a3:Int} {r:Bool} (h0:readers_Link a0 a1 a2 a3=some r):FnOK Tryz.prog 46 [] [.agg (api_Estate_av a0),.d (.int .i64 a1),.d (.int .i64 a2),.d (.int .i64 a3)] (.d (.bool r)) []:=by
 unfold readers_Link at h0
 refine fn_ok (nt:=57) (rs:=[.tmp 8]) Tryz.func46 rfl Tryz.ntmps46 rfl (by simp) (by decide) rfl fun K=>?_
 refine kr [3,4,5,6] (by simp;rfl) ?_
 refine trq ?_
 replace h0:=bnd h0;obtain⟨v1,hvv1,h0⟩:=h0
 refine sjv (fun v1_:Bool=>({ nt:=57,env:=[(3,.d (.int .i64 a3)),(4,.ptr 4 0),(5,.ptr 5 0),(6,.ptr 6 0),(19,.d (.bool v1_))],box:=[(4,[.d (.int .i64 a0.Places),.d (.slice (rowsF api_Access_row a0.Events))]),(5,[.d (.int .i64 a1)]),(6,[.d (.int .i64 a2)])],vec:=[]}:St)) (fun v1_=>v1=v1_) (fun v1_ e=>?_) ?_
 ·subst e
  refine trc (b:=v1) (by simp) (fun c3=>?_) (fun c3=>?_)
  ·rw[if_pos c3] at h0
   refine kr [8] (by simp;rfl) ?_
   cases h0
   exact trr ⟨[],by simp,rfl,by simp⟩
  ·rw[if_neg (by rw[c3];decide)] at h0
   refine trk ?_
   replace h0:=bnd h0;obtain⟨x2,p1,h0⟩:=h0
   replace p1:=idx_some p1
   have p1':=p1;try simp at p1'
   refine kr [3,4,5,6,9] (by simp[p1,p1'];rfl) ?_
   refine kr [3,4,5,6,9,10] (by simp;rfl) ?_
   replace h0:=bnd h0;obtain⟨v3,hvv3,h0⟩:=h0
   refine sjv (fun v3_:Bool=>({ nt:=57,env:=[(8,.d (.bool v3_))],box:=[],vec:=[]}:St)) (fun v3_=>v3=v3_) (fun v3_ e=>?_) ?_
   ·subst e
    cases h0
    exact trr ⟨[],by simp,rfl,by simp⟩
   ·refine kc1 ?_
    refine ko [3,4,5,6,9,10,29] 4 (by simp;rfl) ?_
    refine tops_split 29 (x2.Kind==3) (by simp) (fun c12=>?_) (fun c12=>?_)
    ·rw[if_pos c12] at hvv3
     refine ko [3,4,6,9,10,35] 6 (by simp;rfl) ?_
     refine tops_split 35 (x2.Place==a1) (by simp) (fun c13=>?_) (fun c13=>?_)
     ·rw[if_pos c13] at hvv3
      refine ko [3,4,6,9,10,41] 6 (by simp;rfl) ?_
      refine tops_split 41 (decide (x2.Time≤a2)) (by simp) (fun c14=>?_) (fun c14=>?_)
      ·rw[if_pos c14] at hvv3
       refine ko [3,4,10,47] 6 (by simp;rfl) ?_
       refine tops_split 47 (decide (a2 < x2.Until)) (by simp) (fun c15=>?_) (fun c15=>?_)
       ·rw[if_pos c15] at hvv3
        replace hvv3:=bnd hvv3;obtain⟨_,p4,hvv3⟩:=hvv3
        replace p4:=ck_some p4
        have p4':=p4;try simp at p4'
        refine ko [47,52,53] 6 (by simp[p4,p4'];rfl) ?_
        replace hvv3:=bnd hvv3;obtain⟨y4,hy4,hvv3⟩:=hvv3
        refine kcall [47,54] [5,6] (sYContainsFunc_api_Access_at_readers_Link_1_bb_ok hy4) rfl rfl rfl Tryz.call55 (by simp) (by simp;rfl) ?_
        refine ko [8] 3 (by simp;rfl) ?_
        refine tpN ?_
        cases hvv3
        exact⟨_,rfl,wk (by simp[wkI])⟩
       ·rw[if_neg (by rw[c15];decide)] at hvv3
        refine kskip 8 [] (by kernel_rfl) ?_
        refine ko [8] 2 (by simp;rfl) ?_
        refine tpN ?_
        cases hvv3
        exact⟨_,rfl,wk (by simp[wkI])⟩
      ·rw[if_neg (by rw[c14];decide)] at hvv3
       refine kskip 4 [] (by kernel_rfl) ?_
       refine ko [3,4,10,47] 2 (by simp;rfl) ?_
       refine kskip 8 [] (by kernel_rfl) ?_
       refine ko [8] 2 (by simp;rfl) ?_
       refine tpN ?_
       cases hvv3
       exact⟨_,rfl,wk (by simp[wkI])⟩
     ·rw[if_neg (by rw[c13];decide)] at hvv3
      refine kskip 4 [] (by kernel_rfl) ?_
      refine ko [3,4,6,9,10,41] 2 (by simp;rfl) ?_
      refine kskip 4 [] (by kernel_rfl) ?_
      refine ko [3,4,10,47] 2 (by simp;rfl) ?_
      refine kskip 8 [] (by kernel_rfl) ?_
      refine ko [8] 2 (by simp;rfl) ?_
      refine tpN ?_
      cases hvv3
      exact⟨_,rfl,wk (by simp[wkI])⟩
    ·rw[if_neg (by rw[c12];decide)] at hvv3
     refine kskip 4 [] (by kernel_rfl) ?_
     refine ko [3,4,6,9,10,35] 2 (by simp;rfl) ?_
     refine kskip 4 [] (by kernel_rfl) ?_
     refine ko [3,4,6,9,10,41] 2 (by simp;rfl) ?_
     refine kskip 4 [] (by kernel_rfl) ?_
     refine ko [3,4,10,47] 2 (by simp;rfl) ?_
     refine kskip 8 [] (by kernel_rfl) ?_
     refine ko [8] 2 (by simp;rfl) ?_
     refine tpN ?_
     cases hvv3
     exact⟨_,rfl,wk (by simp[wkI])⟩
 ·refine kc1 ?_
  refine ko [3,4,5,6,13] 3 (by simp;rfl) ?_
  refine tops_split 13 (decide (a3 < 0)) (by simp) (fun c16=>?_) (fun c16=>?_)
  ·rw[c16] at hvv1
   refine kskip 5 [] (by kernel_rfl) ?_
   refine ko [3,4,5,6,19] 1 (by simp;rfl) ?_
   refine tpN ?_
   cases hvv1
   exact⟨_,rfl,wk (by simp[wkI])⟩
  ·rw[c16] at hvv1
   refine ko [3,4,5,6,19] 6 (by simp;rfl) ?_
   refine tpN ?_
   cases hvv1
   exact⟨_,rfl,wk (by simp[wkI])⟩
theorem readers_granted_ok {a0:api_Estate} {a1:Int} {a2:Int} {a3:Int} {r:Int×Bool} (h0:readers_granted a0 a1 a2 a3=some r):FnOK Tryz.prog 47 [] [.agg (api_Estate_av a0),.d (.int .i64 a1),.d (.int .i64 a2),.d (.int .i64 a3)] (.tup [.d (.int .i64 r.1),.d (.bool r.2)]) []:=by
 unfold readers_granted at h0
 refine fn_ok (nt:=56) (rs:=[.tmp 8,.tmp 9]) Tryz.func47 rfl Tryz.ntmps47 rfl (by simp) (by decide) rfl fun K=>?_
 refine kr [1,2,3,4] (by simp;rfl) ?_
 refine trq ?_
 replace h0:=bnd h0;obtain⟨v1,hvv1,h0⟩:=h0
 refine sjv (fun v1_:Bool=>({ nt:=56,env:=[(1,.d (.int .i64 a1)),(2,.d (.int .i64 a2)),(3,.d (.int .i64 a3)),(4,.ptr 4 0),(21,.d (.bool v1_))],box:=[(4,[.d (.int .i64 a0.Places),.d (.slice (rowsF api_Access_row a0.Events))])],vec:=[]}:St)) (fun v1_=>v1=v1_) (fun v1_ e=>?_) ?_
 ·subst e
  refine trc (b:=v1) (by simp) (fun c3=>?_) (fun c3=>?_)
  ·rw[if_pos c3] at h0
   refine kr [8,9] (by simp;rfl) ?_
   cases h0
   exact trr ⟨[],by simp,rfl,by simp⟩
  ·rw[if_neg (by rw[c3];decide)] at h0
   refine trk ?_
   replace h0:=bnd h0;obtain⟨x2,p1,h0⟩:=h0
   replace p1:=idx_some p1
   have p1':=p1;try simp at p1'
   refine kr [1,2,4,10] (by simp[p1,p1'];rfl) ?_
   refine kc ?_
   refine ko [1,2,10,28,29,31,32] 5 (by simp;rfl) ?_
   replace h0:=bnd h0;obtain⟨y3,hy3,h0⟩:=h0
   refine kcall [1,2,10,33] [] (access_Grant_ok hy3) rfl rfl rfl Tryz.call34 (by simp) (by simp;rfl) ?_
   refine ko [1,2,10,12] 5 (by simp;rfl) ?_
   refine tpN ?_
   replace h0:=bnd h0;obtain⟨v4,hvv4,h0⟩:=h0
   refine sjv (fun v4_:Bool=>({ nt:=56,env:=[(8,.d (.int .i64 x2.Principal)),(9,.d (.bool v4_))],box:=[],vec:=[]}:St)) (fun v4_=>v4=v4_) (fun v4_ e=>?_) ?_
   ·subst e
    cases h0
    exact trr ⟨[],by simp,rfl,by simp⟩
   ·refine kd1 [[],[0],[],[2],[3],[3,4],[3,5],[3,6],[7],[8],[8,9],[8],[8,10,11],[8,12],[13],[14],[14,15],[14],[14,16,17],[14,18],[1],[19]] [] [] none [] 22 fol (by decide +kernel) (by simp) ?_
    refine dr_go 0 2 rfl (by simp (maxSteps:=1000000);rfl) ?_
    refine dr_go 2 2 rfl (by simp (maxSteps:=1000000);rfl) ?_
    refine dr_split 3 39 y3.2 (by simp) (fun c28=>?_) (fun c28=>?_)
    ·rw[c28] at hvv4
     refine dr_go 4 2 rfl (by simp (maxSteps:=1000000);rfl) ?_
     refine dr_go 6 2 rfl (by simp (maxSteps:=1000000);rfl) ?_
     refine dr_go 8 1 rfl (by simp (maxSteps:=1000000);rfl) ?_
     refine dr_split 8 44 (x2.Kind==1) (by simp) (fun c29=>?_) (fun c29=>?_)
     ·rw[c29] at hvv4
      refine dr_go 9 2 rfl (by simp (maxSteps:=1000000);rfl) ?_
      refine dr_go 11 2 rfl (by simp (maxSteps:=1000000);rfl) ?_
      refine dr_go 13 2 rfl (by simp (maxSteps:=1000000);rfl) ?_
      refine dr_split 14 50 (x2.Place==a1) (by simp) (fun c30=>?_) (fun c30=>?_)
      ·rw[c30] at hvv4
       refine dr_go 15 2 rfl (by simp (maxSteps:=1000000);rfl) ?_
       refine dr_go 17 2 rfl (by simp (maxSteps:=1000000);rfl) ?_
       refine dr_go 19 2 rfl (by simp (maxSteps:=1000000);rfl) ?_
       refine dr_go 21 1 rfl (by simp (maxSteps:=1000000);rfl) ?_
       refine dr_end rfl (tpN ?_)
       cases hvv4
       exact⟨_,rfl,wk (by simp[wkI])⟩
      ·rw[c30] at hvv4
       refine dr_skip 15 56 [some 51,some 52,some 53,some 54] rfl rfl (by decide) (by kernel_rfl) (by simp only[skEf,List.map_cons,List.map_nil,List.cons_append,List.nil_append];rfl) ?_
       refine dr_go 19 2 rfl (by simp (maxSteps:=1000000);rfl) ?_
       refine dr_go 21 1 rfl (by simp (maxSteps:=1000000);rfl) ?_
       refine dr_end rfl (tpN ?_)
       cases hvv4
       exact⟨_,rfl,wk (by simp[wkI])⟩
     ·rw[c29] at hvv4
      refine dr_skip 9 56 [some 45,some 46,some 47,some 48] rfl rfl (by decide) (by kernel_rfl) (by simp only[skEf,List.map_cons,List.map_nil,List.cons_append,List.nil_append];rfl) ?_
      refine dr_go 13 2 rfl (by simp (maxSteps:=1000000);rfl) ?_
      refine dr_skip 15 56 [some 51,some 52,some 53,some 54] rfl rfl (by decide) (by kernel_rfl) (by simp only[skEf,List.map_cons,List.map_nil,List.cons_append,List.nil_append];rfl) ?_
      refine dr_go 19 2 rfl (by simp (maxSteps:=1000000);rfl) ?_
      refine dr_go 21 1 rfl (by simp (maxSteps:=1000000);rfl) ?_
      refine dr_end rfl (tpN ?_)
      cases hvv4
      exact⟨_,rfl,wk (by simp[wkI])⟩
    ·rw[c28] at hvv4
     refine dr_skip 4 56 [some 40,some 41,some 42] rfl rfl (by decide) (by kernel_rfl) (by simp only[skEf,List.map_cons,List.map_nil,List.cons_append,List.nil_append];rfl) ?_
     refine dr_go 7 2 rfl (by simp (maxSteps:=1000000);rfl) ?_
     refine dr_skip 9 56 [some 45,some 46,some 47,some 48] rfl rfl (by decide) (by kernel_rfl) (by simp only[skEf,List.map_cons,List.map_nil,List.cons_append,List.nil_append];rfl) ?_
     refine dr_go 13 2 rfl (by simp (maxSteps:=1000000);rfl) ?_
     refine dr_skip 15 56 [some 51,some 52,some 53,some 54] rfl rfl (by decide) (by kernel_rfl) (by simp only[skEf,List.map_cons,List.map_nil,List.cons_append,List.nil_append];rfl) ?_
     refine dr_go 19 2 rfl (by simp (maxSteps:=1000000);rfl) ?_
     refine dr_go 21 1 rfl (by simp (maxSteps:=1000000);rfl) ?_
     refine dr_end rfl (tpN ?_)
     cases hvv4
     exact⟨_,rfl,wk (by simp[wkI])⟩
 ·refine kc1 ?_
  refine ko [1,2,3,4,15] 3 (by simp;rfl) ?_
  refine tops_split 15 (decide (a3 < 0)) (by simp) (fun c31=>?_) (fun c31=>?_)
  ·rw[c31] at hvv1
   refine kskip 5 [] (by kernel_rfl) ?_
   refine ko [1,2,3,4,21] 1 (by simp;rfl) ?_
   refine tpN ?_
   cases hvv1
   exact⟨_,rfl,wk (by simp[wkI])⟩
  ·rw[c31] at hvv1
   refine ko [1,2,3,4,21] 6 (by simp;rfl) ?_
   refine tpN ?_
   cases hvv1
   exact⟨_,rfl,wk (by simp[wkI])⟩
theorem directory_Proves_ok {a0:api_Directory} {a1:Int} {a2:List Int} {r:Bool} (h0:directory_Proves a0 a1 a2=some r):FnOK Tryz.prog 48 [] [.agg (api_Directory_av a0),.d (.int .i64 a1),.d (.slice (rowsF (iRow .i64) a2))] (.d (.bool r)) []:=by
 unfold directory_Proves at h0
 refine fn_ok (nt:=58) (rs:=[.tmp 6]) Tryz.func48 rfl Tryz.ntmps48 rfl (by simp) (by decide) rfl fun K=>?_
 refine kr [1,2,3] (by simp;rfl) ?_
 refine trq ?_
 replace h0:=bnd h0;obtain⟨v1,hvv1,h0⟩:=h0
 refine sjv (fun v1_:Bool=>({ nt:=58,env:=[(1,.d (.int .i64 a1)),(2,.d (.slice (rowsF (iRow .i64) a2))),(3,.ptr 3 0),(17,.d (.bool v1_))],box:=[(3,[.d (.slice (rowsF (iRow .i64) a0.Kinds)),.d (.slice (rowsF api_Member_row a0.Events))])],vec:=[]}:St)) (fun v1_=>v1=v1_) (fun v1_ e=>?_) ?_
 ·subst e
  refine trc (b:=v1) (by simp) (fun c3=>?_) (fun c3=>?_)
  ·rw[if_pos c3] at h0
   refine kr [6] (by simp;rfl) ?_
   cases h0
   exact trr ⟨[],by simp,rfl,by simp⟩
  ·rw[if_neg (by rw[c3];decide)] at h0
   refine trk ?_
   refine kc ?_
   refine ko [2,3,18,19] 2 (by simp;rfl) ?_
   replace h0:=bnd h0;obtain⟨y2,hy2,h0⟩:=h0
   refine kcall [2,3,20] [] (directory_at_ok hy2) rfl rfl rfl Tryz.call44 (by simp) (by simp;rfl) ?_
   refine ko [2,3,7] 1 (by simp;rfl) ?_
   refine tpN ?_
   refine trq ?_
   refine kr [2,3,7,21,22,23] (by simp;rfl) ?_
   replace h0:=bnd h0;obtain⟨e1,hI1,h0⟩:=h0
   refine tjv (fun v3:Unit=>({ nt:=58,env:=[],box:=[],vec:=[]}:St)) (fun v3=>.inl v3=e1) (fun v3 hI1e _ W1=>?_) ?_
   ·subst hI1e
    dsimp only at h0
    refine tr_wk W1 ?_
    refine kr [6] (by simp;rfl) ?_
    cases h0
    exact trr ⟨[],by simp,rfl,by simp⟩
   ·refine trb (tr_iter (fun s4:Int=>({ nt:=58,env:=[(2,.d (.slice (rowsF (iRow .i64) a2))),(3,.ptr 3 0),(7,.d (.slice (rowsF (slRow bRow) y2))),(21,.d (.slice (rowsF (iRow .i64) a2))),(22,.d (.int .i64 ((a2).length:Int))),(23,.d (.int .i64 s4))],box:=[(3,[.d (.slice (rowsF (iRow .i64) a0.Kinds)),.d (.slice (rowsF api_Member_row a0.Events))])],vec:=[]}:St)) hI1 (wk (by simp[wkI])) fun G1 s4 o1 h1 hg1 he1=>?_)
    unfold directory_Proves_l0 at h1
    refine kr [2,3,7,21,22,23,24] (by simp;rfl) ?_
    refine trq ?_
    refine trc (b:=(decide (s4 < ((a2).length:Int)))) (by simp) (fun c14=>?_) (fun c14=>?_)
    ·rw[if_pos c14] at h1
     refine trk ?_
     refine trq ?_
     refine trb ?_
     replace h1:=bnd h1;obtain⟨x5,p11,h1⟩:=h1
     replace p11:=idx_some p11
     have p11':=p11;try simp at p11'
     refine kr [2,3,7,8,9,21,22,23] (by simp[p11,p11'];rfl) ?_
     replace h1:=bnd h1;obtain⟨v6,hvv6,h1⟩:=h1
     refine sjv (fun v6_:Bool=>({ nt:=58,env:=[(2,.d (.slice (rowsF (iRow .i64) a2))),(3,.ptr 3 0),(7,.d (.slice (rowsF (slRow bRow) y2))),(21,.d (.slice (rowsF (iRow .i64) a2))),(22,.d (.int .i64 ((a2).length:Int))),(23,.d (.int .i64 s4)),(56,.d (.bool v6_))],box:=[(3,[.d (.slice (rowsF (iRow .i64) a0.Kinds)),.d (.slice (rowsF api_Member_row a0.Events))])],vec:=[]}:St)) (fun v6_=>v6=v6_) (fun v6_ e=>?_) ?_
     ·subst e
      refine trc (b:=v6) (by simp) (fun c21=>?_) (fun c21=>?_)
      ·rw[if_pos c21] at h1
       refine kr [6] (by simp;rfl) ?_
       have k1:=he1 _ (Option.some.inj h1)
       subst k1
       dsimp only at h0
       cases h0
       exact trr ⟨[],by simp,rfl,by simp⟩
      ·rw[if_neg (by rw[c21];decide)] at h1
       refine trk ?_
       refine lr (by simp;rfl) ?_
       exact⟨_,hg1 _ (Option.some.inj h1),wk (by simp[wkI])⟩
     ·refine kc1 ?_
      refine ko [2,3,7,8,9,21,22,23,28,29] 2 (by simp;rfl) ?_
      replace hvv6:=bnd hvv6;obtain⟨y7,hy7,hvv6⟩:=hvv6
      refine kcall [2,3,7,8,9,21,22,23,30] [] (directory_exists_ok hy7) rfl rfl rfl Tryz.call67 (by simp) (by simp;rfl) ?_
      refine ko [2,3,7,8,9,21,22,23,32] 2 (by simp;rfl) ?_
      refine tops_split 32 (!y7) (by simp) (fun c22=>?_) (fun c22=>?_)
      ·rw[if_pos c22] at hvv6
       refine kskip 5 [] (by kernel_rfl) ?_
       refine ko [2,3,7,8,9,21,22,23,39] 2 (by simp;rfl) ?_
       refine kskip 16 [] (by kernel_rfl) ?_
       refine ko [2,3,7,21,22,23,56] 1 (by simp;rfl) ?_
       refine tpN ?_
       cases hvv6
       exact⟨_,rfl,wk (by simp[wkI])⟩
      ·rw[if_neg (by rw[c22];decide)] at hvv6
       replace hvv6:=bnd hvv6;obtain⟨_,p20,hvv6⟩:=hvv6
       replace p20:=ck_some p20
       have p20':=p20;try simp at p20'
       refine ko [2,3,7,8,9,21,22,23,32,33,34,35,36] 4 (by simp[p20,p20'];rfl) ?_
       replace hvv6:=bnd hvv6;obtain⟨y8,hy8,hvv6⟩:=hvv6
       refine kcall [2,3,7,8,9,21,22,23,32,33,34,35,36,37] [] (sYContains_int_ok hy8) rfl rfl rfl Tryz.call38 (by simp) (by simp;rfl) ?_
       refine ko [2,3,7,8,9,21,22,23,33,34,35,36,37,39] 2 (by simp;rfl) ?_
       refine tops_split 39 y8 (by simp) (fun c23=>?_) (fun c23=>?_)
       ·rw[if_pos c23] at hvv6
        refine kskip 16 [] (by kernel_rfl) ?_
        refine ko [2,3,7,21,22,23,33,34,35,36,37,56] 1 (by simp;rfl) ?_
        refine tpN ?_
        cases hvv6
        exact⟨_,rfl,wk (by simp[wkI])⟩
       ·rw[if_neg (by rw[c23];decide)] at hvv6
        refine ko [2,3,7,8,9,21,22,23,33,34,35,36,37,39,40,41,42] 3 (by simp;rfl) ?_
        refine tops_split 42 (decide (0 < s4)) (by simp) (fun c24=>?_) (fun c24=>?_)
        ·rw[if_pos c24] at hvv6
         replace hvv6:=bnd hvv6;obtain⟨x9,p21,hvv6⟩:=hvv6
         replace p21:=idx_some p21
         have p21':=p21;try simp at p21'
         replace hvv6:=bnd hvv6;obtain⟨x10,p22,hvv6⟩:=hvv6
         replace p22:=idx_some p22
         have p22':=p22;try simp at p22'
         replace hvv6:=bnd hvv6;obtain⟨x11,p23,hvv6⟩:=hvv6
         replace p23:=idx_some p23
         have p23':=p23;try simp at p23'
         refine ko [2,3,7,21,22,23,33,34,35,36,37,40,41,42,43,44,45,46,47,48,49,50,51,52,53,54,55,56] 14 (by simp[p21,p22,p23,p21',p22',p23'];rfl) ?_
         refine tpN ?_
         cases hvv6
         exact⟨_,rfl,wk (by simp[wkI])⟩
        ·rw[if_neg (by rw[c24];decide)] at hvv6
         refine kskip 12 [] (by kernel_rfl) ?_
         refine ko [2,3,7,21,22,23,33,34,35,36,37,40,41,42,55,56] 2 (by simp;rfl) ?_
         refine tpN ?_
         cases hvv6
         exact⟨_,rfl,wk (by simp[wkI])⟩
    ·rw[if_neg (by rw[c14];decide)] at h1
     refine tr_exit ?_
     exact⟨_,he1 _ (Option.some.inj h1),wk (by simp[wkI])⟩
 ·refine kc1 ?_
  refine ko [1,2,3,10] 1 (by simp;rfl) ?_
  replace hvv1:=bnd hvv1;obtain⟨y14,hy14,hvv1⟩:=hvv1
  refine kcall [1,2,3,11] [] (directory_Check_ok hy14) rfl rfl rfl Tryz.call65 (by simp) (by simp;rfl) ?_
  refine ko [1,2,3,13] 2 (by simp;rfl) ?_
  refine tops_split 13 (y14 != 0) (by simp) (fun c25=>?_) (fun c25=>?_)
  ·rw[if_pos c25] at hvv1
   refine kskip 3 [] (by kernel_rfl) ?_
   refine ko [1,2,3,17] 1 (by simp;rfl) ?_
   refine tpN ?_
   cases hvv1
   exact⟨_,rfl,wk (by simp[wkI])⟩
  ·rw[if_neg (by rw[c25];decide)] at hvv1
   refine ko [1,2,3,17] 4 (by simp;rfl) ?_
   refine tpN ?_
   cases hvv1
   exact⟨_,rfl,wk (by simp[wkI])⟩
theorem readers_Proves_ok {a0:api_Directory} {a1:api_Estate} {a2:Int} {a3:api_Reading} {r:Bool} (h0:readers_Proves a0 a1 a2 a3=some r):FnOK Tryz.prog 15 [] [.agg (api_Directory_av a0),.agg (api_Estate_av a1),.d (.int .i64 a2),.agg (api_Reading_av a3)] (.d (.bool r)) []:=by
 unfold readers_Proves at h0
 refine fn_ok (nt:=91) (rs:=[.tmp 8]) Tryz.func15 rfl Tryz.ntmps15 rfl (by simp) (by decide) rfl fun K=>?_
 refine kr [2,4,5,7] (by simp;rfl) ?_
 refine trq ?_
 refine kc ?_
 refine ko [2,4,5,7,11,12,13,15] 5 (by simp;rfl) ?_
 replace h0:=bnd h0;obtain⟨y1,hy1,h0⟩:=h0
 refine kcall [2,4,5,7,16] [] (readers_fine_ok hy1) rfl rfl rfl Tryz.call36 (by simp) (by simp;rfl) ?_
 refine ko [2,4,5,7,17] 1 (by simp;rfl) ?_
 refine tpN ?_
 refine trc (b:=(!y1)) (by simp) (fun c1=>?_) (fun c1=>?_)
 ·rw[if_pos c1] at h0
  refine kr [8] (by simp;rfl) ?_
  cases h0
  exact trr ⟨[],by simp,rfl,by simp⟩
 ·rw[if_neg (by rw[c1];decide)] at h0
  refine trk ?_
  refine trq ?_
  refine kr [2,4,5,7,20] (by simp;rfl) ?_
  refine trc (b:=(a3.Link != (-1))) (by simp) (fun c2=>?_) (fun c2=>?_)
  ·rw[if_pos c2] at h0
   replace h0:=bnd h0;obtain⟨v2,hvv2,h0⟩:=h0
   refine sjv (fun v2_:Bool=>({ nt:=91,env:=[(8,.d (.bool v2_))],box:=[],vec:=[]}:St)) (fun v2_=>v2=v2_) (fun v2_ e=>?_) ?_
   ·subst e
    cases h0
    exact trr ⟨[],by simp,rfl,by simp⟩
   ·refine kc1 ?_
    refine ko [5,7,24] 4 (by simp;rfl) ?_
    refine tops_split 24 (a3.Grant==(-1)) (by simp) (fun c7=>?_) (fun c7=>?_)
    ·rw[if_pos c7] at hvv2
     refine ko [5,7,30] 6 (by simp;rfl) ?_
     refine tops_split 30 (((a3.Chain).length:Int)==0) (by simp) (fun c8=>?_) (fun c8=>?_)
     ·rw[if_pos c8] at hvv2
      refine ko [30,31,33,35,37] 7 (by simp;rfl) ?_
      replace hvv2:=bnd hvv2;obtain⟨y3,hy3,hvv2⟩:=hvv2
      refine kcall [30,38] [] (readers_Link_ok hy3) rfl rfl rfl Tryz.call46 (by simp) (by simp;rfl) ?_
      refine ko [8] 2 (by simp;rfl) ?_
      refine tpN ?_
      cases hvv2
      exact⟨_,rfl,wk (by simp[wkI])⟩
     ·rw[if_neg (by rw[c8];decide)] at hvv2
      refine kskip 8 [] (by kernel_rfl) ?_
      refine ko [8] 2 (by simp;rfl) ?_
      refine tpN ?_
      cases hvv2
      exact⟨_,rfl,wk (by simp[wkI])⟩
    ·rw[if_neg (by rw[c7];decide)] at hvv2
     refine kskip 4 [] (by kernel_rfl) ?_
     refine ko [5,7,30] 2 (by simp;rfl) ?_
     refine kskip 8 [] (by kernel_rfl) ?_
     refine ko [8] 2 (by simp;rfl) ?_
     refine tpN ?_
     cases hvv2
     exact⟨_,rfl,wk (by simp[wkI])⟩
  ·rw[if_neg (by rw[c2];decide)] at h0
   refine trk ?_
   refine kc ?_
   refine ko [2,4,7,41,43,45,47] 7 (by simp;rfl) ?_
   replace h0:=bnd h0;obtain⟨y4,hy4,h0⟩:=h0
   refine kcall [2,4,7,48] [] (readers_granted_ok hy4) rfl rfl rfl Tryz.call47 (by simp) (by simp;rfl) ?_
   refine ko [2,4,7,9,10] 5 (by simp;rfl) ?_
   refine tpN ?_
   refine trq ?_
   replace h0:=bnd h0;obtain⟨v5,hvv5,h0⟩:=h0
   refine sjv (fun v5_:Bool=>({ nt:=91,env:=[(4,.ptr 4 0),(7,.ptr 7 0),(78,.d (.bool v5_))],box:=[(4,[.d (.slice (rowsF (iRow .i64) a0.Kinds)),.d (.slice (rowsF api_Member_row a0.Events))]),(7,[.d (.int .i64 a3.Place),.d (.int .i64 a3.Time),.d (.int .i64 a3.Link),.d (.int .i64 a3.Grant),.d (.slice (rowsF (iRow .i64) a3.Chain))])],vec:=[]}:St)) (fun v5_=>v5=v5_) (fun v5_ e=>?_) ?_
   ·subst e
    refine trc (b:=v5) (by simp) (fun c15=>?_) (fun c15=>?_)
    ·rw[if_pos c15] at h0
     refine kr [8] (by simp;rfl) ?_
     cases h0
     exact trr ⟨[],by simp,rfl,by simp⟩
    ·rw[if_neg (by rw[c15];decide)] at h0
     refine trk ?_
     replace h0:=bnd h0;obtain⟨v6,hvv6,h0⟩:=h0
     refine sjv (fun v6_:Bool=>({ nt:=91,env:=[(8,.d (.bool v6_))],box:=[],vec:=[]}:St)) (fun v6_=>v6=v6_) (fun v6_ e=>?_) ?_
     ·subst e
      cases h0
      exact trr ⟨[],by simp,rfl,by simp⟩
     ·refine kc1 ?_
      refine ko [4,7,83] 5 (by simp;rfl) ?_
      refine tops_split 83 (((a3.Chain).length:Int)==1) (by simp) (fun c18=>?_) (fun c18=>?_)
      ·rw[if_pos c18] at hvv6
       refine kskip 6 [] (by kernel_rfl) ?_
       refine ko [8] 2 (by simp;rfl) ?_
       refine tpN ?_
       cases hvv6
       exact⟨_,rfl,wk (by simp[wkI])⟩
      ·rw[if_neg (by rw[c18];decide)] at hvv6
       refine ko [83,84,86,88] 5 (by simp;rfl) ?_
       replace hvv6:=bnd hvv6;obtain⟨y7,hy7,hvv6⟩:=hvv6
       refine kcall [83,89] [] (directory_Proves_ok hy7) rfl rfl rfl Tryz.call48 (by simp) (by simp;rfl) ?_
       refine ko [8] 2 (by simp;rfl) ?_
       refine tpN ?_
       cases hvv6
       exact⟨_,rfl,wk (by simp[wkI])⟩
   ·refine kc1 ?_
    refine ko [2,4,7,9,53] 3 (by simp;rfl) ?_
    refine tops_split 53 (!y4.2) (by simp) (fun c19=>?_) (fun c19=>?_)
    ·rw[if_pos c19] at hvv5
     refine kskip 4 [] (by kernel_rfl) ?_
     refine ko [2,4,7,9,59] 2 (by simp;rfl) ?_
     refine kskip 6 [] (by kernel_rfl) ?_
     refine ko [4,7,9,67] 2 (by simp;rfl) ?_
     refine kskip 10 [] (by kernel_rfl) ?_
     refine ko [4,7,78] 1 (by simp;rfl) ?_
     refine tpN ?_
     cases hvv5
     exact⟨_,rfl,wk (by simp[wkI])⟩
    ·rw[if_neg (by rw[c19];decide)] at hvv5
     refine ko [2,4,7,9,59] 6 (by simp;rfl) ?_
     refine tops_split 59 (((a3.Chain).length:Int)==0) (by simp) (fun c20=>?_) (fun c20=>?_)
     ·rw[if_pos c20] at hvv5
      refine kskip 6 [] (by kernel_rfl) ?_
      refine ko [4,7,9,67] 2 (by simp;rfl) ?_
      refine kskip 10 [] (by kernel_rfl) ?_
      refine ko [4,7,78] 1 (by simp;rfl) ?_
      refine tpN ?_
      cases hvv5
      exact⟨_,rfl,wk (by simp[wkI])⟩
     ·rw[if_neg (by rw[c20];decide)] at hvv5
      replace hvv5:=bnd hvv5;obtain⟨x8,p5,hvv5⟩:=hvv5
      replace p5:=idx_some p5
      have p5':=p5;try simp at p5'
      refine ko [4,7,9,67] 8 (by simp[p5,p5'];rfl) ?_
      refine tops_split 67 (x8 != a2) (by simp) (fun c21=>?_) (fun c21=>?_)
      ·rw[if_pos c21] at hvv5
       refine kskip 10 [] (by kernel_rfl) ?_
       refine ko [4,7,78] 1 (by simp;rfl) ?_
       refine tpN ?_
       cases hvv5
       exact⟨_,rfl,wk (by simp[wkI])⟩
      ·rw[if_neg (by rw[c21];decide)] at hvv5
       replace hvv5:=bnd hvv5;obtain⟨x9,p6,hvv5⟩:=hvv5
       replace p6:=idx_some p6
       have p6':=p6;try simp at p6'
       refine ko [4,7,78] 11 (by simp[p6,p6'];rfl) ?_
       refine tpN ?_
       cases hvv5
       exact⟨_,rfl,wk (by simp[wkI])⟩
theorem exposure_Proves_ok {a0:api_Directory} {a1:api_Estate} {a2:Int} {a3:api_Exposure} {a4:api_Leak} {r:Bool} (h0:exposure_Proves a0 a1 a2 a3 a4=some r):FnOK Tryz.prog 16 [] [.agg (api_Directory_av a0),.agg (api_Estate_av a1),.d (.int .i64 a2),.agg (api_Exposure_av a3),.agg (api_Leak_av a4)] (.d (.bool r)) []:=by
 unfold exposure_Proves at h0
 refine fn_ok (nt:=76) (rs:=[.tmp 10]) Tryz.func16 rfl Tryz.ntmps16 rfl (by simp) (by decide) rfl fun K=>?_
 refine kr [2,5,6,8,9] (by simp;rfl) ?_
 refine kr [2,5,6,8,9,11] (by simp;rfl) ?_
 refine trq ?_
 replace h0:=bnd h0;obtain⟨v1,hvv1,h0⟩:=h0
 refine sjv (fun v1_:Bool=>({ nt:=76,env:=[(5,.ptr 5 0),(6,.ptr 6 0),(8,.ptr 8 0),(11,.ptr 11 0),(47,.d (.bool v1_))],box:=[(5,[.d (.slice (rowsF (iRow .i64) a0.Kinds)),.d (.slice (rowsF api_Member_row a0.Events))]),(6,[.d (.int .i64 a1.Places),.d (.slice (rowsF api_Access_row a1.Events))]),(8,[.d (.int .i64 a3.Principal),.d (.int .i64 a3.Time)]),(11,[.d (.int .i64 a4.Reading.Place),.d (.int .i64 a4.Reading.Time),.d (.int .i64 a4.Reading.Link),.d (.int .i64 a4.Reading.Grant),.d (.slice (rowsF (iRow .i64) a4.Reading.Chain))])],vec:=[]}:St)) (fun v1_=>v1=v1_) (fun v1_ e=>?_) ?_
 ·subst e
  refine trc (b:=v1) (by simp) (fun c9=>?_) (fun c9=>?_)
  ·rw[if_pos c9] at h0
   refine kr [10] (by simp;rfl) ?_
   cases h0
   exact trr ⟨[],by simp,rfl,by simp⟩
  ·rw[if_neg (by rw[c9];decide)] at h0
   refine trk ?_
   refine trq ?_
   refine kr [5,6,8,11,50] (by simp;rfl) ?_
   refine trc (b:=(a3.Principal != (-1))) (by simp) (fun c10=>?_) (fun c10=>?_)
   ·rw[if_pos c10] at h0
    refine kc ?_
    refine ko [51,52,54,55] 5 (by simp;rfl) ?_
    replace h0:=bnd h0;obtain⟨y2,hy2,h0⟩:=h0
    refine kcall [56] [] (readers_Proves_ok hy2) rfl rfl rfl Tryz.call15 (by simp) (by simp;rfl) ?_
    refine ko [10] 1 (by simp;rfl) ?_
    refine tpN ?_
    cases h0
    exact trr ⟨[],by simp,rfl,by simp⟩
   ·rw[if_neg (by rw[c10];decide)] at h0
    refine trk ?_
    replace h0:=bnd h0;obtain⟨v3,hvv3,h0⟩:=h0
    refine sjv (fun v3_:Bool=>({ nt:=76,env:=[(10,.d (.bool v3_))],box:=[],vec:=[]}:St)) (fun v3_=>v3=v3_) (fun v3_ e=>?_) ?_
    ·subst e
     cases h0
     exact trr ⟨[],by simp,rfl,by simp⟩
    ·refine kc1 ?_
     refine ko [6,11,60] 4 (by simp;rfl) ?_
     refine tops_split 60 (a4.Reading.Grant==(-1)) (by simp) (fun c15=>?_) (fun c15=>?_)
     ·rw[if_pos c15] at hvv3
      refine ko [6,11,66] 6 (by simp;rfl) ?_
      refine tops_split 66 (((a4.Reading.Chain).length:Int)==0) (by simp) (fun c16=>?_) (fun c16=>?_)
      ·rw[if_pos c16] at hvv3
       refine ko [66,67,69,71,73] 7 (by simp;rfl) ?_
       replace hvv3:=bnd hvv3;obtain⟨y4,hy4,hvv3⟩:=hvv3
       refine kcall [66,74] [] (readers_Link_ok hy4) rfl rfl rfl Tryz.call46 (by simp) (by simp;rfl) ?_
       refine ko [10] 2 (by simp;rfl) ?_
       refine tpN ?_
       cases hvv3
       exact⟨_,rfl,wk (by simp[wkI])⟩
      ·rw[if_neg (by rw[c16];decide)] at hvv3
       refine kskip 8 [] (by kernel_rfl) ?_
       refine ko [10] 2 (by simp;rfl) ?_
       refine tpN ?_
       cases hvv3
       exact⟨_,rfl,wk (by simp[wkI])⟩
     ·rw[if_neg (by rw[c15];decide)] at hvv3
      refine kskip 4 [] (by kernel_rfl) ?_
      refine ko [6,11,66] 2 (by simp;rfl) ?_
      refine kskip 8 [] (by kernel_rfl) ?_
      refine ko [10] 2 (by simp;rfl) ?_
      refine tpN ?_
      cases hvv3
      exact⟨_,rfl,wk (by simp[wkI])⟩
 ·refine kc1 ?_
  refine ko [2,5,6,8,9,11,14,15,16] 3 (by simp;rfl) ?_
  replace hvv1:=bnd hvv1;obtain⟨y5,hy5,hvv1⟩:=hvv1
  refine kcall [2,5,6,8,9,11,17] [] (exposure_check_ok hy5) rfl rfl rfl Tryz.call49 (by simp) (by simp;rfl) ?_
  refine ko [2,5,6,8,9,11,19] 2 (by simp;rfl) ?_
  refine tops_split 19 (y5 != 0) (by simp) (fun c17=>?_) (fun c17=>?_)
  ·rw[if_pos c17] at hvv1
   refine kskip 5 [] (by kernel_rfl) ?_
   refine ko [2,5,6,8,9,11,26] 2 (by simp;rfl) ?_
   refine kskip 3 [] (by kernel_rfl) ?_
   refine ko [2,5,6,8,9,11,31] 2 (by simp;rfl) ?_
   refine kskip 3 [] (by kernel_rfl) ?_
   refine ko [2,5,6,8,9,11,36] 2 (by simp;rfl) ?_
   refine kskip 10 [] (by kernel_rfl) ?_
   refine ko [5,6,8,11,47] 1 (by simp;rfl) ?_
   refine tpN ?_
   cases hvv1
   exact⟨_,rfl,wk (by simp[wkI])⟩
  ·rw[if_neg (by rw[c17];decide)] at hvv1
   refine ko [2,5,6,8,9,11,26] 7 (by simp;rfl) ?_
   refine tops_split 26 (a4.Reading.Time != a3.Time) (by simp) (fun c18=>?_) (fun c18=>?_)
   ·rw[if_pos c18] at hvv1
    refine kskip 3 [] (by kernel_rfl) ?_
    refine ko [2,5,6,8,9,11,31] 2 (by simp;rfl) ?_
    refine kskip 3 [] (by kernel_rfl) ?_
    refine ko [2,5,6,8,9,11,36] 2 (by simp;rfl) ?_
    refine kskip 10 [] (by kernel_rfl) ?_
    refine ko [5,6,8,11,47] 1 (by simp;rfl) ?_
    refine tpN ?_
    cases hvv1
    exact⟨_,rfl,wk (by simp[wkI])⟩
   ·rw[if_neg (by rw[c18];decide)] at hvv1
    refine ko [2,5,6,8,9,11,31] 5 (by simp;rfl) ?_
    refine tops_split 31 (decide (a3.Time < 0)) (by simp) (fun c19=>?_) (fun c19=>?_)
    ·rw[if_pos c19] at hvv1
     refine kskip 3 [] (by kernel_rfl) ?_
     refine ko [2,5,6,8,9,11,36] 2 (by simp;rfl) ?_
     refine kskip 10 [] (by kernel_rfl) ?_
     refine ko [5,6,8,11,47] 1 (by simp;rfl) ?_
     refine tpN ?_
     cases hvv1
     exact⟨_,rfl,wk (by simp[wkI])⟩
    ·rw[if_neg (by rw[c19];decide)] at hvv1
     refine ko [2,5,6,8,9,11,36] 5 (by simp;rfl) ?_
     refine tops_split 36 (decide (1099511627776 < a3.Time)) (by simp) (fun c20=>?_) (fun c20=>?_)
     ·rw[if_pos c20] at hvv1
      refine kskip 10 [] (by kernel_rfl) ?_
      refine ko [5,6,8,11,47] 1 (by simp;rfl) ?_
      refine tpN ?_
      cases hvv1
      exact⟨_,rfl,wk (by simp[wkI])⟩
     ·rw[if_neg (by rw[c20];decide)] at hvv1
      refine ko [5,6,8,11,36,37,38,40,42,44] 8 (by simp;rfl) ?_
      replace hvv1:=bnd hvv1;obtain⟨y6,hy6,hvv1⟩:=hvv1
      refine kcall [5,6,8,11,36,45] [] (copies_Proves_ok hy6) rfl rfl rfl Tryz.call11 (by simp) (by simp;rfl) ?_
      refine ko [5,6,8,11,47] 2 (by simp;rfl) ?_
      refine tpN ?_
      cases hvv1
      exact⟨_,rfl,wk (by simp[wkI])⟩
theorem exposure_Since_ok {a0:api_Directory} {a1:api_Estate} {a2:Int} {a3:Int} {r:Int×Bool} (h0:exposure_Since a0 a1 a2 a3=some r):FnOK Tryz.prog 17 [] [.agg (api_Directory_av a0),.agg (api_Estate_av a1),.d (.int .i64 a2),.d (.int .i64 a3)] (.tup [.d (.int .i64 r.1),.d (.bool r.2)]) []:=by
 unfold exposure_Since at h0
 refine fn_ok (nt:=22) (rs:=[.tmp 8,.tmp 9]) Tryz.func17 rfl Tryz.ntmps17 rfl (by simp) (by decide) rfl fun K=>?_
 refine kr [2,3,4,5] (by simp;rfl) ?_
 refine trq ?_
 refine kc ?_
 refine ko [2,3,4,5,10,11,12] 3 (by simp;rfl) ?_
 replace h0:=bnd h0;obtain⟨y1,hy1,h0⟩:=h0
 refine kcall [2,3,4,5,13] [] (exposure_check_ok hy1) rfl rfl rfl Tryz.call49 (by simp) (by simp;rfl) ?_
 refine ko [2,3,4,5,14] 1 (by simp;rfl) ?_
 refine tpN ?_
 refine trc (b:=(y1 != 0)) (by simp) (fun c1=>?_) (fun c1=>?_)
 ·rw[if_pos c1] at h0
  refine kr [8,9] (by simp;rfl) ?_
  cases h0
  exact trr ⟨[],by simp,rfl,by simp⟩
 ·rw[if_neg (by rw[c1];decide)] at h0
  refine trk ?_
  refine kc ?_
  refine ko [15,16,17,18] 4 (by simp;rfl) ?_
  replace h0:=bnd h0;obtain⟨y2,hy2,h0⟩:=h0
  refine kcall [19] [] (exposure_since_ok hy2) rfl rfl rfl Tryz.call50 (by simp) (by simp;rfl) ?_
  refine ko [8,9] 4 (by simp;rfl) ?_
  refine tpN ?_
  cases h0
  exact trr ⟨[],by simp,rfl,by simp⟩
theorem top_TopReaders_ok {a0:List Int} {r:Bool} (h0:top_TopReaders a0=some r):FnOK Tryz.prog 3 [] [.d (.slice (rowsF (iRow .i64) a0))] (.d (.bool r)) []:=by
 unfold top_TopReaders at h0
 refine fn_ok (nt:=158) (rs:=[.tmp 2]) Tryz.func3 rfl Tryz.ntmps3 rfl (by simp) (by decide) rfl fun K=>?_
 refine kr [0] (by simp;rfl) ?_
 refine trq ?_
 refine kr [0,22] (by simp;rfl) ?_
 refine trc (b:=(decide (500 < ((a0).length:Int)))) (by simp) (fun c1=>?_) (fun c1=>?_)
 ·rw[if_pos c1] at h0
  refine kc ?_
  replace h0:=bnd h0;obtain⟨y1,hy1,h0⟩:=h0
  refine kcall [23] [] (top_awake31_ok hy1) rfl rfl rfl Tryz.call4 (by simp) (by simp;rfl) ?_
  refine ko [2] 1 (by simp;rfl) ?_
  refine tpN ?_
  cases h0
  exact trr ⟨[],by simp,rfl,by simp⟩
 ·rw[if_neg (by rw[c1];decide)] at h0
  refine trk ?_
  refine kr [3] (by simp;rfl) ?_
  refine kc ?_
  refine ko [3,27] 1 (by simp;rfl) ?_
  replace h0:=bnd h0;obtain⟨y2,hy2,h0⟩:=h0
  refine kcall [3,28] [26] (mYDirectory_ok hy2) rfl rfl rfl Tryz.call5 (by simp) (by simp;rfl) ?_
  refine ko [3,4] 2 (by simp;rfl) ?_
  refine tpN ?_
  refine kc ?_
  refine ko [3,4,29,30] 2 (by simp;rfl) ?_
  replace h0:=bnd h0;obtain⟨y3,hy3,h0⟩:=h0
  refine kcall [3,4,31] [26] (mYEstate_ok hy3) rfl rfl rfl Tryz.call6 (by simp) (by simp;rfl) ?_
  refine ko [3,4,5] 2 (by simp;rfl) ?_
  refine tpN ?_
  refine kc ?_
  refine ko [3,4,5,32] 1 (by simp;rfl) ?_
  replace h0:=bnd h0;obtain⟨y4,hy4,h0⟩:=h0
  refine kcall [3,4,5,33] [26] (zT_Next_ok hy4) rfl rfl rfl Tryz.call7 (by simp) (by simp;rfl) ?_
  refine ko [3,4,5,6] 1 (by simp;rfl) ?_
  refine tpN ?_
  refine kc ?_
  refine ko [4,5,6,34,37] 4 (by simp;rfl) ?_
  replace h0:=bnd h0;obtain⟨y5,hy5,h0⟩:=h0
  refine kcall [4,5,6,38] [26] (zT_Next_ok hy5) rfl rfl rfl Tryz.call7 (by simp) (by simp;rfl) ?_
  refine ko [4,5,6,7] 1 (by simp;rfl) ?_
  refine tpN ?_
  refine trq ?_
  refine kc ?_
  refine ko [4,5,6,7,39,40] 2 (by simp;rfl) ?_
  replace h0:=bnd h0;obtain⟨y6,hy6,h0⟩:=h0
  refine kcall [4,5,6,7,41] [] (ref23_Reader_ok hy6) rfl rfl rfl Tryz.call8 (by simp) (by simp;rfl) ?_
  refine ko [4,5,6,7,42] 1 (by simp;rfl) ?_
  refine tpN ?_
  refine trc (b:=(!y6)) (by simp) (fun c2=>?_) (fun c2=>?_)
  ·rw[if_pos c2] at h0
   refine kc ?_
   replace h0:=bnd h0;obtain⟨y7,hy7,h0⟩:=h0
   refine kcall [43] [] (top_awake31_ok hy7) rfl rfl rfl Tryz.call4 (by simp) (by simp;rfl) ?_
   refine ko [2] 1 (by simp;rfl) ?_
   refine tpN ?_
   cases h0
   exact trr ⟨[],by simp,rfl,by simp⟩
  ·rw[if_neg (by rw[c2];decide)] at h0
   refine trk ?_
   refine kr [4,5,6,7,8] (by simp;rfl) ?_
   refine trq ?_
   refine kr [4,5,6,7,8,9] (by simp;rfl) ?_
   replace h0:=bnd h0;obtain⟨e1,hI1,h0⟩:=h0
   refine tjv (fun v8:Int=>({ nt:=158,env:=[(4,.ptr 4 0),(5,.ptr 5 0),(6,.d (.int .i64 y4.1)),(7,.d (.int .i64 y5.1)),(8,.d (.int .i64 v8))],box:=[(4,[.d (.slice (rowsF (iRow .i64) y2.1.Kinds)),.d (.slice (rowsF api_Member_row y2.1.Events))]),(5,[.d (.int .i64 y3.1.Places),.d (.slice (rowsF api_Access_row y3.1.Events))])],vec:=[]}:St)) (fun v8=>.inl v8=e1) (fun v8 hI1e _ W1=>?_) ?_
   ·subst hI1e
    dsimp only at h0
    refine tr_wk W1 ?_
    refine kc ?_
    refine ko [8,135,136,137,138] 4 (by simp;rfl) ?_
    replace h0:=bnd h0;obtain⟨y9,hy9,h0⟩:=h0
    refine kcall [8,139] [] (exposure_Since_ok hy9) rfl rfl rfl Tryz.call17 (by simp) (by simp;rfl) ?_
    refine ko [8,18,19] 5 (by simp;rfl) ?_
    refine tpN ?_
    replace h0:=bnd h0;obtain⟨v10,hvv10,h0⟩:=h0
    refine sjv (fun v10_:Bool=>({ nt:=158,env:=[(2,.d (.bool v10_))],box:=[],vec:=[]}:St)) (fun v10_=>v10=v10_) (fun v10_ e=>?_) ?_
    ·subst e
     cases h0
     exact trr ⟨[],by simp,rfl,by simp⟩
    ·refine kc1 ?_
     refine ko [8,18,19,146] 5 (by simp;rfl) ?_
     refine tops_split 146 (y9.2==(decide (0≤v8))) (by simp) (fun c49=>?_) (fun c49=>?_)
     ·rw[if_pos c49] at hvv10
      refine ko [8,18,146,149] 3 (by simp;rfl) ?_
      refine tops_split 149 (!y9.2) (by simp) (fun c50=>?_) (fun c50=>?_)
      ·rw[if_pos c50] at hvv10
       refine kskip 3 [] (by kernel_rfl) ?_
       refine ko [155] 3 (by simp;rfl) ?_
       replace hvv10:=bnd hvv10;obtain⟨y11,hy11,hvv10⟩:=hvv10
       refine kcall [155,156] [] (top_awake31_ok hy11) rfl rfl rfl Tryz.call4 (by simp) (by simp;rfl) ?_
       refine ko [2] 2 (by simp;rfl) ?_
       refine tpN ?_
       cases hvv10
       exact⟨_,rfl,wk (by simp[wkI])⟩
      ·rw[if_neg (by rw[c50];decide)] at hvv10
       refine ko [155] 6 (by simp;rfl) ?_
       refine tops_split 155 (y9.1==v8) (by simp) (fun c51=>?_) (fun c51=>?_)
       ·rw[if_pos c51] at hvv10
        replace hvv10:=bnd hvv10;obtain⟨y12,hy12,hvv10⟩:=hvv10
        refine kcall [155,156] [] (top_awake31_ok hy12) rfl rfl rfl Tryz.call4 (by simp) (by simp;rfl) ?_
        refine ko [2] 2 (by simp;rfl) ?_
        refine tpN ?_
        cases hvv10
        exact⟨_,rfl,wk (by simp[wkI])⟩
       ·rw[if_neg (by rw[c51];decide)] at hvv10
        refine ko [2] 3 (by simp;rfl) ?_
        refine tpN ?_
        cases hvv10
        exact⟨_,rfl,wk (by simp[wkI])⟩
     ·rw[if_neg (by rw[c49];decide)] at hvv10
      refine kskip 7 [] (by kernel_rfl) ?_
      refine ko [2] 5 (by simp;rfl) ?_
      refine tpN ?_
      cases hvv10
      exact⟨_,rfl,wk (by simp[wkI])⟩
   ·refine trb (tr_iter (fun s13:Int×Int=>({ nt:=158,env:=[(4,.ptr 4 0),(5,.ptr 5 0),(6,.d (.int .i64 y4.1)),(7,.d (.int .i64 y5.1)),(8,.d (.int .i64 s13.1)),(9,.d (.int .i64 s13.2))],box:=[(4,[.d (.slice (rowsF (iRow .i64) y2.1.Kinds)),.d (.slice (rowsF api_Member_row y2.1.Events))]),(5,[.d (.int .i64 y3.1.Places),.d (.slice (rowsF api_Access_row y3.1.Events))])],vec:=[]}:St)) hI1 (wk (by simp[wkI])) fun G1 s13 o1 h1 hg1 he1=>?_)
    unfold top_TopReaders_l0 at h1
    refine trq ?_
    refine kr [4,5,6,7,8,9,45] (by simp;rfl) ?_
    refine trc (b:=(decide (s13.2 < 45))) (by simp) (fun c52=>?_) (fun c52=>?_)
    ·rw[if_pos c52] at h1
     refine trk ?_
     refine trq ?_
     refine trb ?_
     refine kr [4,5,6,7,8,9,10] (by simp;rfl) ?_
     refine trq ?_
     refine kc ?_
     refine ko [4,5,6,7,8,9,10,48,49,50] 3 (by simp;rfl) ?_
     replace h1:=bnd h1;obtain⟨y14,hy14,h1⟩:=h1
     refine kcall [4,5,6,7,8,9,10,51] [] (copies_Where_ok hy14) rfl rfl rfl Tryz.call9 (by simp) (by simp;rfl) ?_
     refine ko [4,5,6,7,8,9,10,51,52,53] 2 (by simp;rfl) ?_
     refine tpN ?_
     replace h1:=bnd h1;obtain⟨e2,hI2,h1⟩:=h1
     refine tjv (fun v15:Bool=>({ nt:=158,env:=[(4,.ptr 4 0),(5,.ptr 5 0),(6,.d (.int .i64 y4.1)),(7,.d (.int .i64 y5.1)),(8,.d (.int .i64 s13.1)),(9,.d (.int .i64 s13.2)),(10,.d (.bool v15))],box:=[(4,[.d (.slice (rowsF (iRow .i64) y2.1.Kinds)),.d (.slice (rowsF api_Member_row y2.1.Events))]),(5,[.d (.int .i64 y3.1.Places),.d (.slice (rowsF api_Access_row y3.1.Events))])],vec:=[]}:St)) (fun v15=>.inl v15=e2) (fun v15 hI2e _ W2=>?_) ?_
     ·subst hI2e
      dsimp only at h1
      refine tr_wk W2 ?_
      replace h1:=bnd h1;obtain⟨v16,hvv16,h1⟩:=h1
      refine sjv (fun v16_:Bool=>({ nt:=158,env:=[(4,.ptr 4 0),(5,.ptr 5 0),(6,.d (.int .i64 y4.1)),(7,.d (.int .i64 y5.1)),(8,.d (.int .i64 s13.1)),(9,.d (.int .i64 s13.2)),(132,.d (.bool v16_))],box:=[(4,[.d (.slice (rowsF (iRow .i64) y2.1.Kinds)),.d (.slice (rowsF api_Member_row y2.1.Events))]),(5,[.d (.int .i64 y3.1.Places),.d (.slice (rowsF api_Access_row y3.1.Events))])],vec:=[]}:St)) (fun v16_=>v16=v16_) (fun v16_ e=>?_) ?_
      ·subst e
       refine trc (b:=v16) (by simp) (fun c72=>?_) (fun c72=>?_)
       ·rw[if_pos c72] at h1
        refine lr (by simp;rfl) ?_
        refine lr (by simp;rfl) ?_
        exact⟨_,hg1 _ (Option.some.inj h1),wk (by simp[wkI])⟩
       ·rw[if_neg (by rw[c72];decide)] at h1
        refine trk ?_
        refine lr (by simp;rfl) ?_
        exact⟨_,hg1 _ (Option.some.inj h1),wk (by simp[wkI])⟩
      ·refine kc1 ?_
       refine ko [4,5,6,7,8,9,129] 2 (by simp;rfl) ?_
       refine tops_split 129 v15 (by simp) (fun c73=>?_) (fun c73=>?_)
       ·rw[c73] at hvv16
        refine ko [4,5,6,7,8,9,130,131,132] 3 (by simp;rfl) ?_
        refine tpN ?_
        cases hvv16
        exact⟨_,rfl,wk (by simp[wkI])⟩
       ·rw[c73] at hvv16
        refine ko [4,5,6,7,8,9,130,131,132] 3 (by simp;rfl) ?_
        refine tpN ?_
        cases hvv16
        exact⟨_,rfl,wk (by simp[wkI])⟩
     ·refine trb (tr_iter (fun s17:Bool×Int=>({ nt:=158,env:=[(4,.ptr 4 0),(5,.ptr 5 0),(6,.d (.int .i64 y4.1)),(7,.d (.int .i64 y5.1)),(8,.d (.int .i64 s13.1)),(9,.d (.int .i64 s13.2)),(10,.d (.bool s17.1)),(51,.d (.slice (rowsF (iRow .i64) y14))),(52,.d (.int .i64 ((y14).length:Int))),(53,.d (.int .i64 s17.2))],box:=[(4,[.d (.slice (rowsF (iRow .i64) y2.1.Kinds)),.d (.slice (rowsF api_Member_row y2.1.Events))]),(5,[.d (.int .i64 y3.1.Places),.d (.slice (rowsF api_Access_row y3.1.Events))])],vec:=[]}:St)) hI2 (wk (by simp[wkI])) fun G2 s17 o2 h2 hg2 he2=>?_)
      unfold top_TopReaders_l1 at h2
      refine kr [4,5,6,7,8,9,10,51,52,53,54] (by simp;rfl) ?_
      refine trq ?_
      refine trc (b:=(decide (s17.2 < ((y14).length:Int)))) (by simp) (fun c74=>?_) (fun c74=>?_)
      ·rw[if_pos c74] at h2
       refine trk ?_
       refine trq ?_
       refine trb ?_
       replace h2:=bnd h2;obtain⟨x18,p7,h2⟩:=h2
       replace p7:=idx_some p7
       have p7':=p7;try simp at p7'
       refine kr [4,5,6,7,8,9,10,12,51,52,53] (by simp[p7,p7'];rfl) ?_
       refine kc ?_
       refine ko [4,5,6,7,8,9,10,12,51,52,53,58,59,60,61] 4 (by simp;rfl) ?_
       replace h2:=bnd h2;obtain⟨y19,hy19,h2⟩:=h2
       refine kcall [4,5,6,7,8,9,10,12,51,52,53,62] [] (copies_Way_ok hy19) rfl rfl rfl Tryz.call10 (by simp) (by simp;rfl) ?_
       refine ko [4,5,6,7,8,9,10,12,13,14,51,52,53] 5 (by simp;rfl) ?_
       refine tpN ?_
       refine trq ?_
       replace h2:=bnd h2;obtain⟨v20,hvv20,h2⟩:=h2
       refine sjv (fun v20_:Bool=>({ nt:=158,env:=[(4,.ptr 4 0),(5,.ptr 5 0),(6,.d (.int .i64 y4.1)),(7,.d (.int .i64 y5.1)),(8,.d (.int .i64 s13.1)),(9,.d (.int .i64 s13.2)),(10,.d (.bool s17.1)),(12,.d (.int .i64 x18)),(13,.d (.slice (rowsF (iRow .i64) y19.1))),(51,.d (.slice (rowsF (iRow .i64) y14))),(52,.d (.int .i64 ((y14).length:Int))),(53,.d (.int .i64 s17.2)),(75,.d (.bool v20_))],box:=[(4,[.d (.slice (rowsF (iRow .i64) y2.1.Kinds)),.d (.slice (rowsF api_Member_row y2.1.Events))]),(5,[.d (.int .i64 y3.1.Places),.d (.slice (rowsF api_Access_row y3.1.Events))])],vec:=[]}:St)) (fun v20_=>v20=v20_) (fun v20_ e=>?_) ?_
       ·subst e
        refine trc (b:=v20) (by simp) (fun c77=>?_) (fun c77=>?_)
        ·rw[if_pos c77] at h2
         refine kr [2] (by simp;rfl) ?_
         have k2:=he2 _ (Option.some.inj h2)
         subst k2
         dsimp only at h1
         have k1:=he1 _ (Option.some.inj h1)
         subst k1
         dsimp only at h0
         cases h0
         exact trr ⟨[],by simp,rfl,by simp⟩
        ·rw[if_neg (by rw[c77];decide)] at h2
         refine trk ?_
         refine kc ?_
         refine ko [4,5,6,7,8,9,10,12,13,51,52,53,77,78,79,80,81] 5 (by simp;rfl) ?_
         replace h2:=bnd h2;obtain⟨y21,hy21,h2⟩:=h2
         refine kcall [4,5,6,7,8,9,10,12,13,51,52,53,82] [] (readers_Why_ok hy21) rfl rfl rfl Tryz.call12 (by simp) (by simp;rfl) ?_
         refine ko [4,5,6,7,8,9,10,12,13,15,16,51,52,53] 6 (by simp;rfl) ?_
         refine tpN ?_
         refine kd [[],[],[],[],[],[],[],[],[5,6,7],[0,1,2,3,4,8],[9]] [] [] none [] 11 fol (by decide +kernel) (by simp) ?_
         refine dr_go 0 2 rfl (by simp (maxSteps:=1000000);rfl) ?_
         refine dr_go 2 2 rfl (by simp (maxSteps:=1000000);rfl) ?_
         refine dr_go 4 2 rfl (by simp (maxSteps:=1000000);rfl) ?_
         refine dr_go 6 2 rfl (by simp (maxSteps:=1000000);rfl) ?_
         replace h2:=bnd h2;obtain⟨y22,hy22,h2⟩:=h2
         refine dr_call 8 [] (directory_Upward_ok hy22) rfl rfl rfl rfl rfl Tryz.call14 (by simp) ?_
         replace h2:=bnd h2;obtain⟨y23,hy23,h2⟩:=h2
         refine dr_call 9 [] (readers_Refutes_ok hy23) rfl rfl rfl rfl rfl Tryz.call13 (by simp) ?_
         refine dr_go 10 1 rfl (by simp (maxSteps:=1000000);rfl) ?_
         refine dr_end rfl (tpN ?_)
         refine trq ?_
         replace h2:=bnd h2;obtain⟨v24,hvv24,h2⟩:=h2
         refine sjv (fun v24_:Bool=>({ nt:=158,env:=[(4,.ptr 4 0),(5,.ptr 5 0),(6,.d (.int .i64 y4.1)),(7,.d (.int .i64 y5.1)),(8,.d (.int .i64 s13.1)),(9,.d (.int .i64 s13.2)),(10,.d (.bool s17.1)),(13,.d (.slice (rowsF (iRow .i64) y19.1))),(15,.ptr 15 0),(16,.d (.bool y21.2)),(51,.d (.slice (rowsF (iRow .i64) y14))),(52,.d (.int .i64 ((y14).length:Int))),(53,.d (.int .i64 s17.2)),(108,.d (.bool v24_))],box:=[(4,[.d (.slice (rowsF (iRow .i64) y2.1.Kinds)),.d (.slice (rowsF api_Member_row y2.1.Events))]),(5,[.d (.int .i64 y3.1.Places),.d (.slice (rowsF api_Access_row y3.1.Events))]),(15,[.d (.int .i64 y21.1.Place),.d (.int .i64 y21.1.Time),.d (.int .i64 y21.1.Link),.d (.int .i64 y21.1.Grant),.d (.slice (rowsF (iRow .i64) y21.1.Chain))])],vec:=[]}:St)) (fun v24_=>v24=v24_) (fun v24_ e=>?_) ?_
         ·subst e
          refine trc (b:=v24) (by simp) (fun c82=>?_) (fun c82=>?_)
          ·rw[if_pos c82] at h2
           refine kr [2] (by simp;rfl) ?_
           have k2:=he2 _ (Option.some.inj h2)
           subst k2
           dsimp only at h1
           have k1:=he1 _ (Option.some.inj h1)
           subst k1
           dsimp only at h0
           cases h0
           exact trr ⟨[],by simp,rfl,by simp⟩
          ·rw[if_neg (by rw[c82];decide)] at h2
           refine trk ?_
           refine trq ?_
           replace h2:=bnd h2;obtain⟨v25,hvv25,h2⟩:=h2
           refine sjv (fun v25_:Bool=>({ nt:=158,env:=[(4,.ptr 4 0),(5,.ptr 5 0),(6,.d (.int .i64 y4.1)),(7,.d (.int .i64 y5.1)),(8,.d (.int .i64 s13.1)),(9,.d (.int .i64 s13.2)),(10,.d (.bool s17.1)),(16,.d (.bool y21.2)),(51,.d (.slice (rowsF (iRow .i64) y14))),(52,.d (.int .i64 ((y14).length:Int))),(53,.d (.int .i64 s17.2)),(122,.d (.bool v25_))],box:=[(4,[.d (.slice (rowsF (iRow .i64) y2.1.Kinds)),.d (.slice (rowsF api_Member_row y2.1.Events))]),(5,[.d (.int .i64 y3.1.Places),.d (.slice (rowsF api_Access_row y3.1.Events))])],vec:=[]}:St)) (fun v25_=>v25=v25_) (fun v25_ e=>?_) ?_
           ·subst e
            refine trc (b:=v25) (by simp) (fun c85=>?_) (fun c85=>?_)
            ·rw[if_pos c85] at h2
             refine kr [2] (by simp;rfl) ?_
             have k2:=he2 _ (Option.some.inj h2)
             subst k2
             dsimp only at h1
             have k1:=he1 _ (Option.some.inj h1)
             subst k1
             dsimp only at h0
             cases h0
             exact trr ⟨[],by simp,rfl,by simp⟩
            ·rw[if_neg (by rw[c85];decide)] at h2
             refine trk ?_
             replace h2:=bnd h2;obtain⟨v26,hvv26,h2⟩:=h2
             refine tjv (fun v26_:Bool=>({ nt:=158,env:=[(4,.ptr 4 0),(5,.ptr 5 0),(6,.d (.int .i64 y4.1)),(7,.d (.int .i64 y5.1)),(8,.d (.int .i64 s13.1)),(9,.d (.int .i64 s13.2)),(10,.d (.bool v26_)),(51,.d (.slice (rowsF (iRow .i64) y14))),(52,.d (.int .i64 ((y14).length:Int))),(53,.d (.int .i64 s17.2))],box:=[(4,[.d (.slice (rowsF (iRow .i64) y2.1.Kinds)),.d (.slice (rowsF api_Member_row y2.1.Events))]),(5,[.d (.int .i64 y3.1.Places),.d (.slice (rowsF api_Access_row y3.1.Events))])],vec:=[]}:St)) (fun v26_=>v26=v26_) (fun v26_ e _ Wv26=>?_) ?_
             ·subst e
              refine tr_wk Wv26 ?_
              refine lr (by simp;rfl) ?_
              exact⟨_,hg2 _ (Option.some.inj h2),wk (by simp[wkI])⟩
             ·refine kc1 ?_
              refine ko [4,5,6,7,8,9,16,51,52,53,124] 2 (by simp;rfl) ?_
              refine tops_split 124 s17.1 (by simp) (fun c88=>?_) (fun c88=>?_)
              ·rw[c88] at hvv26
               refine ko [4,5,6,7,8,9,10,51,52,53,125] 3 (by simp;rfl) ?_
               refine tpN ?_
               cases hvv26
               exact⟨_,rfl,wk (by simp[wkI])⟩
              ·rw[c88] at hvv26
               refine ko [4,5,6,7,8,9,10,51,52,53,125] 3 (by simp;rfl) ?_
               refine tpN ?_
               cases hvv26
               exact⟨_,rfl,wk (by simp[wkI])⟩
           ·refine kc1 ?_
            refine ko [4,5,6,7,8,9,10,13,15,16,51,52,53,110] 2 (by simp;rfl) ?_
            refine tops_split 110 y21.2 (by simp) (fun c89=>?_) (fun c89=>?_)
            ·rw[if_pos c89] at hvv25
             refine ko [4,5,6,7,8,9,10,16,51,52,53,110,111,112,113,114,115,116,117,118,119] 9 (by simp;rfl) ?_
             replace hvv25:=bnd hvv25;obtain⟨y27,hy27,hvv25⟩:=hvv25
             refine kcall [4,5,6,7,8,9,10,16,51,52,53,110,111,112,113,114,115,116,117,118,119,120] [] (exposure_Proves_ok hy27) rfl rfl rfl Tryz.call16 (by simp) (by simp;rfl) ?_
             refine ko [4,5,6,7,8,9,10,16,51,52,53,111,112,113,114,115,116,117,118,119,120,121,122] 2 (by simp;rfl) ?_
             refine tpN ?_
             cases hvv25
             exact⟨_,rfl,wk (by simp[wkI])⟩
            ·rw[if_neg (by rw[c89];decide)] at hvv25
             refine kskip 11 [] (by kernel_rfl) ?_
             refine ko [4,5,6,7,8,9,10,16,51,52,53,122] 1 (by simp;rfl) ?_
             refine tpN ?_
             cases hvv25
             exact⟨_,rfl,wk (by simp[wkI])⟩
         ·refine kc1 ?_
          refine ko [4,5,6,7,8,9,10,13,15,16,51,52,53,98] 4 (by simp;rfl) ?_
          refine tops_split 98 (y21.2==y23) (by simp) (fun c90=>?_) (fun c90=>?_)
          ·rw[if_pos c90] at hvv24
           refine kskip 9 [] (by kernel_rfl) ?_
           refine ko [4,5,6,7,8,9,10,13,15,16,51,52,53,108] 1 (by simp;rfl) ?_
           refine tpN ?_
           cases hvv24
           exact⟨_,rfl,wk (by simp[wkI])⟩
          ·rw[if_neg (by rw[c90];decide)] at hvv24
           refine ko [4,5,6,7,8,9,10,13,15,16,51,52,53,98,99,100] 2 (by simp;rfl) ?_
           refine tops_split 100 y21.2 (by simp) (fun c91=>?_) (fun c91=>?_)
           ·rw[if_pos c91] at hvv24
            refine ko [4,5,6,7,8,9,10,13,15,16,51,52,53,98,99,100,101,102,103,104] 4 (by simp;rfl) ?_
            replace hvv24:=bnd hvv24;obtain⟨y28,hy28,hvv24⟩:=hvv24
            refine kcall [4,5,6,7,8,9,10,13,15,16,51,52,53,98,99,100,101,102,103,104,105] [] (readers_Proves_ok hy28) rfl rfl rfl Tryz.call15 (by simp) (by simp;rfl) ?_
            refine ko [4,5,6,7,8,9,10,13,15,16,51,52,53,99,100,101,102,103,104,105,106,107,108] 3 (by simp;rfl) ?_
            refine tpN ?_
            cases hvv24
            exact⟨_,rfl,wk (by simp[wkI])⟩
           ·rw[if_neg (by rw[c91];decide)] at hvv24
            refine kskip 6 [] (by kernel_rfl) ?_
            refine ko [4,5,6,7,8,9,10,13,15,16,51,52,53,99,100,107,108] 2 (by simp;rfl) ?_
            refine tpN ?_
            cases hvv24
            exact⟨_,rfl,wk (by simp[wkI])⟩
       ·refine kc1 ?_
        refine ko [4,5,6,7,8,9,10,12,13,51,52,53,67] 3 (by simp;rfl) ?_
        refine tops_split 67 (!y19.2) (by simp) (fun c92=>?_) (fun c92=>?_)
        ·rw[if_pos c92] at hvv20
         refine kskip 7 [] (by kernel_rfl) ?_
         refine ko [4,5,6,7,8,9,10,12,13,51,52,53,75] 1 (by simp;rfl) ?_
         refine tpN ?_
         cases hvv20
         exact⟨_,rfl,wk (by simp[wkI])⟩
        ·rw[if_neg (by rw[c92];decide)] at hvv20
         refine ko [4,5,6,7,8,9,10,12,13,51,52,53,67,68,69,70,71,72] 5 (by simp;rfl) ?_
         replace hvv20:=bnd hvv20;obtain⟨y29,hy29,hvv20⟩:=hvv20
         refine kcall [4,5,6,7,8,9,10,12,13,51,52,53,67,68,69,70,71,72,73] [] (copies_Proves_ok hy29) rfl rfl rfl Tryz.call11 (by simp) (by simp;rfl) ?_
         refine ko [4,5,6,7,8,9,10,12,13,51,52,53,68,69,70,71,72,73,74,75] 2 (by simp;rfl) ?_
         refine tpN ?_
         cases hvv20
         exact⟨_,rfl,wk (by simp[wkI])⟩
      ·rw[if_neg (by rw[c74];decide)] at h2
       refine tr_exit ?_
       exact⟨_,he2 _ (Option.some.inj h2),wk (by simp[wkI])⟩
    ·rw[if_neg (by rw[c52];decide)] at h1
     refine tr_exit ?_
     exact⟨_,he1 _ (Option.some.inj h1),wk (by simp[wkI])⟩
end Go.Vl
