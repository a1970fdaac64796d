/- Plain functions that mirror functions of the given program. Conditions: none. -/
import Derived.Test.YtbnfogbfphakmaaGreatDoorLAx
import Derived.Test.YtbnfogbfphakmaaGreatDoorLsx
import Derived.Test.YtbnfogbfphakmaaGreatDoorVmLz
import Derived.Test.YtbnfogbfphakmaaGreatDoorLq
import Derived.Test.YtbnfogbfphakmaaGreatDoorTyL
set_option maxHeartbeats 1000000
set_option linter.unusedSimpArgs false
set_option linter.unusedVariables false
namespace Go.Vl
open Go
noncomputable def zT_Next (a0:zT) (a1:Int):Option (Int×zT):=
 if(decide (((a0.L).length:Int)≤a0.at_))=true then
  some (0,a0)
 else
 (idx a0.L a0.at_).bind fun x1=>
 (ck (a1≠0)).bind fun _=>
 some (((bAnd .i64 x1 65535)).tmod a1,(⟨a0.L,IntKind.i64.wrap (a0.at_+1)⟩:zT))
noncomputable def zT_Between (a0:zT) (a1:Int) (a2:Int):Option (Int×zT):=
 (zT_Next a0 (IntKind.i64.wrap ((IntKind.i64.wrap (a2 - a1))+1))).bind fun y1=>
 some (IntKind.i64.wrap (a1+y1.1),y1.2)
noncomputable def mYPick (a0:zT) (a1:List Int):Option (Int×zT):=
 (zT_Next a0 ((a1).length:Int)).bind fun y1=>
 (idx a1 y1.1).bind fun x2=>
 some (x2,y1.2)
noncomputable def mYClock_l0 (a1:Int) (s3:Int×Int×(List Int)×Int×(List Int)):Option (Lp (Int×Int×(List Int)×Int×(List Int)) ((List Int)×Int×(List Int))):=
 if(decide (s3.2.1 < a1))=true then
  (zT_Next (⟨s3.2.2.1,s3.2.2.2.1⟩:zT) 3).bind fun y4=>
  (ck ((s3.2.2.2.2).length+([IntKind.i64.wrap (s3.1+y4.1)]).length≤268435456)).bind fun _=>
  some (.go (IntKind.i64.wrap (s3.1+y4.1),IntKind.i64.wrap (s3.2.1+1),y4.2.L,y4.2.at_,(s3.2.2.2.2++[IntKind.i64.wrap (s3.1+y4.1)])))
 else
  some (.out (s3.2.2.1,s3.2.2.2.1,s3.2.2.2.2))
noncomputable def mYClock (a0:zT) (a1:Int):Option ((List Int)×zT):=
 (zT_Next a0 4).bind fun y1=>
 (iter (mYClock_l0 a1) (y1.1,0,y1.2.L,y1.2.at_,[])).bind fun v2=>
 some (v2.2.2,(⟨v2.1,v2.2.1⟩:zT))
noncomputable def mYDirectory_j3 (y10:Int×zT) (x12:Int) (s8:Int×(List Int)×Int×(List api_Member)) (x9:Int) (v13:(List Int)×Int×Int):Option (Lp (Int×(List Int)×Int×(List api_Member)) ((List Int)×Int×(List api_Member))):=
 if(y10.1 != x12)=true then
  (ck ((s8.2.2.2).length+([(⟨x9,v13.2.2,y10.1,x12⟩:api_Member)]).length≤268435456)).bind fun _=>
  some (.go (IntKind.i64.wrap (s8.1+1),v13.1,v13.2.1,(s8.2.2.2++[(⟨x9,v13.2.2,y10.1,x12⟩:api_Member)])))
 else
  some (.go (IntKind.i64.wrap (s8.1+1),v13.1,v13.2.1,s8.2.2.2))
noncomputable def mYDirectory_l2 (y6:(List Int)×zT) (v3:(List Int)×Int×(List Int)) (v4:(List Int)) (s8:Int×(List Int)×Int×(List api_Member)):Option (Lp (Int×(List Int)×Int×(List api_Member)) ((List Int)×Int×(List api_Member))):=
 if(decide (s8.1 < ((y6.1).length:Int)))=true then
  (idx y6.1 s8.1).bind fun x9=>
  (zT_Next (⟨s8.2.1,s8.2.2.1⟩:zT) ((v3.2.2).length:Int)).bind fun y10=>
  (zT_Next y10.2 ((v4).length:Int)).bind fun y11=>
  (ck (0≤y11.1∧(Int.toNat y11.1) < (v4).length)).bind fun _=>
  (idx v4 y11.1).bind fun x12=>
  (zT_Next y11.2 4).bind fun y14=>
  if(y14.1==3)=true then
   mYDirectory_j3 y10 x12 s8 x9 (y14.2.L,y14.2.at_,2)
  else
   mYDirectory_j3 y10 x12 s8 x9 (y14.2.L,y14.2.at_,1)
 else
  some (.out (s8.2.1,s8.2.2.1,s8.2.2.2))
noncomputable def mYDirectory_l1 (v3:(List Int)×Int×(List Int)) (s15:Int×(List Int)):Option (Lp (Int×(List Int)) (List Int)):=
 if(decide (s15.1 < ((v3.2.2).length:Int)))=true then
  (ck (0≤s15.1∧(Int.toNat s15.1) < (v3.2.2).length)).bind fun _=>
  (idx v3.2.2 s15.1).bind fun x16=>
  if(x16==2)=true then
   (ck ((s15.2).length+([s15.1]).length≤268435456)).bind fun _=>
   some (.go (IntKind.i64.wrap (s15.1+1),(s15.2++[s15.1])))
  else
   some (.go (IntKind.i64.wrap (s15.1+1),s15.2))
 else
  some (.out s15.2)
noncomputable def mYDirectory_l0 (s17:Int×(List Int)×Int×(List Int)):Option (Lp (Int×(List Int)×Int×(List Int)) ((List Int)×Int×(List Int))):=
 if(decide (0 < s17.1))=true then
  (mYPick (⟨s17.2.1,s17.2.2.1⟩:zT) [2,2,1,3]).bind fun y18=>
  (ck ((s17.2.2.2).length+([y18.1]).length≤268435456)).bind fun _=>
  some (.go (IntKind.i64.wrap (s17.1 - 1),y18.2.L,y18.2.at_,(s17.2.2.2++[y18.1])))
 else
  some (.out (s17.2.1,s17.2.2.1,s17.2.2.2))
noncomputable def mYDirectory (a0:zT):Option (api_Directory×zT):=
 (zT_Between a0 2 6).bind fun y1=>
 (some ([1]:List Int)).bind fun l2=>
 (iter (mYDirectory_l0) (y1.1,y1.2.L,y1.2.at_,l2)).bind fun v3=>
 (iter (mYDirectory_l1 v3) (0,[])).bind fun v4=>
 if(((v4).length:Int)==0)=true then
  some ((⟨v3.2.2,[]⟩:api_Directory),(⟨v3.1,v3.2.1⟩:zT))
 else
 (zT_Next (⟨v3.1,v3.2.1⟩:zT) 12).bind fun y5=>
 (mYClock y5.2 y5.1).bind fun y6=>
 (iter (mYDirectory_l2 y6 v3 v4) (0,y6.2.L,y6.2.at_,[])).bind fun v7=>
 some ((⟨v3.2.2,v7.2.2⟩:api_Directory),(⟨v7.1,v7.2.1⟩:zT))
noncomputable def mYEstate_j1 (s5:Int×(List Int)×Int×(List api_Access)) (x6:Int) (y7:Int×zT) (y8:Int×zT) (v9:(List Int)×Int×Int×Int×Int×Int):Option (Lp (Int×(List Int)×Int×(List api_Access)) ((List Int)×Int×(List api_Access))):=
 (ck ((s5.2.2.2).length+([(⟨x6,y7.1,y8.1,v9.2.2.1,v9.2.2.2.1,v9.2.2.2.2.1,v9.2.2.2.2.2⟩:api_Access)]).length≤268435456)).bind fun _=>
 some (.go (IntKind.i64.wrap (s5.1+1),v9.1,v9.2.1,(s5.2.2.2++[(⟨x6,y7.1,y8.1,v9.2.2.1,v9.2.2.2.1,v9.2.2.2.2.1,v9.2.2.2.2.2⟩:api_Access)])))
noncomputable def mYEstate_j3 (y8:Int×zT) (s5:Int×(List Int)×Int×(List api_Access)) (x6:Int) (y7:Int×zT) (y1:Int×zT) (v13:Bool):Option (Lp (Int×(List Int)×Int×(List api_Access)) ((List Int)×Int×(List api_Access))):=
 if v13=true then
  (zT_Next y8.2 3).bind fun y14=>
  mYEstate_j1 s5 x6 y7 y8 (y14.2.L,y14.2.at_,0,0,y14.1,0)
 else
 if(y7.1==7)=true then
  (zT_Next y8.2 y1.1).bind fun y15=>
  if(y15.1==y8.1)=true then
   some (.go (IntKind.i64.wrap (s5.1+1),y15.2.L,y15.2.at_,s5.2.2.2))
  else
   mYEstate_j1 s5 x6 y7 y8 (y15.2.L,y15.2.at_,0,0,0,y15.1)
 else
  mYEstate_j1 s5 x6 y7 y8 (y8.2.L,y8.2.at_,0,0,0,0)
noncomputable def mYEstate_j2 (y8:Int×zT) (a1:api_Directory) (s5:Int×(List Int)×Int×(List api_Access)) (x6:Int) (y7:Int×zT) (y1:Int×zT) (v10:Bool):Option (Lp (Int×(List Int)×Int×(List api_Access)) ((List Int)×Int×(List api_Access))):=
 if v10=true then
  (zT_Next y8.2 (IntKind.i64.wrap (((a1.Kinds).length:Int)+1))).bind fun y11=>
  mYEstate_j1 s5 x6 y7 y8 (y11.2.L,y11.2.at_,y11.1,0,0,0)
 else
 if(y7.1==3)=true then
  (zT_Next y8.2 5).bind fun y12=>
  mYEstate_j1 s5 x6 y7 y8 (y12.2.L,y12.2.at_,0,IntKind.i64.wrap ((IntKind.i64.wrap (x6+1))+y12.1),0,0)
 else
 if(y7.1==5)=true then
  mYEstate_j3 y8 s5 x6 y7 y1 (y7.1==5)
 else
  mYEstate_j3 y8 s5 x6 y7 y1 (y7.1==6)
noncomputable def mYEstate_l0 (y3:(List Int)×zT) (y1:Int×zT) (a1:api_Directory) (s5:Int×(List Int)×Int×(List api_Access)):Option (Lp (Int×(List Int)×Int×(List api_Access)) ((List Int)×Int×(List api_Access))):=
 if(decide (s5.1 < ((y3.1).length:Int)))=true then
  (idx y3.1 s5.1).bind fun x6=>
  (mYPick (⟨s5.2.1,s5.2.2.1⟩:zT) [1,1,2,3,4,5,5,6,7,7]).bind fun y7=>
  (zT_Next y7.2 y1.1).bind fun y8=>
  if(y7.1==1)=true then
   mYEstate_j2 y8 a1 s5 x6 y7 y1 (y7.1==1)
  else
   mYEstate_j2 y8 a1 s5 x6 y7 y1 (y7.1==2)
 else
  some (.out (s5.2.1,s5.2.2.1,s5.2.2.2))
noncomputable def mYEstate (a0:zT) (a1:api_Directory):Option (api_Estate×zT):=
 (zT_Between a0 1 4).bind fun y1=>
 (zT_Next y1.2 16).bind fun y2=>
 (mYClock y2.2 y2.1).bind fun y3=>
 (iter (mYEstate_l0 y3 y1 a1) (0,y3.2.L,y3.2.at_,[])).bind fun v4=>
 some ((⟨y1.1,v4.2.2⟩:api_Estate),(⟨v4.1,v4.2.1⟩:zT))
noncomputable def ledger_among (a0:Int) (a1:Int) (a2:Int):Option (Bool):=
 (some ((decide (a1≤a0))&&(decide (a0≤a2)))).bind fun v1=>
 some v1
noncomputable def ledger_Check_l0 (a0:List api_Record) (s2:Int×Int):Option (Lp (Int×Int) (Unit ⊕ Int)):=
 if(decide (s2.2 < ((a0).length:Int)))=true then
  (idx a0 s2.2).bind fun x3=>
  Option.bind (
   (ledger_among x3.Known s2.1 1099511627776).bind fun y5=>
   if(!y5)=true then
    some true
   else
   (ledger_among x3.Since 0 1099511627776).bind fun y6=>
   if(!y6)=true then
    some true
   else
   (ledger_among x3.Subject 0 15).bind fun y7=>
   if(!y7)=true then
    some true
   else
   (ledger_among x3.Value (-1000000) 1000000).bind fun y8=>
   some (!y8)) fun v4=>
  if v4=true then
   some (.out (.inr 44))
  else
   some (.go (x3.Known,IntKind.i64.wrap (s2.2+1)))
 else
  some (.out (.inl ()))
noncomputable def ledger_Check (a0:List api_Record):Option (Int):=
 if(decide (100 < ((a0).length:Int)))=true then
  some 44
 else
 (iter (ledger_Check_l0 a0) (0,0)).bind fun q10=>
 match q10 with
 | .inl v1=>
  some 0
 | .inr r9=>
  some r9
noncomputable def ledger_Append (a0:List api_Record) (a1:api_Record):Option ((List api_Record)×Int):=
 (ledger_Check a0).bind fun y1=>
 if(y1 != 0)=true then
  some ([],44)
 else
 if(decide (100≤((a0).length:Int)))=true then
  some ([],3)
 else
 (ck (0≤0∧0≤((a0).length:Int)∧((a0).length:Int)≤((a0).length:Int))).bind fun _=>
 (ck ((((a0).take (Int.toNat ((a0).length:Int)))).length+([a1]).length≤268435456∧0 < ([a1]).length)).bind fun _=>
 (ledger_Check (((a0).take (Int.toNat ((a0).length:Int)))++[a1])).bind fun y2=>
 if(y2 != 0)=true then
  some ([],44)
 else
  some ((((a0).take (Int.toNat ((a0).length:Int)))++[a1]),0)
noncomputable def ledger_believe_l0 (a0:List api_Record) (a1:Int) (a2:Int) (a3:Int) (s2:Int×Int):Option (Lp (Int×Int) Int):=
 if(decide (s2.2 < ((a0).length:Int)))=true then
  (idx a0 s2.2).bind fun x3=>
  Option.bind (
   if(decide (x3.Known≤a1))=true then
    if(x3.Subject==a2)=true then
     if(decide (x3.Since≤a3))=true then
      if(s2.1==(-1))=true then
       some true
      else
      (idx a0 s2.1).bind fun x5=>
      some (decide (x5.Since≤x3.Since))
     else
      some false
    else
     some false
   else
    some false) fun v4=>
  if v4=true then
   some (.go (s2.2,IntKind.i64.wrap (s2.2+1)))
  else
   some (.go (s2.1,IntKind.i64.wrap (s2.2+1)))
 else
  some (.out s2.1)
noncomputable def ledger_believe (a0:List api_Record) (a1:Int) (a2:Int) (a3:Int):Option (Int):=
 (iter (ledger_believe_l0 a0 a1 a2 a3) ((-1),0)).bind fun v1=>
 some v1
noncomputable def ledger_Believe (a0:List api_Record) (a1:Int) (a2:Int) (a3:Int):Option (api_Belief×Bool):=
 (ledger_Check a0).bind fun y1=>
 if(y1 != 0)=true then
  some ((⟨0,(-1)⟩:api_Belief),false)
 else
 (ledger_believe a0 a1 a2 a3).bind fun y2=>
 if(y2==(-1))=true then
  some ((⟨0,(-1)⟩:api_Belief),false)
 else
 (idx a0 y2).bind fun x3=>
 some ((⟨x3.Value,y2⟩:api_Belief),true)
noncomputable def ledger_Changes_l0 (a0:List api_Record) (a1:Int) (a2:Int) (s3:Int×Int×(List api_Belief)):Option (Lp (Int×Int×(List api_Belief)) (List api_Belief)):=
 if(decide (s3.2.1 < ((a0).length:Int)))=true then
  (idx a0 s3.2.1).bind fun x4=>
  (ledger_believe a0 x4.Known a1 a2).bind fun y5=>
  if(y5 != s3.1)=true then
   (idx a0 y5).bind fun x6=>
   (ck ((s3.2.2).length+([(⟨x6.Value,y5⟩:api_Belief)]).length≤268435456)).bind fun _=>
   some (.go (y5,IntKind.i64.wrap (s3.2.1+1),(s3.2.2++[(⟨x6.Value,y5⟩:api_Belief)])))
  else
   some (.go (s3.1,IntKind.i64.wrap (s3.2.1+1),s3.2.2))
 else
  some (.out s3.2.2)
noncomputable def ledger_Changes (a0:List api_Record) (a1:Int) (a2:Int):Option ((List api_Belief)×Int):=
 (ledger_Check a0).bind fun y1=>
 if(y1 != 0)=true then
  some ([],y1)
 else
 (iter (ledger_Changes_l0 a0 a1 a2) ((-1),0,[])).bind fun v2=>
 some (v2,0)
noncomputable def ledger_Learned_l0 (y1:(List api_Belief)×Int) (a3:Int) (a0:List api_Record) (s3:Int):Option (Lp Int (Unit ⊕ (Int×Bool))):=
 if(decide (s3 < ((y1.1).length:Int)))=true then
  (idx y1.1 s3).bind fun x4=>
  if(x4.Value==a3)=true then
   (idx a0 x4.Record).bind fun x5=>
   some (.out (.inr (x5.Known,true)))
  else
   some (.go (IntKind.i64.wrap (s3+1)))
 else
  some (.out (.inl ()))
noncomputable def ledger_Learned (a0:List api_Record) (a1:Int) (a2:Int) (a3:Int):Option (Int×Bool):=
 (ledger_Changes a0 a1 a2).bind fun y1=>
 (iter (ledger_Learned_l0 y1 a3 a0) 0).bind fun q7=>
 match q7 with
 | .inl v2=>
  some (0,false)
 | .inr r6=>
  some r6
noncomputable def top_TopKnown_l1 (v6:(List api_Record)) (y2:api_Directory×zT) (y3:api_Estate×zT) (y4:Int×zT) (s9:Int):Option (Lp Int (Unit ⊕ Bool)):=
 if(decide (s9 < ((v6).length:Int)))=true then
  (idx v6 s9).bind fun x10=>
  (ledger_Believe v6 x10.Known x10.Subject x10.Since).bind fun y11=>
  (ledger_Believe v6 (IntKind.i64.wrap (x10.Known - 1)) x10.Subject x10.Since).bind fun y12=>
  (ledger_Believe v6 1000 x10.Subject (IntKind.i64.wrap (x10.Since - 1))).bind fun y13=>
  (ledger_Learned v6 x10.Subject x10.Since 1).bind fun y14=>
  Option.bind (
   if(!y11.2)=true then
    some true
   else
   if(y11.1.Value != 1)=true then
    some true
   else
   if y12.2=true then
    some true
   else
   if y13.2=true then
    some true
   else
   if(!y14.2)=true then
    some true
   else
   if(y14.1 != x10.Known)=true then
    some true
   else
   (exposure_Could y2.1 y3.1 y4.1 x10.Subject x10.Since).bind fun y16=>
   some (!y16)) fun v15=>
  if v15=true then
   some (.out (.inr false))
  else
   some (.go (IntKind.i64.wrap (s9+1)))
 else
  some (.out (.inl ()))
noncomputable def top_TopKnown_l0 (y5:(List api_Exposure)×Int) (s19:(List api_Record)×Int×Int×(List Int)×Int):Option (Lp ((List api_Record)×Int×Int×(List Int)×Int) ((List api_Record) ⊕ Bool)):=
 if(decide (s19.2.2.1 < ((y5.1).length:Int)))=true then
  (idx y5.1 s19.2.2.1).bind fun x20=>
  if(decide (x20.Principal < 0))=true then
   some (.go (s19.1,s19.2.1,IntKind.i64.wrap (s19.2.2.1+1),s19.2.2.2.1,s19.2.2.2.2))
  else
  (zT_Next (⟨s19.2.2.2.1,s19.2.2.2.2⟩:zT) 4).bind fun y21=>
  (ledger_Append s19.1 (⟨IntKind.i64.wrap (s19.2.1+y21.1),x20.Time,x20.Principal,1⟩:api_Record)).bind fun y22=>
  if(y22.2 != 0)=true then
   some (.out (.inr false))
  else
   some (.go (y22.1,IntKind.i64.wrap (s19.2.1+y21.1),IntKind.i64.wrap (s19.2.2.1+1),y21.2.L,y21.2.at_))
 else
  some (.out (.inl s19.1))
noncomputable def top_TopKnown (a0:List Int):Option (Bool):=
 if(decide (500 < ((a0).length:Int)))=true then
  (top_awake44).bind fun y1=>
  some y1
 else
 (mYDirectory (⟨a0,0⟩:zT)).bind fun y2=>
 (mYEstate y2.2 y2.1).bind fun y3=>
 (zT_Next y3.2 3).bind fun y4=>
 (exposure_All y2.1 y3.1 y4.1).bind fun y5=>
 if(y5.2 != 0)=true then
  some false
 else
 (iter (top_TopKnown_l0 y5) ([],50,0,y4.2.L,y4.2.at_)).bind fun q24=>
 match q24 with
 | .inl v6=>
  (iter (top_TopKnown_l1 v6 y2 y3 y4) 0).bind fun q18=>
  match q18 with
  | .inl v7=>
   (top_awake44).bind fun y8=>
   some y8
  | .inr r17=>
   some r17
 | .inr r23=>
  some r23
end Go.Vl
namespace Go.Vl
open Go Go.Proofs
theorem zT_Next_ok {a0:zT} {a1:Int} {r:Int×zT} (h0:zT_Next a0 a1=some r):FnOK Tryz.prog 8 [zTa a0] [.ptr (InO 0) 0,.d (.int .i64 a1)] (.d (.int .i64 r.1)) [zTa r.2]:=by
 unfold zT_Next at h0
 refine fn_ok (nt:=37) (rs:=[.tmp 4]) Tryz.func8 rfl Tryz.ntmps8 rfl (by simp) (by decide) rfl fun K=>?_
 refine kr [0,1] (by simp;rfl) ?_
 refine trq ?_
 refine kd [[],[0],[1],[2],[],[4],[5],[6],[7],[3,8]] [] [] none [] 10 fol (by decide +kernel) (by simp) ?_
 refine dr_go 0 2 rfl (by simp (maxSteps:=1000000);rfl) ?_
 refine dr_go 2 2 rfl (by simp (maxSteps:=1000000);rfl) ?_
 refine dr_go 4 2 rfl (by simp (maxSteps:=1000000);rfl) ?_
 refine dr_go 6 2 rfl (by simp (maxSteps:=1000000);rfl) ?_
 refine dr_go 8 2 rfl (by simp (maxSteps:=1000000);rfl) ?_
 refine dr_end rfl (tpN ?_)
 refine trc (b:=(decide (((a0.L).length:Int)≤a0.at_))) (by simp) (fun c1=>?_) (fun c1=>?_)
 ·rw[if_pos c1] at h0
  refine kr [4] (by simp;rfl) ?_
  cases h0
  exact trr ⟨[],by simp,rfl,by simp⟩
 ·rw[if_neg (by rw[c1];decide)] at h0
  refine trk ?_
  refine kd [[],[0],[1],[2],[],[4],[5],[6],[3,7],[8],[9],[10]] [] [] none [] 12 fol (by decide +kernel) (by simp) ?_
  replace h0:=bnd h0;obtain⟨x1,p3,h0⟩:=h0
  replace p3:=idx_some p3
  have p3':=p3;try simp at p3'
  refine dr_go 0 2 rfl (by simp (maxSteps:=1000000) [p3,p3'];rfl) ?_
  refine dr_go 2 2 rfl (by simp (maxSteps:=1000000) [p3,p3'];rfl) ?_
  refine dr_go 4 2 rfl (by simp (maxSteps:=1000000) [p3,p3'];rfl) ?_
  refine dr_go 6 2 rfl (by simp (maxSteps:=1000000) [p3,p3'];rfl) ?_
  refine dr_go 8 2 rfl (by simp (maxSteps:=1000000) [p3,p3'];rfl) ?_
  refine dr_go 10 2 rfl (by simp (maxSteps:=1000000) [p3,p3'];rfl) ?_
  refine dr_end rfl (tpN ?_)
  refine kr [1,5] (by simp;rfl) ?_
  replace h0:=bnd h0;obtain⟨_,p4,h0⟩:=h0
  replace p4:=ck_some p4
  have p4':=p4;try simp at p4'
  refine kr [4] (by simp[p4,p4'];rfl) ?_
  cases h0
  exact trr ⟨[],by simp,rfl,by simp⟩
theorem zT_Between_ok {a0:zT} {a1:Int} {a2:Int} {r:Int×zT} (h0:zT_Between a0 a1 a2=some r):FnOK Tryz.prog 24 [zTa a0] [.ptr (InO 0) 0,.d (.int .i64 a1),.d (.int .i64 a2)] (.d (.int .i64 r.1)) [zTa r.2]:=by
 unfold zT_Between at h0
 refine fn_ok (nt:=15) (rs:=[.tmp 6]) Tryz.func24 rfl Tryz.ntmps24 rfl (by simp) (by decide) rfl fun K=>?_
 refine kr [0,1,2] (by simp;rfl) ?_
 refine kc ?_
 refine ko [7,8,12] 6 (by simp;rfl) ?_
 replace h0:=bnd h0;obtain⟨y1,hy1,h0⟩:=h0
 refine kcall [7,13] [1000000] (zT_Next_ok hy1) rfl rfl rfl Tryz.call8 (by simp) (by simp;rfl) ?_
 refine ko [6] 2 (by simp;rfl) ?_
 refine tpN ?_
 cases h0
 exact trr ⟨[],by simp,rfl,by simp⟩
theorem mYPick_ok {a0:zT} {a1:List Int} {r:Int×zT} (h0:mYPick a0 a1=some r):FnOK Tryz.prog 25 [zTa a0] [.ptr (InO 0) 0,.d (.slice (rowsF (iRow .i64) a1))] (.d (.int .i64 r.1)) [zTa r.2]:=by
 unfold mYPick at h0
 refine fn_ok (nt:=12) (rs:=[.tmp 4]) Tryz.func25 rfl Tryz.ntmps25 rfl (by simp) (by decide) rfl fun K=>?_
 refine kr [0,1] (by simp;rfl) ?_
 refine kc ?_
 refine ko [5,6,8] 4 (by simp;rfl) ?_
 replace h0:=bnd h0;obtain⟨y1,hy1,h0⟩:=h0
 refine kcall [5,9] [1000000] (zT_Next_ok hy1) rfl rfl rfl Tryz.call8 (by simp) (by simp;rfl) ?_
 replace h0:=bnd h0;obtain⟨x2,p1,h0⟩:=h0
 replace p1:=idx_some p1
 have p1':=p1;try simp at p1'
 refine ko [4] 3 (by simp[p1,p1'];rfl) ?_
 refine tpN ?_
 cases h0
 exact trr ⟨[],by simp,rfl,by simp⟩
theorem mYClock_ok {a0:zT} {a1:Int} {r:(List Int)×zT} (h0:mYClock a0 a1=some r):FnOK Tryz.prog 26 [zTa a0] [.ptr (InO 0) 0,.d (.int .i64 a1)] (.d (.slice (rowsF (iRow .i64) r.1))) [zTa r.2]:=by
 unfold mYClock at h0
 refine fn_ok (nt:=24) (rs:=[.tmp 4]) Tryz.func26 rfl Tryz.ntmps26 rfl (by simp) (by decide) rfl fun K=>?_
 refine kr [0,1] (by simp;rfl) ?_
 refine kr [0,1,5] (by simp;rfl) ?_
 refine kc ?_
 refine ko [0,1,5,8] 1 (by simp;rfl) ?_
 replace h0:=bnd h0;obtain⟨y1,hy1,h0⟩:=h0
 refine kcall [0,1,5,9] [1000000] (zT_Next_ok hy1) rfl rfl rfl Tryz.call8 (by simp) (by simp;rfl) ?_
 refine ko [0,1,5,6] 1 (by simp;rfl) ?_
 refine tpN ?_
 refine trq ?_
 refine kr [0,1,5,6,7] (by simp;rfl) ?_
 refine tr_wk (wk_own 5 22 3 1 (by simp) (by simp)) ?_
 replace h0:=bnd h0;obtain⟨e1,hI1,h0⟩:=h0
 refine tjv (fun v2:(List Int)×Int×(List Int)=>({ nt:=24,env:=[(5,.vec 22)],box:=[(1000000,[.d (.slice (rowsF (iRow .i64) v2.1)),.d (.int .i64 v2.2.1)])],vec:=[(22,⟨3,1,rowsF (iRow .i64) v2.2.2⟩)]}:St)) (fun v2=>v2=e1) (fun v2 hI1e _ W1=>?_) ?_
 ·subst hI1e
  refine tr_wk W1 ?_
  refine kr [4] (by simp;rfl) ?_
  cases h0
  exact trr ⟨[22],by simp,rfl,by simp⟩
 ·refine trb (tr_iter (fun s3:Int×Int×(List Int)×Int×(List Int)=>({ nt:=24,env:=[(0,.ptr 1000000 0),(1,.d (.int .i64 a1)),(5,.vec 22),(6,.d (.int .i64 s3.1)),(7,.d (.int .i64 s3.2.1))],box:=[(1000000,[.d (.slice (rowsF (iRow .i64) s3.2.2.1)),.d (.int .i64 s3.2.2.2.1)])],vec:=[(22,⟨3,1,rowsF (iRow .i64) s3.2.2.2.2⟩)]}:St)) hI1 (wk (by simp[wkI])) fun G1 s3 o1 h1 hg1 he1=>?_)
  unfold mYClock_l0 at h1
  refine trq ?_
  refine kr [0,1,5,6,7,12] (by simp;rfl) ?_
  refine trc (b:=(decide (s3.2.1 < a1))) (by simp) (fun c4=>?_) (fun c4=>?_)
  ·rw[if_pos c4] at h1
   refine trk ?_
   refine trq ?_
   refine trb ?_
   refine kc ?_
   refine ko [0,1,5,7,15,16] 2 (by simp;rfl) ?_
   replace h1:=bnd h1;obtain⟨y4,hy4,h1⟩:=h1
   refine kcall [0,1,5,7,15,17] [1000000] (zT_Next_ok hy4) rfl rfl rfl Tryz.call8 (by simp) (by simp;rfl) ?_
   refine ko [0,1,5,6,7] 2 (by simp;rfl) ?_
   refine tpN ?_
   replace h1:=bnd h1;obtain⟨_,p6,h1⟩:=h1
   replace p6:=ck_some p6
   have p6':=p6;try simp at p6'
   refine lr (by simp[p6,p6'];rfl) ?_
   refine lr (by simp;rfl) ?_
   exact⟨_,hg1 _ (Option.some.inj h1),wk (by simp[wkI])⟩
  ·rw[if_neg (by rw[c4];decide)] at h1
   refine tr_exit ?_
   exact⟨_,he1 _ (Option.some.inj h1),wk (by simp[wkI])⟩
theorem mYDirectory_ok {a0:zT} {r:api_Directory×zT} (h0:mYDirectory a0=some r):FnOK Tryz.prog 6 [zTa a0] [.ptr (InO 0) 0] (.agg (api_Directory_av r.1)) [zTa r.2]:=by
 unfold mYDirectory at h0
 refine fn_ok (nt:=86) (rs:=[.cell 2 29]) Tryz.func6 rfl Tryz.ntmps6 rfl (by simp) (by decide) rfl fun K=>?_
 refine kr [0,2] (by simp;rfl) ?_
 refine kr [0,2,3] (by simp;rfl) ?_
 refine trq ?_
 refine kc ?_
 refine ko [0,2,3,13] 1 (by simp;rfl) ?_
 replace h0:=bnd h0;obtain⟨y1,hy1,h0⟩:=h0
 refine kcall [0,2,3,14] [1000000] (zT_Between_ok hy1) rfl rfl rfl Tryz.call24 (by simp) (by simp;rfl) ?_
 refine ko [0,2,3,4] 1 (by simp;rfl) ?_
 refine tpN ?_
 replace h0:=bnd h0;obtain⟨l2,hl2,h0⟩:=h0
 replace hl2:=Option.some.inj hl2
 replace h0:=bnd h0;obtain⟨e1,hI1,h0⟩:=h0
 refine tjv (fun v3:(List Int)×Int×(List Int)=>({ nt:=86,env:=[(0,.ptr 1000000 0),(2,.ptr 2 0),(3,.ptr 3 0)],box:=[(2,[.nilS,.nilS]),(3,[.vec 11,.nilS]),(1000000,[.d (.slice (rowsF (iRow .i64) v3.1)),.d (.int .i64 v3.2.1)])],vec:=[(11,⟨3,1,rowsF (iRow .i64) v3.2.2⟩)]}:St)) (fun v3=>v3=e1) (fun v3 hI1e _ W1=>?_) ?_
 ·subst hI1e
  refine tr_wk W1 ?_
  refine kr [0,2,3,5] (by simp;rfl) ?_
  refine trq ?_
  refine kr [0,2,3,5,28,29,30] (by simp;rfl) ?_
  refine tr_wk (wk_own 5 40 3 1 (by simp) (by simp)) ?_
  replace h0:=bnd h0;obtain⟨e2,hI2,h0⟩:=h0
  refine tjv (fun v4:(List Int)=>({ nt:=86,env:=[(0,.ptr 1000000 0),(2,.ptr 2 0),(3,.ptr 3 0),(5,.vec 40)],box:=[(2,[.nilS,.nilS]),(3,[.vec 11,.nilS]),(1000000,[.d (.slice (rowsF (iRow .i64) v3.1)),.d (.int .i64 v3.2.1)])],vec:=[(11,⟨3,1,rowsF (iRow .i64) v3.2.2⟩),(40,⟨3,1,rowsF (iRow .i64) v4⟩)]}:St)) (fun v4=>v4=e2) (fun v4 hI2e _ W2=>?_) ?_
  ·subst hI2e
   refine tr_wk W2 ?_
   refine trq ?_
   refine kr [0,2,3,5,44] (by simp;rfl) ?_
   refine trc (b:=(((v4).length:Int)==0)) (by simp) (fun c9=>?_) (fun c9=>?_)
   ·rw[if_pos c9] at h0
    refine kr [2] (by simp;rfl) ?_
    cases h0
    exact trr ⟨[11],by simp,rfl,by simp⟩
   ·rw[if_neg (by rw[c9];decide)] at h0
    refine trk ?_
    refine trq ?_
    refine kc ?_
    refine ko [0,2,3,5,46,47] 2 (by simp;rfl) ?_
    replace h0:=bnd h0;obtain⟨y5,hy5,h0⟩:=h0
    refine kcall [0,2,3,5,46,48] [1000000] (zT_Next_ok hy5) rfl rfl rfl Tryz.call8 (by simp) (by simp;rfl) ?_
    replace h0:=bnd h0;obtain⟨y6,hy6,h0⟩:=h0
    refine kcall [0,2,3,5,49] [1000000] (mYClock_ok hy6) rfl rfl rfl Tryz.call26 (by simp) (by simp;rfl) ?_
    refine ko [0,2,3,5,49,50,51] 2 (by simp;rfl) ?_
    refine tpN ?_
    refine tr_wk (wk_ownbox 3 1 82 81 4 (by simp;rfl) (by simp) (by simp)) ?_
    replace h0:=bnd h0;obtain⟨e3,hI3,h0⟩:=h0
    refine tjv (fun v7:(List Int)×Int×(List api_Member)=>({ nt:=86,env:=[(2,.ptr 2 0),(3,.ptr 3 0)],box:=[(2,[.nilS,.nilS]),(3,[.vec 11,.vec 82]),(1000000,[.d (.slice (rowsF (iRow .i64) v7.1)),.d (.int .i64 v7.2.1)])],vec:=[(11,⟨3,1,rowsF (iRow .i64) v3.2.2⟩),(82,⟨81,4,rowsF api_Member_row v7.2.2⟩)]}:St)) (fun v7=>v7=e3) (fun v7 hI3e _ W3=>?_) ?_
    ·subst hI3e
     refine tr_wk W3 ?_
     refine kr [2] (by simp;rfl) ?_
     cases h0
     exact trr ⟨[11,82],by simp,rfl,by simp⟩
    ·refine trb (tr_iter (fun s8:Int×(List Int)×Int×(List api_Member)=>({ nt:=86,env:=[(0,.ptr 1000000 0),(2,.ptr 2 0),(3,.ptr 3 0),(5,.vec 40),(49,.d (.slice (rowsF (iRow .i64) y6.1))),(50,.d (.int .i64 ((y6.1).length:Int))),(51,.d (.int .i64 s8.1))],box:=[(2,[.nilS,.nilS]),(3,[.vec 11,.vec 82]),(1000000,[.d (.slice (rowsF (iRow .i64) s8.2.1)),.d (.int .i64 s8.2.2.1)])],vec:=[(11,⟨3,1,rowsF (iRow .i64) v3.2.2⟩),(40,⟨3,1,rowsF (iRow .i64) v4⟩),(82,⟨81,4,rowsF api_Member_row s8.2.2.2⟩)]}:St)) hI3 (wk (by simp[wkI])) fun G3 s8 o3 h3 hg3 he3=>?_)
     unfold mYDirectory_l2 at h3
     refine kr [0,2,3,5,49,50,51,52] (by simp;rfl) ?_
     refine trq ?_
     refine trc (b:=(decide (s8.1 < ((y6.1).length:Int)))) (by simp) (fun c19=>?_) (fun c19=>?_)
     ·rw[if_pos c19] at h3
      refine trk ?_
      refine trq ?_
      refine trb ?_
      replace h3:=bnd h3;obtain⟨x9,p30,h3⟩:=h3
      replace p30:=idx_some p30
      have p30':=p30;try simp at p30'
      refine kr [0,2,3,5,9,49,50,51] (by simp[p30,p30'];rfl) ?_
      refine kc ?_
      refine ko [0,2,3,5,49,50,51,55,56,59] 5 (by simp;rfl) ?_
      replace h3:=bnd h3;obtain⟨y10,hy10,h3⟩:=h3
      refine kcall [0,2,3,5,49,50,51,55,60] [1000000] (zT_Next_ok hy10) rfl rfl rfl Tryz.call8 (by simp) (by simp;rfl) ?_
      refine ko [0,2,3,5,49,50,51,55,60,61,62,64] 4 (by simp;rfl) ?_
      replace h3:=bnd h3;obtain⟨y11,hy11,h3⟩:=h3
      refine kcall [0,2,3,5,49,50,51,55,60,61,65] [1000000] (zT_Next_ok hy11) rfl rfl rfl Tryz.call8 (by simp) (by simp;rfl) ?_
      replace h3:=bnd h3;obtain⟨_,p31,h3⟩:=h3
      replace p31:=ck_some p31
      have p31':=p31;try simp at p31'
      have p31o:y11.1 < (((v4)).length:Int):=by omega
      replace h3:=bnd h3;obtain⟨x12,p32,h3⟩:=h3
      replace p32:=idx_some p32
      have p32':=p32;try simp at p32'
      refine ko [0,2,3,5,10,49,50,51] 5 (by simp[-getElem?_pos,List.getElem?_cons_zero,List.getElem?_cons_succ,p31,p31o,p32,p31',p32'];rfl) ?_
      refine tpN ?_
      refine sjv (fun v13:(List Int)×Int×Int=>({ nt:=86,env:=[(0,.ptr 1000000 0),(2,.ptr 2 0),(3,.ptr 3 0),(5,.vec 40),(10,.ptr 10 0),(49,.d (.slice (rowsF (iRow .i64) y6.1))),(50,.d (.int .i64 ((y6.1).length:Int))),(51,.d (.int .i64 s8.1))],box:=[(2,[.nilS,.nilS]),(3,[.vec 11,.vec 82]),(10,[.d (.int .i64 x9),.d (.int .i64 v13.2.2),.d (.int .i64 y10.1),.d (.int .i64 x12)]),(1000000,[.d (.slice (rowsF (iRow .i64) v13.1)),.d (.int .i64 v13.2.1)])],vec:=[(11,⟨3,1,rowsF (iRow .i64) v3.2.2⟩),(40,⟨3,1,rowsF (iRow .i64) v4⟩),(82,⟨81,4,rowsF api_Member_row s8.2.2.2⟩)]}:St)) (fun v13=>mYDirectory_j3 y10 x12 s8 x9 v13=some o3) (fun v13 h3=>?_) ?_
      ·unfold mYDirectory_j3 at h3
       refine kr [0,2,3,5,10,49,50,51,77] (by simp;rfl) ?_
       refine trc (b:=(y10.1 != x12)) (by simp) (fun c21=>?_) (fun c21=>?_)
       ·rw[if_pos c21] at h3
        replace h3:=bnd h3;obtain⟨_,p34,h3⟩:=h3
        replace p34:=ck_some p34
        have p34':=p34;try simp at p34'
        refine lr (by simp[p34,p34'];rfl) ?_
        refine lr (by simp;rfl) ?_
        exact⟨_,hg3 _ (Option.some.inj h3),wk (by simp[wkI])⟩
       ·rw[if_neg (by rw[c21];decide)] at h3
        refine trk ?_
        refine lr (by simp;rfl) ?_
        exact⟨_,hg3 _ (Option.some.inj h3),wk (by simp[wkI])⟩
      ·refine kc ?_
       refine ko [0,2,3,5,10,49,50,51,69] 1 (by simp;rfl) ?_
       replace h3:=bnd h3;obtain⟨y14,hy14,h3⟩:=h3
       refine kcall [0,2,3,5,10,49,50,51,70] [1000000] (zT_Next_ok hy14) rfl rfl rfl Tryz.call8 (by simp) (by simp;rfl) ?_
       refine ko [0,2,3,5,10,49,50,51,71] 1 (by simp;rfl) ?_
       refine tpN ?_
       refine trc (b:=(y14.1==3)) (by simp) (fun c22=>?_) (fun c22=>?_)
       ·rw[if_pos c22] at h3
        refine lr (by simp;rfl) ?_
        exact⟨_,h3,wk (by simp[wkI])⟩
       ·rw[if_neg (by rw[c22];decide)] at h3
        refine trk ?_
        exact⟨_,h3,wk (by simp[wkI])⟩
     ·rw[if_neg (by rw[c19];decide)] at h3
      refine tr_exit ?_
      exact⟨_,he3 _ (Option.some.inj h3),wk (by simp[wkI])⟩
  ·refine trb (tr_iter (fun s15:Int×(List Int)=>({ nt:=86,env:=[(0,.ptr 1000000 0),(2,.ptr 2 0),(3,.ptr 3 0),(5,.vec 40),(28,.vec 11),(29,.d (.int .i64 ((v3.2.2).length:Int))),(30,.d (.int .i64 s15.1))],box:=[(2,[.nilS,.nilS]),(3,[.vec 11,.nilS]),(1000000,[.d (.slice (rowsF (iRow .i64) v3.1)),.d (.int .i64 v3.2.1)])],vec:=[(11,⟨3,1,rowsF (iRow .i64) v3.2.2⟩),(40,⟨3,1,rowsF (iRow .i64) s15.2⟩)]}:St)) hI2 (wk (by simp[wkI])) fun G3 s15 o3 h3 hg3 he3=>?_)
   unfold mYDirectory_l1 at h3
   refine kr [0,2,3,5,28,29,30,31] (by simp;rfl) ?_
   refine trq ?_
   refine trc (b:=(decide (s15.1 < ((v3.2.2).length:Int)))) (by simp) (fun c23=>?_) (fun c23=>?_)
   ·rw[if_pos c23] at h3
    refine trk ?_
    refine trq ?_
    refine trb ?_
    replace h3:=bnd h3;obtain⟨_,p35,h3⟩:=h3
    replace p35:=ck_some p35
    have p35':=p35;try simp at p35'
    have p35o:s15.1 < (((v3.2.2)).length:Int):=by omega
    replace h3:=bnd h3;obtain⟨x16,p36,h3⟩:=h3
    replace p36:=idx_some p36
    have p36':=p36;try simp at p36'
    refine kr [0,2,3,5,6,7,28,29,30] (by simp[-getElem?_pos,List.getElem?_cons_zero,List.getElem?_cons_succ,p35,p35o,p36,p35',p36'];rfl) ?_
    refine kr [0,2,3,5,6,28,29,30,36] (by simp;rfl) ?_
    refine trc (b:=(x16==2)) (by simp) (fun c24=>?_) (fun c24=>?_)
    ·rw[if_pos c24] at h3
     replace h3:=bnd h3;obtain⟨_,p38,h3⟩:=h3
     replace p38:=ck_some p38
     have p38':=p38;try simp at p38'
     refine lr (by simp[p38,p38'];rfl) ?_
     refine lr (by simp;rfl) ?_
     exact⟨_,hg3 _ (Option.some.inj h3),wk (by simp[wkI])⟩
    ·rw[if_neg (by rw[c24];decide)] at h3
     refine trk ?_
     refine lr (by simp;rfl) ?_
     exact⟨_,hg3 _ (Option.some.inj h3),wk (by simp[wkI])⟩
   ·rw[if_neg (by rw[c23];decide)] at h3
    refine tr_exit ?_
    exact⟨_,he3 _ (Option.some.inj h3),wk (by simp[wkI])⟩
 ·refine trb (tr_iter (fun s17:Int×(List Int)×Int×(List Int)=>({ nt:=86,env:=[(0,.ptr 1000000 0),(2,.ptr 2 0),(3,.ptr 3 0),(4,.d (.int .i64 s17.1))],box:=[(2,[.nilS,.nilS]),(3,[.vec 11,.nilS]),(1000000,[.d (.slice (rowsF (iRow .i64) s17.2.1)),.d (.int .i64 s17.2.2.1)])],vec:=[(11,⟨3,1,rowsF (iRow .i64) s17.2.2.2⟩)]}:St)) hI1 (wk (by subst hl2;simp[wkI])) fun G3 s17 o3 h3 hg3 he3=>?_)
  unfold mYDirectory_l0 at h3
  refine trq ?_
  refine kr [0,2,3,4,16] (by simp;rfl) ?_
  refine trc (b:=(decide (0 < s17.1))) (by simp) (fun c25=>?_) (fun c25=>?_)
  ·rw[if_pos c25] at h3
   refine trk ?_
   refine trq ?_
   refine trb ?_
   refine kd1 [[],[0],[],[],[2,3],[4],[1,4,5],[6],[1,6,7]] [4,6,8] [(3,[6,8]),(1000000,[4,6])] (some (6,11)) [20] 9 fol (by decide +kernel) (by simp) ?_
   refine dr_go 0 2 rfl (by simp (maxSteps:=1000000);rfl) ?_
   refine dr_go 2 2 rfl (by simp (maxSteps:=1000000);rfl) ?_
   replace h3:=bnd h3;obtain⟨y18,hy18,h3⟩:=h3
   refine dr_call 4 [1000000] (mYPick_ok hy18) rfl rfl rfl rfl rfl Tryz.call25 (by simp) ?_
   replace h3:=bnd h3;obtain⟨_,p41,h3⟩:=h3
   replace p41:=ck_some p41
   have p41':=p41;try simp at p41'
   refine dr_go 5 2 rfl (by simp (maxSteps:=1000000) [p41,p41'];rfl) ?_
   refine dr_go 7 2 rfl (by simp (maxSteps:=1000000) [p41,p41'];rfl) ?_
   refine dr_end rfl (tpN ?_)
   refine lr (by simp;rfl) ?_
   exact⟨_,hg3 _ (Option.some.inj h3),Wk.trans (wk_ren 25 11) (wk (by simp[wkI]))⟩
  ·rw[if_neg (by rw[c25];decide)] at h3
   refine tr_exit ?_
   exact⟨_,he3 _ (Option.some.inj h3),wk (by simp[wkI])⟩
theorem mYEstate_ok {a0:zT} {a1:api_Directory} {r:api_Estate×zT} (h0:mYEstate a0 a1=some r):FnOK Tryz.prog 7 [zTa a0] [.ptr (InO 0) 0,.agg (api_Directory_av a1)] (.agg (api_Estate_av r.1)) [zTa r.2]:=by
 unfold mYEstate at h0
 refine fn_ok (nt:=76) (rs:=[.cell 4 33]) Tryz.func7 rfl Tryz.ntmps7 rfl (by simp) (by decide) rfl fun K=>?_
 refine kr [0,3,4] (by simp;rfl) ?_
 refine kc ?_
 refine ko [0,3,4,9] 1 (by simp;rfl) ?_
 replace h0:=bnd h0;obtain⟨y1,hy1,h0⟩:=h0
 refine kcall [0,3,4,10] [1000000] (zT_Between_ok hy1) rfl rfl rfl Tryz.call24 (by simp) (by simp;rfl) ?_
 refine ko [0,3,4,5] 3 (by simp;rfl) ?_
 refine tpN ?_
 refine trq ?_
 refine kc ?_
 refine ko [0,3,4,5,12,13] 2 (by simp;rfl) ?_
 replace h0:=bnd h0;obtain⟨y2,hy2,h0⟩:=h0
 refine kcall [0,3,4,5,12,14] [1000000] (zT_Next_ok hy2) rfl rfl rfl Tryz.call8 (by simp) (by simp;rfl) ?_
 replace h0:=bnd h0;obtain⟨y3,hy3,h0⟩:=h0
 refine kcall [0,3,4,5,15] [1000000] (mYClock_ok hy3) rfl rfl rfl Tryz.call26 (by simp) (by simp;rfl) ?_
 refine ko [0,3,4,5,15,16,17] 2 (by simp;rfl) ?_
 refine tpN ?_
 refine tr_wk (wk_ownbox 5 1 72 83 7 (by simp;rfl) (by simp) (by simp)) ?_
 replace h0:=bnd h0;obtain⟨e1,hI1,h0⟩:=h0
 refine tjv (fun v4:(List Int)×Int×(List api_Access)=>({ nt:=76,env:=[(4,.ptr 4 0),(5,.ptr 5 0)],box:=[(4,[.d (.int .i64 0),.nilS]),(5,[.d (.int .i64 y1.1),.vec 72]),(1000000,[.d (.slice (rowsF (iRow .i64) v4.1)),.d (.int .i64 v4.2.1)])],vec:=[(72,⟨83,7,rowsF api_Access_row v4.2.2⟩)]}:St)) (fun v4=>v4=e1) (fun v4 hI1e _ W1=>?_) ?_
 ·subst hI1e
  refine tr_wk W1 ?_
  refine kr [4] (by simp;rfl) ?_
  cases h0
  exact trr ⟨[72],by simp,rfl,by simp⟩
 ·refine trb (tr_iter (fun s5:Int×(List Int)×Int×(List api_Access)=>({ nt:=76,env:=[(0,.ptr 1000000 0),(3,.ptr 3 0),(4,.ptr 4 0),(5,.ptr 5 0),(15,.d (.slice (rowsF (iRow .i64) y3.1))),(16,.d (.int .i64 ((y3.1).length:Int))),(17,.d (.int .i64 s5.1))],box:=[(3,[.d (.slice (rowsF (iRow .i64) a1.Kinds)),.d (.slice (rowsF api_Member_row a1.Events))]),(4,[.d (.int .i64 0),.nilS]),(5,[.d (.int .i64 y1.1),.vec 72]),(1000000,[.d (.slice (rowsF (iRow .i64) s5.2.1)),.d (.int .i64 s5.2.2.1)])],vec:=[(72,⟨83,7,rowsF api_Access_row s5.2.2.2⟩)]}:St)) hI1 (wk (by simp[wkI])) fun G1 s5 o1 h1 hg1 he1=>?_)
  unfold mYEstate_l0 at h1
  refine kr [0,3,4,5,15,16,17,18] (by simp;rfl) ?_
  refine trq ?_
  refine trc (b:=(decide (s5.1 < ((y3.1).length:Int)))) (by simp) (fun c25=>?_) (fun c25=>?_)
  ·rw[if_pos c25] at h1
   refine trk ?_
   refine trq ?_
   refine trb ?_
   replace h1:=bnd h1;obtain⟨x6,p8,h1⟩:=h1
   replace p8:=idx_some p8
   have p8':=p8;try simp at p8'
   refine kr [0,3,4,5,7,15,16,17] (by simp[p8,p8'];rfl) ?_
   refine kd [[],[],[],[1,2],[],[],[5],[3,4,6],[0,3,7],[],[8,9]] [3,7,9,10] [(8,[9,10]),(1000000,[3,7])] none [] 11 fol (by decide +kernel) (by simp) ?_
   refine dr_go 0 2 rfl (by simp (maxSteps:=1000000);rfl) ?_
   refine dr_go 2 1 rfl (by simp (maxSteps:=1000000);rfl) ?_
   replace h1:=bnd h1;obtain⟨y7,hy7,h1⟩:=h1
   refine dr_call 3 [1000000] (mYPick_ok hy7) rfl rfl rfl rfl rfl Tryz.call25 (by simp) ?_
   refine dr_go 4 2 rfl (by simp (maxSteps:=1000000);rfl) ?_
   refine dr_go 6 1 rfl (by simp (maxSteps:=1000000);rfl) ?_
   replace h1:=bnd h1;obtain⟨y8,hy8,h1⟩:=h1
   refine dr_call 7 [1000000] (zT_Next_ok hy8) rfl rfl rfl rfl rfl Tryz.call8 (by simp) ?_
   refine dr_go 8 2 rfl (by simp (maxSteps:=1000000);rfl) ?_
   refine dr_go 10 1 rfl (by simp (maxSteps:=1000000);rfl) ?_
   refine dr_end rfl (tpN ?_)
   refine sjv (fun v9:(List Int)×Int×Int×Int×Int×Int=>({ nt:=76,env:=[(0,.ptr 1000000 0),(3,.ptr 3 0),(4,.ptr 4 0),(5,.ptr 5 0),(8,.ptr 8 0),(15,.d (.slice (rowsF (iRow .i64) y3.1))),(16,.d (.int .i64 ((y3.1).length:Int))),(17,.d (.int .i64 s5.1))],box:=[(3,[.d (.slice (rowsF (iRow .i64) a1.Kinds)),.d (.slice (rowsF api_Member_row a1.Events))]),(4,[.d (.int .i64 0),.nilS]),(5,[.d (.int .i64 y1.1),.vec 72]),(8,[.d (.int .i64 x6),.d (.int .i64 y7.1),.d (.int .i64 y8.1),.d (.int .i64 v9.2.2.1),.d (.int .i64 v9.2.2.2.1),.d (.int .i64 v9.2.2.2.2.1),.d (.int .i64 v9.2.2.2.2.2)]),(1000000,[.d (.slice (rowsF (iRow .i64) v9.1)),.d (.int .i64 v9.2.1)])],vec:=[(72,⟨83,7,rowsF api_Access_row s5.2.2.2⟩)]}:St)) (fun v9=>mYEstate_j1 s5 x6 y7 y8 v9=some o1) (fun v9 h1=>?_) ?_
   ·unfold mYEstate_j1 at h1
    replace h1:=bnd h1;obtain⟨_,p10,h1⟩:=h1
    replace p10:=ck_some p10
    have p10':=p10;try simp at p10'
    refine lr (by simp[p10,p10'];rfl) ?_
    refine lr (by simp;rfl) ?_
    exact⟨_,hg1 _ (Option.some.inj h1),wk (by simp[wkI])⟩
   ·refine kr [0,3,4,5,7,8,15,16,17,31] (by simp;rfl) ?_
    refine trb ?_
    refine sjv (fun v10:Bool=>({ nt:=76,env:=[(0,.ptr 1000000 0),(3,.ptr 3 0),(4,.ptr 4 0),(5,.ptr 5 0),(7,.d (.int .i64 x6)),(8,.ptr 8 0),(15,.d (.slice (rowsF (iRow .i64) y3.1))),(16,.d (.int .i64 ((y3.1).length:Int))),(17,.d (.int .i64 s5.1)),(31,.d (.int .i64 y7.1)),(32,.d (.bool v10))],box:=[(3,[.d (.slice (rowsF (iRow .i64) a1.Kinds)),.d (.slice (rowsF api_Member_row a1.Events))]),(4,[.d (.int .i64 0),.nilS]),(5,[.d (.int .i64 y1.1),.vec 72]),(8,[.d (.int .i64 x6),.d (.int .i64 y7.1),.d (.int .i64 y8.1),.d (.int .i64 0),.d (.int .i64 0),.d (.int .i64 0),.d (.int .i64 0)]),(1000000,[.d (.slice (rowsF (iRow .i64) y8.2.L)),.d (.int .i64 y8.2.at_)])],vec:=[(72,⟨83,7,rowsF api_Access_row s5.2.2.2⟩)]}:St)) (fun v10=>mYEstate_j2 y8 a1 s5 x6 y7 y1 v10=some o1) (fun v10 h1=>?_) ?_
    ·unfold mYEstate_j2 at h1
     refine trc (b:=v10) (by simp) (fun c34=>?_) (fun c34=>?_)
     ·rw[if_pos c34] at h1
      refine kc1 ?_
      refine ko [0,3,4,5,8,15,16,17,35,39] 5 (by simp;rfl) ?_
      replace h1:=bnd h1;obtain⟨y11,hy11,h1⟩:=h1
      refine kcall [0,3,4,5,8,15,16,17,40] [1000000] (zT_Next_ok hy11) rfl rfl rfl Tryz.call8 (by simp) (by simp;rfl) ?_
      refine ko [0,3,4,5,8,15,16,17] 2 (by simp;rfl) ?_
      refine tpN ?_
      exact⟨_,h1,wk (by simp[wkI])⟩
     ·rw[if_neg (by rw[c34];decide)] at h1
      refine kr [0,3,4,5,7,8,15,16,17,31,42] (by simp;rfl) ?_
      refine trc (b:=(y7.1==3)) (by simp) (fun c35=>?_) (fun c35=>?_)
      ·rw[if_pos c35] at h1
       refine kc1 ?_
       refine ko [0,3,4,5,8,15,16,17,45,46] 3 (by simp;rfl) ?_
       replace h1:=bnd h1;obtain⟨y12,hy12,h1⟩:=h1
       refine kcall [0,3,4,5,8,15,16,17,45,47] [1000000] (zT_Next_ok hy12) rfl rfl rfl Tryz.call8 (by simp) (by simp;rfl) ?_
       refine ko [0,3,4,5,8,15,16,17] 3 (by simp;rfl) ?_
       refine tpN ?_
       exact⟨_,h1,wk (by simp[wkI])⟩
      ·rw[if_neg (by rw[c35];decide)] at h1
       refine sjv (fun v13:Bool=>({ nt:=76,env:=[(0,.ptr 1000000 0),(3,.ptr 3 0),(4,.ptr 4 0),(5,.ptr 5 0),(8,.ptr 8 0),(15,.d (.slice (rowsF (iRow .i64) y3.1))),(16,.d (.int .i64 ((y3.1).length:Int))),(17,.d (.int .i64 s5.1)),(31,.d (.int .i64 y7.1)),(50,.d (.bool v13))],box:=[(3,[.d (.slice (rowsF (iRow .i64) a1.Kinds)),.d (.slice (rowsF api_Member_row a1.Events))]),(4,[.d (.int .i64 0),.nilS]),(5,[.d (.int .i64 y1.1),.vec 72]),(8,[.d (.int .i64 x6),.d (.int .i64 y7.1),.d (.int .i64 y8.1),.d (.int .i64 0),.d (.int .i64 0),.d (.int .i64 0),.d (.int .i64 0)]),(1000000,[.d (.slice (rowsF (iRow .i64) y8.2.L)),.d (.int .i64 y8.2.at_)])],vec:=[(72,⟨83,7,rowsF api_Access_row s5.2.2.2⟩)]}:St)) (fun v13=>mYEstate_j3 y8 s5 x6 y7 y1 v13=some o1) (fun v13 h1=>?_) ?_
       ·unfold mYEstate_j3 at h1
        refine trc (b:=v13) (by simp) (fun c37=>?_) (fun c37=>?_)
        ·rw[if_pos c37] at h1
         refine kc1 ?_
         refine ko [0,3,4,5,8,15,16,17,53] 1 (by simp;rfl) ?_
         replace h1:=bnd h1;obtain⟨y14,hy14,h1⟩:=h1
         refine kcall [0,3,4,5,8,15,16,17,54] [1000000] (zT_Next_ok hy14) rfl rfl rfl Tryz.call8 (by simp) (by simp;rfl) ?_
         refine ko [0,3,4,5,8,15,16,17] 2 (by simp;rfl) ?_
         refine tpN ?_
         exact⟨_,h1,wk (by simp[wkI])⟩
        ·rw[if_neg (by rw[c37];decide)] at h1
         refine kr [0,3,4,5,8,15,16,17,56] (by simp;rfl) ?_
         refine trc (b:=(y7.1==7)) (by simp) (fun c38=>?_) (fun c38=>?_)
         ·rw[if_pos c38] at h1
          refine kc ?_
          refine ko [0,3,4,5,8,15,16,17,58,60] 3 (by simp;rfl) ?_
          replace h1:=bnd h1;obtain⟨y15,hy15,h1⟩:=h1
          refine kcall [0,3,4,5,8,15,16,17,61] [1000000] (zT_Next_ok hy15) rfl rfl rfl Tryz.call8 (by simp) (by simp;rfl) ?_
          refine ko [0,3,4,5,8,15,16,17] 2 (by simp;rfl) ?_
          refine tpN ?_
          refine kr [0,3,4,5,8,15,16,17,67] (by simp;rfl) ?_
          refine trc (b:=(y15.1==y8.1)) (by simp) (fun c39=>?_) (fun c39=>?_)
          ·rw[if_pos c39] at h1
           refine tr_exit ?_
           refine lr (by simp;rfl) ?_
           exact⟨_,hg1 _ (Option.some.inj h1),wk (by simp[wkI])⟩
          ·rw[if_neg (by rw[c39];decide)] at h1
           refine trk ?_
           exact⟨_,h1,wk (by simp[wkI])⟩
         ·rw[if_neg (by rw[c38];decide)] at h1
          refine trk ?_
          exact⟨_,h1,wk (by simp[wkI])⟩
       ·refine kr [0,3,4,5,8,15,16,17,31,50] (by simp;rfl) ?_
        refine trc (b:=(y7.1==5)) (by simp) (fun c40=>?_) (fun c40=>?_)
        ·rw[if_pos c40] at h1
         refine trk ?_
         exact⟨_,h1,wk (by simp[wkI])⟩
        ·rw[if_neg (by rw[c40];decide)] at h1
         refine lr (by simp;rfl) ?_
         exact⟨_,h1,wk (by simp[wkI])⟩
    ·refine kr [0,3,4,5,7,8,15,16,17,31,32] (by simp;rfl) ?_
     refine trc (b:=(y7.1==1)) (by simp) (fun c41=>?_) (fun c41=>?_)
     ·rw[if_pos c41] at h1
      refine trk ?_
      exact⟨_,h1,wk (by simp[wkI])⟩
     ·rw[if_neg (by rw[c41];decide)] at h1
      refine lr (by simp;rfl) ?_
      exact⟨_,h1,wk (by simp[wkI])⟩
  ·rw[if_neg (by rw[c25];decide)] at h1
   refine tr_exit ?_
   exact⟨_,he1 _ (Option.some.inj h1),wk (by simp[wkI])⟩
theorem ledger_among_ok {a0:Int} {a1:Int} {a2:Int} {r:Bool} (h0:ledger_among a0 a1 a2=some r):FnOK Tryz.prog 65 [] [.d (.int .i64 a0),.d (.int .i64 a1),.d (.int .i64 a2)] (.d (.bool r)) []:=by
 unfold ledger_among at h0
 refine fn_ok (nt:=15) (rs:=[.tmp 6]) Tryz.func65 rfl Tryz.ntmps65 rfl (by simp) (by decide) rfl fun K=>?_
 refine kr [0,1,2] (by simp;rfl) ?_
 replace h0:=bnd h0;obtain⟨v1,hvv1,h0⟩:=h0
 refine sjv (fun v1_:Bool=>({ nt:=15,env:=[(6,.d (.bool v1_))],box:=[],vec:=[]}:St)) (fun v1_=>v1=v1_) (fun v1_ e=>?_) ?_
 ·subst e
  cases h0
  exact trr ⟨[],by simp,rfl,by simp⟩
 ·refine kc1 ?_
  refine ko [0,2,10] 4 (by simp;rfl) ?_
  refine tops_split 10 (decide (a1≤a0)) (by simp) (fun c3=>?_) (fun c3=>?_)
  ·rw[c3] at hvv1
   refine ko [6] 5 (by simp;rfl) ?_
   refine tpN ?_
   cases hvv1
   exact⟨_,rfl,wk (by simp[wkI])⟩
  ·rw[c3] at hvv1
   refine kskip 3 [] (by kernel_rfl) ?_
   refine ko [6] 2 (by simp;rfl) ?_
   refine tpN ?_
   cases hvv1
   exact⟨_,rfl,wk (by simp[wkI])⟩
theorem ledger_Check_ok {a0:List api_Record} {r:Int} (h0:ledger_Check a0=some r):FnOK Tryz.prog 29 [] [.d (.slice (rowsF api_Record_row a0))] (.d (.int .i64 r)) []:=by
 unfold ledger_Check at h0
 refine fn_ok (nt:=41) (rs:=[.tmp 2]) Tryz.func29 rfl Tryz.ntmps29 rfl (by simp) (by decide) rfl fun K=>?_
 refine kr [0] (by simp;rfl) ?_
 refine trq ?_
 refine kr [0,8] (by simp;rfl) ?_
 refine trc (b:=(decide (100 < ((a0).length:Int)))) (by simp) (fun c1=>?_) (fun c1=>?_)
 ·rw[if_pos c1] at h0
  refine kr [2] (by simp;rfl) ?_
  cases h0
  exact trr ⟨[],by simp,rfl,by simp⟩
 ·rw[if_neg (by rw[c1];decide)] at h0
  refine trk ?_
  refine kr [0,3] (by simp;rfl) ?_
  refine trq ?_
  refine kr [3,9,10,11] (by simp;rfl) ?_
  replace h0:=bnd h0;obtain⟨e1,hI1,h0⟩:=h0
  refine tjv (fun v1:Unit=>({ nt:=41,env:=[],box:=[],vec:=[]}:St)) (fun v1=>.inl v1=e1) (fun v1 hI1e _ W1=>?_) ?_
  ·subst hI1e
   dsimp only at h0
   refine tr_wk W1 ?_
   refine kr [2] (by simp;rfl) ?_
   cases h0
   exact trr ⟨[],by simp,rfl,by simp⟩
  ·refine trb (tr_iter (fun s2:Int×Int=>({ nt:=41,env:=[(3,.d (.int .i64 s2.1)),(9,.d (.slice (rowsF api_Record_row a0))),(10,.d (.int .i64 ((a0).length:Int))),(11,.d (.int .i64 s2.2))],box:=[],vec:=[]}:St)) hI1 (wk (by simp[wkI])) fun G1 s2 o1 h1 hg1 he1=>?_)
   unfold ledger_Check_l0 at h1
   refine kr [3,9,10,11,12] (by simp;rfl) ?_
   refine trq ?_
   refine trc (b:=(decide (s2.2 < ((a0).length:Int)))) (by simp) (fun c12=>?_) (fun c12=>?_)
   ·rw[if_pos c12] at h1
    refine trk ?_
    refine trq ?_
    refine trb ?_
    replace h1:=bnd h1;obtain⟨x3,p3,h1⟩:=h1
    replace p3:=idx_some p3
    have p3':=p3;try simp at p3'
    refine kr [3,5,9,10,11] (by simp[p3,p3'];rfl) ?_
    refine trq ?_
    replace h1:=bnd h1;obtain⟨v4,hvv4,h1⟩:=h1
    refine sjv (fun v4_:Bool=>({ nt:=41,env:=[(5,.ptr 5 0),(9,.d (.slice (rowsF api_Record_row a0))),(10,.d (.int .i64 ((a0).length:Int))),(11,.d (.int .i64 s2.2)),(37,.d (.bool v4_))],box:=[(5,[.d (.int .i64 x3.Known),.d (.int .i64 x3.Since),.d (.int .i64 x3.Subject),.d (.int .i64 x3.Value)])],vec:=[]}:St)) (fun v4_=>v4=v4_) (fun v4_ e=>?_) ?_
    ·subst e
     refine trc (b:=v4) (by simp) (fun c19=>?_) (fun c19=>?_)
     ·rw[if_pos c19] at h1
      refine kr [2] (by simp;rfl) ?_
      have k1:=he1 _ (Option.some.inj h1)
      subst k1
      dsimp only at h0
      cases h0
      exact trr ⟨[],by simp,rfl,by simp⟩
     ·rw[if_neg (by rw[c19];decide)] at h1
      refine trk ?_
      refine lr (by simp;rfl) ?_
      refine lr (by simp;rfl) ?_
      exact⟨_,hg1 _ (Option.some.inj h1),wk (by simp[wkI])⟩
    ·refine kc1 ?_
     refine ko [5,9,10,11,16,17] 3 (by simp;rfl) ?_
     replace hvv4:=bnd hvv4;obtain⟨y5,hy5,hvv4⟩:=hvv4
     refine kcall [5,9,10,11,18] [] (ledger_among_ok hy5) rfl rfl rfl Tryz.call65 (by simp) (by simp;rfl) ?_
     refine ko [5,9,10,11,20] 2 (by simp;rfl) ?_
     refine tops_split 20 (!y5) (by simp) (fun c20=>?_) (fun c20=>?_)
     ·rw[if_pos c20] at hvv4
      refine kskip 4 [] (by kernel_rfl) ?_
      refine ko [5,9,10,11,26] 2 (by simp;rfl) ?_
      refine kskip 4 [] (by kernel_rfl) ?_
      refine ko [5,9,10,11,32] 2 (by simp;rfl) ?_
      refine kskip 4 [] (by kernel_rfl) ?_
      refine ko [5,9,10,11,37] 1 (by simp;rfl) ?_
      refine tpN ?_
      cases hvv4
      exact⟨_,rfl,wk (by simp[wkI])⟩
     ·rw[if_neg (by rw[c20];decide)] at hvv4
      refine ko [5,9,10,11,20,21,22] 2 (by simp;rfl) ?_
      replace hvv4:=bnd hvv4;obtain⟨y6,hy6,hvv4⟩:=hvv4
      refine kcall [5,9,10,11,20,21,22,23] [] (ledger_among_ok hy6) rfl rfl rfl Tryz.call65 (by simp) (by simp;rfl) ?_
      refine ko [5,9,10,11,21,22,23,24,26] 3 (by simp;rfl) ?_
      refine tops_split 26 (!y6) (by simp) (fun c21=>?_) (fun c21=>?_)
      ·rw[if_pos c21] at hvv4
       refine kskip 4 [] (by kernel_rfl) ?_
       refine ko [5,9,10,11,21,22,23,24,32] 2 (by simp;rfl) ?_
       refine kskip 4 [] (by kernel_rfl) ?_
       refine ko [5,9,10,11,21,22,23,24,37] 1 (by simp;rfl) ?_
       refine tpN ?_
       cases hvv4
       exact⟨_,rfl,wk (by simp[wkI])⟩
      ·rw[if_neg (by rw[c21];decide)] at hvv4
       refine ko [5,9,10,11,21,22,23,24,26,27,28] 2 (by simp;rfl) ?_
       replace hvv4:=bnd hvv4;obtain⟨y7,hy7,hvv4⟩:=hvv4
       refine kcall [5,9,10,11,21,22,23,24,26,27,28,29] [] (ledger_among_ok hy7) rfl rfl rfl Tryz.call65 (by simp) (by simp;rfl) ?_
       refine ko [5,9,10,11,21,22,23,24,27,28,29,30,32] 3 (by simp;rfl) ?_
       refine tops_split 32 (!y7) (by simp) (fun c22=>?_) (fun c22=>?_)
       ·rw[if_pos c22] at hvv4
        refine kskip 4 [] (by kernel_rfl) ?_
        refine ko [5,9,10,11,21,22,23,24,27,28,29,30,37] 1 (by simp;rfl) ?_
        refine tpN ?_
        cases hvv4
        exact⟨_,rfl,wk (by simp[wkI])⟩
       ·rw[if_neg (by rw[c22];decide)] at hvv4
        refine ko [5,9,10,11,21,22,23,24,27,28,29,30,32,33,34] 2 (by simp;rfl) ?_
        replace hvv4:=bnd hvv4;obtain⟨y8,hy8,hvv4⟩:=hvv4
        refine kcall [5,9,10,11,21,22,23,24,27,28,29,30,32,33,34,35] [] (ledger_among_ok hy8) rfl rfl rfl Tryz.call65 (by simp) (by simp;rfl) ?_
        refine ko [5,9,10,11,21,22,23,24,27,28,29,30,33,34,35,36,37] 2 (by simp;rfl) ?_
        refine tpN ?_
        cases hvv4
        exact⟨_,rfl,wk (by simp[wkI])⟩
   ·rw[if_neg (by rw[c12];decide)] at h1
    refine tr_exit ?_
    exact⟨_,he1 _ (Option.some.inj h1),wk (by simp[wkI])⟩
theorem ledger_Append_ok {a0:List api_Record} {a1:api_Record} {r:(List api_Record)×Int} (h0:ledger_Append a0 a1=some r):FnOK Tryz.prog 10 [] [.d (.slice (rowsF api_Record_row a0)),.agg (api_Record_av a1)] (.tup [.d (.slice (rowsF api_Record_row r.1)),.d (.int .i64 r.2)]) []:=by
 unfold ledger_Append at h0
 refine fn_ok (nt:=28) (rs:=[.tmp 4,.tmp 5]) Tryz.func10 rfl Tryz.ntmps10 rfl (by simp) (by decide) rfl fun K=>?_
 refine kr [0,3] (by simp;rfl) ?_
 refine trq ?_
 refine trb ?_
 refine kc ?_
 refine ko [0,3,8] 1 (by simp;rfl) ?_
 replace h0:=bnd h0;obtain⟨y1,hy1,h0⟩:=h0
 refine kcall [0,3,9] [] (ledger_Check_ok hy1) rfl rfl rfl Tryz.call29 (by simp) (by simp;rfl) ?_
 refine ko [0,3,7] 2 (by simp;rfl) ?_
 refine tpN ?_
 refine trc (b:=(y1 != 0)) (by simp) (fun c1=>?_) (fun c1=>?_)
 ·rw[if_pos c1] at h0
  refine kr [4,5] (by simp;rfl) ?_
  cases h0
  exact trr ⟨[],by simp,rfl,by simp⟩
 ·rw[if_neg (by rw[c1];decide)] at h0
  refine kr [0,3,11] (by simp;rfl) ?_
  refine trc (b:=(decide (100≤((a0).length:Int)))) (by simp) (fun c2=>?_) (fun c2=>?_)
  ·rw[if_pos c2] at h0
   refine kr [4,5] (by simp;rfl) ?_
   cases h0
   exact trr ⟨[],by simp,rfl,by simp⟩
  ·rw[if_neg (by rw[c2];decide)] at h0
   refine trk ?_
   refine kd [[],[],[1],[],[3],[0,1,2,3,4],[],[6],[0,1,2,3,4,5,6,7],[0,1,2,3,4,5,6,7]] [] [] none [] 8 fol (by decide +kernel) (by simp) ?_
   replace h0:=bnd h0;obtain⟨_,p7,h0⟩:=h0
   replace p7:=ck_some p7
   have p7':=p7;try simp at p7'
   refine dr_go 0 2 rfl (by simp (maxSteps:=1000000) [p7,p7'];rfl) ?_
   refine dr_go 2 2 rfl (by simp (maxSteps:=1000000) [p7,p7'];rfl) ?_
   refine dr_go 4 2 rfl (by simp (maxSteps:=1000000) [p7,p7'];rfl) ?_
   refine dr_go 6 2 rfl (by simp (maxSteps:=1000000) [p7,p7'];rfl) ?_
   refine dr_end rfl ?_
   replace h0:=bnd h0;obtain⟨_,p8,h0⟩:=h0
   replace p8:=ck_some p8
   have p8':=p8;try simp at p8'
   refine ko [6] 2 (by simp[p8,p8'];rfl) ?_
   refine tpN ?_
   refine trq ?_
   refine kc ?_
   refine ko [6,24] 1 (by simp;rfl) ?_
   refine tops_wk (wk_frz 23) ?_
   replace h0:=bnd h0;obtain⟨y2,hy2,h0⟩:=h0
   refine kcall [6,25] [] (ledger_Check_ok hy2) rfl rfl rfl Tryz.call29 (by simp) (by simp;rfl) ?_
   refine ko [6,26] 1 (by simp;rfl) ?_
   refine tpN ?_
   refine trc (b:=(y2 != 0)) (by simp) (fun c3=>?_) (fun c3=>?_)
   ·rw[if_pos c3] at h0
    refine kr [4,5] (by simp;rfl) ?_
    cases h0
    exact trr ⟨[],by simp,rfl,by simp⟩
   ·rw[if_neg (by rw[c3];decide)] at h0
    refine trk ?_
    refine kr [4,5] (by simp;rfl) ?_
    cases h0
    exact trr ⟨[],by simp,rfl,by simp⟩
theorem ledger_believe_ok {a0:List api_Record} {a1:Int} {a2:Int} {a3:Int} {r:Int} (h0:ledger_believe a0 a1 a2 a3=some r):FnOK Tryz.prog 30 [] [.d (.slice (rowsF api_Record_row a0)),.d (.int .i64 a1),.d (.int .i64 a2),.d (.int .i64 a3)] (.d (.int .i64 r)) []:=by
 unfold ledger_believe at h0
 refine fn_ok (nt:=52) (rs:=[.tmp 8]) Tryz.func30 rfl Tryz.ntmps30 rfl (by simp) (by decide) rfl fun K=>?_
 refine kr [0,1,2,3] (by simp;rfl) ?_
 refine kr [0,1,2,3,9] (by simp;rfl) ?_
 refine trq ?_
 refine kr [0,1,2,3,9,12,13,14] (by simp;rfl) ?_
 replace h0:=bnd h0;obtain⟨e1,hI1,h0⟩:=h0
 refine tjv (fun v1:Int=>({ nt:=52,env:=[(9,.d (.int .i64 v1))],box:=[],vec:=[]}:St)) (fun v1=>v1=e1) (fun v1 hI1e _ W1=>?_) ?_
 ·subst hI1e
  refine tr_wk W1 ?_
  refine kr [8] (by simp;rfl) ?_
  cases h0
  exact trr ⟨[],by simp,rfl,by simp⟩
 ·refine trb (tr_iter (fun s2:Int×Int=>({ nt:=52,env:=[(0,.d (.slice (rowsF api_Record_row a0))),(1,.d (.int .i64 a1)),(2,.d (.int .i64 a2)),(3,.d (.int .i64 a3)),(9,.d (.int .i64 s2.1)),(12,.d (.slice (rowsF api_Record_row a0))),(13,.d (.int .i64 ((a0).length:Int))),(14,.d (.int .i64 s2.2))],box:=[],vec:=[]}:St)) hI1 (wk (by simp[wkI])) fun G1 s2 o1 h1 hg1 he1=>?_)
  unfold ledger_believe_l0 at h1
  refine kr [0,1,2,3,9,12,13,14,15] (by simp;rfl) ?_
  refine trq ?_
  refine trc (b:=(decide (s2.2 < ((a0).length:Int)))) (by simp) (fun c29=>?_) (fun c29=>?_)
  ·rw[if_pos c29] at h1
   refine trk ?_
   refine trq ?_
   refine trb ?_
   replace h1:=bnd h1;obtain⟨x3,p9,h1⟩:=h1
   replace p9:=idx_some p9
   have p9':=p9;try simp at p9'
   refine kr [0,1,2,3,9,10,11,12,13,14] (by simp[p9,p9'];rfl) ?_
   replace h1:=bnd h1;obtain⟨v4,hvv4,h1⟩:=h1
   refine sjv (fun v4_:Bool=>({ nt:=52,env:=[(0,.d (.slice (rowsF api_Record_row a0))),(1,.d (.int .i64 a1)),(2,.d (.int .i64 a2)),(3,.d (.int .i64 a3)),(9,.d (.int .i64 s2.1)),(10,.d (.int .i64 s2.2)),(12,.d (.slice (rowsF api_Record_row a0))),(13,.d (.int .i64 ((a0).length:Int))),(14,.d (.int .i64 s2.2)),(48,.d (.bool v4_))],box:=[],vec:=[]}:St)) (fun v4_=>v4=v4_) (fun v4_ e=>?_) ?_
   ·subst e
    refine trc (b:=v4) (by simp) (fun c54=>?_) (fun c54=>?_)
    ·rw[if_pos c54] at h1
     refine lr (by simp;rfl) ?_
     refine lr (by simp;rfl) ?_
     exact⟨_,hg1 _ (Option.some.inj h1),wk (by simp[wkI])⟩
    ·rw[if_neg (by rw[c54];decide)] at h1
     refine trk ?_
     refine lr (by simp;rfl) ?_
     exact⟨_,hg1 _ (Option.some.inj h1),wk (by simp[wkI])⟩
   ·refine kd1 [[],[0],[],[1,2],[3],[4],[4,5],[4],[4,6,7],[4,8],[9],[10],[10,11],[10],[10,12,13],[10,14],[15],[16],[16,17],[16,18],[19],[19,20],[19],[19],[19,22,23],[19,24],[19,25],[19,21,26],[16,19,27],[16,28]] [] [] none [] 30 fol (by decide +kernel) (by simp) ?_
    refine dr_go 0 2 rfl (by simp (maxSteps:=1000000);rfl) ?_
    refine dr_go 2 2 rfl (by simp (maxSteps:=1000000);rfl) ?_
    refine dr_go 4 1 rfl (by simp (maxSteps:=1000000);rfl) ?_
    refine dr_split 4 23 (decide (x3.Known≤a1)) (by simp) (fun c63=>?_) (fun c63=>?_)
    ·rw[if_pos c63] at hvv4
     refine dr_go 5 2 rfl (by simp (maxSteps:=1000000);rfl) ?_
     refine dr_go 7 2 rfl (by simp (maxSteps:=1000000);rfl) ?_
     refine dr_go 9 2 rfl (by simp (maxSteps:=1000000);rfl) ?_
     refine dr_split 10 29 (x3.Subject==a2) (by simp) (fun c64=>?_) (fun c64=>?_)
     ·rw[if_pos c64] at hvv4
      refine dr_go 11 2 rfl (by simp (maxSteps:=1000000);rfl) ?_
      refine dr_go 13 2 rfl (by simp (maxSteps:=1000000);rfl) ?_
      refine dr_go 15 2 rfl (by simp (maxSteps:=1000000);rfl) ?_
      refine dr_split 16 35 (decide (x3.Since≤a3)) (by simp) (fun c65=>?_) (fun c65=>?_)
      ·rw[if_pos c65] at hvv4
       refine dr_go 17 2 rfl (by simp (maxSteps:=1000000);rfl) ?_
       refine dr_go 19 1 rfl (by simp (maxSteps:=1000000);rfl) ?_
       refine dr_split 19 38 (s2.1==(-1)) (by simp) (fun c66=>?_) (fun c66=>?_)
       ·rw[if_pos c66] at hvv4
        refine dr_skip 20 52 [some 39,some 40,some 41,some 42,some 43,some 44,some 45,some 46] rfl rfl (by decide) (by kernel_rfl) (by simp only[skEf,List.map_cons,List.map_nil,List.cons_append,List.nil_append];rfl) ?_
        refine dr_go 28 2 rfl (by simp (maxSteps:=1000000);rfl) ?_
        refine dr_end rfl (tpN ?_)
        cases hvv4
        exact⟨_,rfl,wk (by simp[wkI])⟩
       ·rw[if_neg (by rw[c66];decide)] at hvv4
        replace hvv4:=bnd hvv4;obtain⟨x5,p18,hvv4⟩:=hvv4
        replace p18:=idx_some p18
        have p18':=p18;try simp at p18'
        refine dr_go 20 2 rfl (by simp (maxSteps:=1000000) [p18,p18'];rfl) ?_
        refine dr_go 22 2 rfl (by simp (maxSteps:=1000000) [p18,p18'];rfl) ?_
        refine dr_go 24 2 rfl (by simp (maxSteps:=1000000) [p18,p18'];rfl) ?_
        refine dr_go 26 2 rfl (by simp (maxSteps:=1000000) [p18,p18'];rfl) ?_
        refine dr_go 28 2 rfl (by simp (maxSteps:=1000000) [p18,p18'];rfl) ?_
        refine dr_end rfl (tpN ?_)
        cases hvv4
        exact⟨_,rfl,wk (by simp[wkI])⟩
      ·rw[if_neg (by rw[c65];decide)] at hvv4
       refine dr_skip 17 52 [some 36,some 37,some 38,some 39,some 40,some 41,some 42,some 43,some 44,some 45,some 46,some 47] rfl rfl (by decide) (by kernel_rfl) (by simp only[skEf,List.map_cons,List.map_nil,List.cons_append,List.nil_append];rfl) ?_
       refine dr_go 29 1 rfl (by simp (maxSteps:=1000000);rfl) ?_
       refine dr_end rfl (tpN ?_)
       cases hvv4
       exact⟨_,rfl,wk (by simp[wkI])⟩
     ·rw[if_neg (by rw[c64];decide)] at hvv4
      refine dr_skip 11 52 [some 30,some 31,some 32,some 33] rfl rfl (by decide) (by kernel_rfl) (by simp only[skEf,List.map_cons,List.map_nil,List.cons_append,List.nil_append];rfl) ?_
      refine dr_go 15 2 rfl (by simp (maxSteps:=1000000);rfl) ?_
      refine dr_skip 17 52 [some 36,some 37,some 38,some 39,some 40,some 41,some 42,some 43,some 44,some 45,some 46,some 47] rfl rfl (by decide) (by kernel_rfl) (by simp only[skEf,List.map_cons,List.map_nil,List.cons_append,List.nil_append];rfl) ?_
      refine dr_go 29 1 rfl (by simp (maxSteps:=1000000);rfl) ?_
      refine dr_end rfl (tpN ?_)
      cases hvv4
      exact⟨_,rfl,wk (by simp[wkI])⟩
    ·rw[if_neg (by rw[c63];decide)] at hvv4
     refine dr_skip 5 52 [some 24,some 25,some 26,some 27] rfl rfl (by decide) (by kernel_rfl) (by simp only[skEf,List.map_cons,List.map_nil,List.cons_append,List.nil_append];rfl) ?_
     refine dr_go 9 2 rfl (by simp (maxSteps:=1000000);rfl) ?_
     refine dr_skip 11 52 [some 30,some 31,some 32,some 33] rfl rfl (by decide) (by kernel_rfl) (by simp only[skEf,List.map_cons,List.map_nil,List.cons_append,List.nil_append];rfl) ?_
     refine dr_go 15 2 rfl (by simp (maxSteps:=1000000);rfl) ?_
     refine dr_skip 17 52 [some 36,some 37,some 38,some 39,some 40,some 41,some 42,some 43,some 44,some 45,some 46,some 47] rfl rfl (by decide) (by kernel_rfl) (by simp only[skEf,List.map_cons,List.map_nil,List.cons_append,List.nil_append];rfl) ?_
     refine dr_go 29 1 rfl (by simp (maxSteps:=1000000);rfl) ?_
     refine dr_end rfl (tpN ?_)
     cases hvv4
     exact⟨_,rfl,wk (by simp[wkI])⟩
  ·rw[if_neg (by rw[c29];decide)] at h1
   refine tr_exit ?_
   exact⟨_,he1 _ (Option.some.inj h1),wk (by simp[wkI])⟩
theorem ledger_Believe_ok {a0:List api_Record} {a1:Int} {a2:Int} {a3:Int} {r:api_Belief×Bool} (h0:ledger_Believe a0 a1 a2 a3=some r):FnOK Tryz.prog 11 [] [.d (.slice (rowsF api_Record_row a0)),.d (.int .i64 a1),.d (.int .i64 a2),.d (.int .i64 a3)] (.tup [.agg (api_Belief_av r.1),.d (.bool r.2)]) []:=by
 unfold ledger_Believe at h0
 refine fn_ok (nt:=30) (rs:=[.cell 8 48,.tmp 9]) Tryz.func11 rfl Tryz.ntmps11 rfl (by simp) (by decide) rfl fun K=>?_
 refine kr [0,1,2,3,8] (by simp;rfl) ?_
 refine trq ?_
 refine kc ?_
 refine ko [0,1,2,3,8,11] 1 (by simp;rfl) ?_
 replace h0:=bnd h0;obtain⟨y1,hy1,h0⟩:=h0
 refine kcall [0,1,2,3,8,12] [] (ledger_Check_ok hy1) rfl rfl rfl Tryz.call29 (by simp) (by simp;rfl) ?_
 refine ko [0,1,2,3,8,13] 1 (by simp;rfl) ?_
 refine tpN ?_
 refine trc (b:=(y1 != 0)) (by simp) (fun c1=>?_) (fun c1=>?_)
 ·rw[if_pos c1] at h0
  refine kr [8,9] (by simp;rfl) ?_
  cases h0
  exact trr ⟨[],by simp,rfl,by simp⟩
 ·rw[if_neg (by rw[c1];decide)] at h0
  refine trk ?_
  refine kc ?_
  refine ko [0,8,15,16,17,18] 4 (by simp;rfl) ?_
  replace h0:=bnd h0;obtain⟨y2,hy2,h0⟩:=h0
  refine kcall [0,8,19] [] (ledger_believe_ok hy2) rfl rfl rfl Tryz.call30 (by simp) (by simp;rfl) ?_
  refine ko [0,8,10] 1 (by simp;rfl) ?_
  refine tpN ?_
  refine trq ?_
  refine kr [0,8,10,21] (by simp;rfl) ?_
  refine trc (b:=(y2==(-1))) (by simp) (fun c2=>?_) (fun c2=>?_)
  ·rw[if_pos c2] at h0
   refine kr [8,9] (by simp;rfl) ?_
   cases h0
   exact trr ⟨[],by simp,rfl,by simp⟩
  ·rw[if_neg (by rw[c2];decide)] at h0
   refine trk ?_
   replace h0:=bnd h0;obtain⟨x3,p1,h0⟩:=h0
   replace p1:=idx_some p1
   have p1':=p1;try simp at p1'
   refine kr [8,9] (by simp[p1,p1'];rfl) ?_
   cases h0
   exact trr ⟨[],by simp,rfl,by simp⟩
theorem ledger_Changes_ok {a0:List api_Record} {a1:Int} {a2:Int} {r:(List api_Belief)×Int} (h0:ledger_Changes a0 a1 a2=some r):FnOK Tryz.prog 31 [] [.d (.slice (rowsF api_Record_row a0)),.d (.int .i64 a1),.d (.int .i64 a2)] (.tup [.d (.slice (rowsF api_Belief_row r.1)),.d (.int .i64 r.2)]) []:=by
 unfold ledger_Changes at h0
 refine fn_ok (nt:=47) (rs:=[.tmp 6,.tmp 7]) Tryz.func31 rfl Tryz.ntmps31 rfl (by simp) (by decide) rfl fun K=>?_
 refine kr [0,1,2] (by simp;rfl) ?_
 refine trq ?_
 refine kc ?_
 refine ko [0,1,2,14] 1 (by simp;rfl) ?_
 replace h0:=bnd h0;obtain⟨y1,hy1,h0⟩:=h0
 refine kcall [0,1,2,15] [] (ledger_Check_ok hy1) rfl rfl rfl Tryz.call29 (by simp) (by simp;rfl) ?_
 refine ko [0,1,2,8] 1 (by simp;rfl) ?_
 refine tpN ?_
 refine kr [0,1,2,8,17] (by simp;rfl) ?_
 refine trc (b:=(y1 != 0)) (by simp) (fun c1=>?_) (fun c1=>?_)
 ·rw[if_pos c1] at h0
  refine kr [6,7] (by simp;rfl) ?_
  cases h0
  exact trr ⟨[],by simp,rfl,by simp⟩
 ·rw[if_neg (by rw[c1];decide)] at h0
  refine trk ?_
  refine kr [0,1,2,9] (by simp;rfl) ?_
  refine kr [0,1,2,9,10] (by simp;rfl) ?_
  refine trq ?_
  refine kr [0,1,2,9,10,19,20,21] (by simp;rfl) ?_
  refine tr_wk (wk_own 9 43 48 2 (by simp) (by simp)) ?_
  replace h0:=bnd h0;obtain⟨e1,hI1,h0⟩:=h0
  refine tjv (fun v2:(List api_Belief)=>({ nt:=47,env:=[(9,.vec 43)],box:=[],vec:=[(43,⟨48,2,rowsF api_Belief_row v2⟩)]}:St)) (fun v2=>v2=e1) (fun v2 hI1e _ W1=>?_) ?_
  ·subst hI1e
   refine tr_wk W1 ?_
   refine kr [6,7] (by simp;rfl) ?_
   cases h0
   exact trr ⟨[43],by simp,rfl,by simp⟩
  ·refine trb (tr_iter (fun s3:Int×Int×(List api_Belief)=>({ nt:=47,env:=[(0,.d (.slice (rowsF api_Record_row a0))),(1,.d (.int .i64 a1)),(2,.d (.int .i64 a2)),(9,.vec 43),(10,.d (.int .i64 s3.1)),(19,.d (.slice (rowsF api_Record_row a0))),(20,.d (.int .i64 ((a0).length:Int))),(21,.d (.int .i64 s3.2.1))],box:=[],vec:=[(43,⟨48,2,rowsF api_Belief_row s3.2.2⟩)]}:St)) hI1 (wk (by simp[wkI])) fun G1 s3 o1 h1 hg1 he1=>?_)
   unfold ledger_Changes_l0 at h1
   refine kr [0,1,2,9,10,19,20,21,22] (by simp;rfl) ?_
   refine trq ?_
   refine trc (b:=(decide (s3.2.1 < ((a0).length:Int)))) (by simp) (fun c8=>?_) (fun c8=>?_)
   ·rw[if_pos c8] at h1
    refine trk ?_
    refine trq ?_
    refine trb ?_
    replace h1:=bnd h1;obtain⟨x4,p14,h1⟩:=h1
    replace p14:=idx_some p14
    have p14':=p14;try simp at p14'
    refine kr [0,1,2,9,10,12,19,20,21] (by simp[p14,p14'];rfl) ?_
    refine kc ?_
    refine ko [0,1,2,9,10,19,20,21,25,27,28,29] 5 (by simp;rfl) ?_
    replace h1:=bnd h1;obtain⟨y5,hy5,h1⟩:=h1
    refine kcall [0,1,2,9,10,19,20,21,30] [] (ledger_believe_ok hy5) rfl rfl rfl Tryz.call30 (by simp) (by simp;rfl) ?_
    refine ko [0,1,2,9,10,13,19,20,21] 1 (by simp;rfl) ?_
    refine tpN ?_
    refine kr [0,1,2,9,10,13,19,20,21,33] (by simp;rfl) ?_
    refine trc (b:=(y5 != s3.1)) (by simp) (fun c9=>?_) (fun c9=>?_)
    ·rw[if_pos c9] at h1
     replace h1:=bnd h1;obtain⟨x6,p17,h1⟩:=h1
     replace p17:=idx_some p17
     have p17':=p17;try simp at p17'
     replace h1:=bnd h1;obtain⟨_,p18,h1⟩:=h1
     replace p18:=ck_some p18
     have p18':=p18;try simp at p18'
     refine lr (by simp[p17,p18,p17',p18'];rfl) ?_
     refine lr (by simp;rfl) ?_
     exact⟨_,hg1 _ (Option.some.inj h1),wk (by simp[wkI])⟩
    ·rw[if_neg (by rw[c9];decide)] at h1
     refine trk ?_
     refine lr (by simp;rfl) ?_
     exact⟨_,hg1 _ (Option.some.inj h1),wk (by simp[wkI])⟩
   ·rw[if_neg (by rw[c8];decide)] at h1
    refine tr_exit ?_
    exact⟨_,he1 _ (Option.some.inj h1),wk (by simp[wkI])⟩
theorem ledger_Learned_ok {a0:List api_Record} {a1:Int} {a2:Int} {a3:Int} {r:Int×Bool} (h0:ledger_Learned a0 a1 a2 a3=some r):FnOK Tryz.prog 12 [] [.d (.slice (rowsF api_Record_row a0)),.d (.int .i64 a1),.d (.int .i64 a2),.d (.int .i64 a3)] (.tup [.d (.int .i64 r.1),.d (.bool r.2)]) []:=by
 unfold ledger_Learned at h0
 refine fn_ok (nt:=38) (rs:=[.tmp 8,.tmp 9]) Tryz.func12 rfl Tryz.ntmps12 rfl (by simp) (by decide) rfl fun K=>?_
 refine kr [0,1,2,3] (by simp;rfl) ?_
 refine kc ?_
 refine ko [0,3,15,16,17] 3 (by simp;rfl) ?_
 replace h0:=bnd h0;obtain⟨y1,hy1,h0⟩:=h0
 refine kcall [0,3,18] [] (ledger_Changes_ok hy1) rfl rfl rfl Tryz.call31 (by simp) (by simp;rfl) ?_
 refine ko [0,3,10] 5 (by simp;rfl) ?_
 refine tpN ?_
 refine trq ?_
 refine kr [0,3,21,22,23] (by simp;rfl) ?_
 replace h0:=bnd h0;obtain⟨e1,hI1,h0⟩:=h0
 refine tjv (fun v2:Unit=>({ nt:=38,env:=[],box:=[],vec:=[]}:St)) (fun v2=>.inl v2=e1) (fun v2 hI1e _ W1=>?_) ?_
 ·subst hI1e
  dsimp only at h0
  refine tr_wk W1 ?_
  refine kr [8,9] (by simp;rfl) ?_
  cases h0
  exact trr ⟨[],by simp,rfl,by simp⟩
 ·refine trb (tr_iter (fun s3:Int=>({ nt:=38,env:=[(0,.d (.slice (rowsF api_Record_row a0))),(3,.d (.int .i64 a3)),(21,.d (.slice (rowsF api_Belief_row y1.1))),(22,.d (.int .i64 ((y1.1).length:Int))),(23,.d (.int .i64 s3))],box:=[],vec:=[]}:St)) hI1 (wk (by simp[wkI])) fun G1 s3 o1 h1 hg1 he1=>?_)
  unfold ledger_Learned_l0 at h1
  refine kr [0,3,21,22,23,24] (by simp;rfl) ?_
  refine trq ?_
  refine trc (b:=(decide (s3 < ((y1.1).length:Int)))) (by simp) (fun c5=>?_) (fun c5=>?_)
  ·rw[if_pos c5] at h1
   refine trk ?_
   refine trq ?_
   refine trb ?_
   replace h1:=bnd h1;obtain⟨x4,p5,h1⟩:=h1
   replace p5:=idx_some p5
   have p5':=p5;try simp at p5'
   refine kr [0,3,13,21,22,23] (by simp[p5,p5'];rfl) ?_
   refine kr [0,3,13,21,22,23,30] (by simp;rfl) ?_
   refine trc (b:=(x4.Value==a3)) (by simp) (fun c6=>?_) (fun c6=>?_)
   ·rw[if_pos c6] at h1
    replace h1:=bnd h1;obtain⟨x5,p6,h1⟩:=h1
    replace p6:=idx_some p6
    have p6':=p6;try simp at p6'
    refine kr [8,9] (by simp[p6,p6'];rfl) ?_
    have k1:=he1 _ (Option.some.inj h1)
    subst k1
    dsimp only at h0
    cases h0
    exact trr ⟨[],by simp,rfl,by simp⟩
   ·rw[if_neg (by rw[c6];decide)] at h1
    refine trk ?_
    refine lr (by simp;rfl) ?_
    exact⟨_,hg1 _ (Option.some.inj h1),wk (by simp[wkI])⟩
  ·rw[if_neg (by rw[c5];decide)] at h1
   refine tr_exit ?_
   exact⟨_,he1 _ (Option.some.inj h1),wk (by simp[wkI])⟩
theorem top_TopKnown_ok {a0:List Int} {r:Bool} (h0:top_TopKnown a0=some r):FnOK Tryz.prog 3 [] [.d (.slice (rowsF (iRow .i64) a0))] (.d (.bool r)) []:=by
 unfold top_TopKnown at h0
 refine fn_ok (nt:=160) (rs:=[.tmp 2]) Tryz.func3 rfl Tryz.ntmps3 rfl (by simp) (by decide) rfl fun K=>?_
 refine kr [0] (by simp;rfl) ?_
 refine trq ?_
 refine kr [0,27] (by simp;rfl) ?_
 refine trc (b:=(decide (500 < ((a0).length:Int)))) (by simp) (fun c1=>?_) (fun c1=>?_)
 ·rw[if_pos c1] at h0
  refine kc ?_
  replace h0:=bnd h0;obtain⟨y1,hy1,h0⟩:=h0
  refine kcall [28] [] (top_awake44_ok hy1) rfl rfl rfl Tryz.call5 (by simp) (by simp;rfl) ?_
  refine ko [2] 1 (by simp;rfl) ?_
  refine tpN ?_
  cases h0
  exact trr ⟨[],by simp,rfl,by simp⟩
 ·rw[if_neg (by rw[c1];decide)] at h0
  refine trk ?_
  refine kr [3] (by simp;rfl) ?_
  refine kc ?_
  refine ko [3,32] 1 (by simp;rfl) ?_
  replace h0:=bnd h0;obtain⟨y2,hy2,h0⟩:=h0
  refine kcall [3,33] [31] (mYDirectory_ok hy2) rfl rfl rfl Tryz.call6 (by simp) (by simp;rfl) ?_
  refine ko [3,4] 2 (by simp;rfl) ?_
  refine tpN ?_
  refine kc ?_
  refine ko [3,4,34,35] 2 (by simp;rfl) ?_
  replace h0:=bnd h0;obtain⟨y3,hy3,h0⟩:=h0
  refine kcall [3,4,36] [31] (mYEstate_ok hy3) rfl rfl rfl Tryz.call7 (by simp) (by simp;rfl) ?_
  refine ko [3,4,5] 2 (by simp;rfl) ?_
  refine tpN ?_
  refine kc ?_
  refine ko [3,4,5,37] 1 (by simp;rfl) ?_
  replace h0:=bnd h0;obtain⟨y4,hy4,h0⟩:=h0
  refine kcall [3,4,5,38] [31] (zT_Next_ok hy4) rfl rfl rfl Tryz.call8 (by simp) (by simp;rfl) ?_
  refine ko [3,4,5,6] 1 (by simp;rfl) ?_
  refine tpN ?_
  refine kc ?_
  refine ko [3,4,5,6,40,41,42] 3 (by simp;rfl) ?_
  replace h0:=bnd h0;obtain⟨y5,hy5,h0⟩:=h0
  refine kcall [3,4,5,6,43] [] (exposure_All_ok hy5) rfl rfl rfl Tryz.call9 (by simp) (by simp;rfl) ?_
  refine ko [3,4,5,6,7,8] 5 (by simp;rfl) ?_
  refine tpN ?_
  refine trq ?_
  refine kr [3,4,5,6,7,47] (by simp;rfl) ?_
  refine trc (b:=(y5.2 != 0)) (by simp) (fun c2=>?_) (fun c2=>?_)
  ·rw[if_pos c2] at h0
   refine kr [2] (by simp;rfl) ?_
   cases h0
   exact trr ⟨[],by simp,rfl,by simp⟩
  ·rw[if_neg (by rw[c2];decide)] at h0
   refine trk ?_
   refine kr [3,4,5,6,7,9] (by simp;rfl) ?_
   refine kr [3,4,5,6,7,9,10] (by simp;rfl) ?_
   refine trq ?_
   refine kr [3,4,5,6,9,10,48,49,50] (by simp;rfl) ?_
   replace h0:=bnd h0;obtain⟨e1,hI1,h0⟩:=h0
   refine tjv (fun v6:(List api_Record)=>({ nt:=160,env:=[(4,.ptr 4 0),(5,.ptr 5 0),(6,.d (.int .i64 y4.1)),(9,.d (.slice (rowsF api_Record_row v6)))],box:=[(4,[.d (.slice (rowsF (iRow .i64) y2.1.Kinds)),.d (.slice (rowsF api_Member_row y2.1.Events))]),(5,[.d (.int .i64 y3.1.Places),.d (.slice (rowsF api_Access_row y3.1.Events))])],vec:=[]}:St)) (fun v6=>.inl v6=e1) (fun v6 hI1e _ W1=>?_) ?_
   ·subst hI1e
    dsimp only at h0
    refine tr_wk W1 ?_
    refine trq ?_
    refine kr [4,5,6,9,76,77,78] (by simp;rfl) ?_
    replace h0:=bnd h0;obtain⟨e2,hI2,h0⟩:=h0
    refine tjv (fun v7:Unit=>({ nt:=160,env:=[],box:=[],vec:=[]}:St)) (fun v7=>.inl v7=e2) (fun v7 hI2e _ W2=>?_) ?_
    ·subst hI2e
     dsimp only at h0
     refine tr_wk W2 ?_
     refine kc ?_
     replace h0:=bnd h0;obtain⟨y8,hy8,h0⟩:=h0
     refine kcall [159] [] (top_awake44_ok hy8) rfl rfl rfl Tryz.call5 (by simp) (by simp;rfl) ?_
     refine ko [2] 1 (by simp;rfl) ?_
     refine tpN ?_
     cases h0
     exact trr ⟨[],by simp,rfl,by simp⟩
    ·refine trb (tr_iter (fun s9:Int=>({ nt:=160,env:=[(4,.ptr 4 0),(5,.ptr 5 0),(6,.d (.int .i64 y4.1)),(9,.d (.slice (rowsF api_Record_row v6))),(76,.d (.slice (rowsF api_Record_row v6))),(77,.d (.int .i64 ((v6).length:Int))),(78,.d (.int .i64 s9))],box:=[(4,[.d (.slice (rowsF (iRow .i64) y2.1.Kinds)),.d (.slice (rowsF api_Member_row y2.1.Events))]),(5,[.d (.int .i64 y3.1.Places),.d (.slice (rowsF api_Access_row y3.1.Events))])],vec:=[]}:St)) hI2 (wk (by simp[wkI])) fun G2 s9 o2 h2 hg2 he2=>?_)
     unfold top_TopKnown_l1 at h2
     refine kr [4,5,6,9,76,77,78,79] (by simp;rfl) ?_
     refine trq ?_
     refine trc (b:=(decide (s9 < ((v6).length:Int)))) (by simp) (fun c25=>?_) (fun c25=>?_)
     ·rw[if_pos c25] at h2
      refine trk ?_
      refine trq ?_
      refine trb ?_
      replace h2:=bnd h2;obtain⟨x10,p5,h2⟩:=h2
      replace p5:=idx_some p5
      have p5':=p5;try simp at p5'
      refine kr [4,5,6,9,16,76,77,78] (by simp[p5,p5'];rfl) ?_
      refine kc ?_
      refine ko [4,5,6,9,16,76,77,78,83,85,87,89] 7 (by simp;rfl) ?_
      replace h2:=bnd h2;obtain⟨y11,hy11,h2⟩:=h2
      refine kcall [4,5,6,9,16,76,77,78,90] [] (ledger_Believe_ok hy11) rfl rfl rfl Tryz.call11 (by simp) (by simp;rfl) ?_
      refine ko [4,5,6,9,16,17,18,76,77,78] 6 (by simp;rfl) ?_
      refine tpN ?_
      refine kc ?_
      refine ko [4,5,6,9,16,17,18,76,77,78,94,97,99,101] 8 (by simp;rfl) ?_
      replace h2:=bnd h2;obtain⟨y12,hy12,h2⟩:=h2
      refine kcall [4,5,6,9,16,17,18,76,77,78,102] [] (ledger_Believe_ok hy12) rfl rfl rfl Tryz.call11 (by simp) (by simp;rfl) ?_
      refine ko [4,5,6,9,16,17,18,20,76,77,78] 6 (by simp;rfl) ?_
      refine tpN ?_
      refine kc ?_
      refine ko [4,5,6,9,16,17,18,20,76,77,78,106,108,111] 6 (by simp;rfl) ?_
      replace h2:=bnd h2;obtain⟨y13,hy13,h2⟩:=h2
      refine kcall [4,5,6,9,16,17,18,20,76,77,78,112] [] (ledger_Believe_ok hy13) rfl rfl rfl Tryz.call11 (by simp) (by simp;rfl) ?_
      refine ko [4,5,6,9,16,17,18,20,22,76,77,78] 6 (by simp;rfl) ?_
      refine tpN ?_
      refine kc ?_
      refine ko [4,5,6,9,16,17,18,20,22,76,77,78,116,118,120] 5 (by simp;rfl) ?_
      replace h2:=bnd h2;obtain⟨y14,hy14,h2⟩:=h2
      refine kcall [4,5,6,9,16,17,18,20,22,76,77,78,121] [] (ledger_Learned_ok hy14) rfl rfl rfl Tryz.call12 (by simp) (by simp;rfl) ?_
      refine ko [4,5,6,9,16,17,18,20,22,23,24,76,77,78] 5 (by simp;rfl) ?_
      refine tpN ?_
      replace h2:=bnd h2;obtain⟨v15,hvv15,h2⟩:=h2
      refine sjv (fun v15_:Bool=>({ nt:=160,env:=[(4,.ptr 4 0),(5,.ptr 5 0),(6,.d (.int .i64 y4.1)),(9,.d (.slice (rowsF api_Record_row v6))),(76,.d (.slice (rowsF api_Record_row v6))),(77,.d (.int .i64 ((v6).length:Int))),(78,.d (.int .i64 s9)),(157,.d (.bool v15_))],box:=[(4,[.d (.slice (rowsF (iRow .i64) y2.1.Kinds)),.d (.slice (rowsF api_Member_row y2.1.Events))]),(5,[.d (.int .i64 y3.1.Places),.d (.slice (rowsF api_Access_row y3.1.Events))])],vec:=[]}:St)) (fun v15_=>v15=v15_) (fun v15_ e=>?_) ?_
      ·subst e
       refine trc (b:=v15) (by simp) (fun c38=>?_) (fun c38=>?_)
       ·rw[if_pos c38] at h2
        refine kr [2] (by simp;rfl) ?_
        have k1:=he2 _ (Option.some.inj h2)
        subst k1
        dsimp only at h0
        cases h0
        exact trr ⟨[],by simp,rfl,by simp⟩
       ·rw[if_neg (by rw[c38];decide)] at h2
        refine trk ?_
        refine lr (by simp;rfl) ?_
        exact⟨_,hg2 _ (Option.some.inj h2),wk (by simp[wkI])⟩
      ·refine kc1 ?_
       refine ko [4,5,6,9,16,17,20,22,23,24,76,77,78,126] 3 (by simp;rfl) ?_
       refine tops_split 126 (!y11.2) (by simp) (fun c39=>?_) (fun c39=>?_)
       ·rw[if_pos c39] at hvv15
        refine kskip 3 [] (by kernel_rfl) ?_
        refine ko [4,5,6,9,16,23,76,77,78,132,135,138,139,141] 12 (by simp;rfl) ?_
        refine kskip 4 [] (by kernel_rfl) ?_
        refine ko [4,5,6,9,16,76,77,78,132,135,138,139,147] 2 (by simp;rfl) ?_
        refine kskip 9 [] (by kernel_rfl) ?_
        refine ko [4,5,6,9,76,77,78,132,135,138,139,157] 1 (by simp;rfl) ?_
        refine tpN ?_
        cases hvv15
        exact⟨_,rfl,wk (by simp[wkI])⟩
       ·rw[if_neg (by rw[c39];decide)] at hvv15
        refine ko [4,5,6,9,16,20,22,23,24,76,77,78,127,128,129,131] 5 (by simp;rfl) ?_
        refine tops_split 131 (y11.1.Value != 1) (by simp) (fun c40=>?_) (fun c40=>?_)
        ·rw[if_pos c40] at hvv15
         refine ko [4,5,6,9,16,23,76,77,78,127,128,129,132,135,138,139,141] 10 (by simp;rfl) ?_
         refine kskip 4 [] (by kernel_rfl) ?_
         refine ko [4,5,6,9,16,76,77,78,127,128,129,132,135,138,139,147] 2 (by simp;rfl) ?_
         refine kskip 9 [] (by kernel_rfl) ?_
         refine ko [4,5,6,9,76,77,78,127,128,129,132,135,138,139,157] 1 (by simp;rfl) ?_
         refine tpN ?_
         cases hvv15
         exact⟨_,rfl,wk (by simp[wkI])⟩
        ·rw[if_neg (by rw[c40];decide)] at hvv15
         refine ko [4,5,6,9,16,22,23,24,76,77,78,127,128,129,132,134] 3 (by simp;rfl) ?_
         refine tops_split 134 y12.2 (by simp) (fun c41=>?_) (fun c41=>?_)
         ·rw[if_pos c41] at hvv15
          refine ko [4,5,6,9,16,23,76,77,78,127,128,129,132,135,138,139,141] 7 (by simp;rfl) ?_
          refine kskip 4 [] (by kernel_rfl) ?_
          refine ko [4,5,6,9,16,76,77,78,127,128,129,132,135,138,139,147] 2 (by simp;rfl) ?_
          refine kskip 9 [] (by kernel_rfl) ?_
          refine ko [4,5,6,9,76,77,78,127,128,129,132,135,138,139,157] 1 (by simp;rfl) ?_
          refine tpN ?_
          cases hvv15
          exact⟨_,rfl,wk (by simp[wkI])⟩
         ·rw[if_neg (by rw[c41];decide)] at hvv15
          refine ko [4,5,6,9,16,23,24,76,77,78,127,128,129,132,135,137] 3 (by simp;rfl) ?_
          refine tops_split 137 y13.2 (by simp) (fun c42=>?_) (fun c42=>?_)
          ·rw[if_pos c42] at hvv15
           refine ko [4,5,6,9,16,23,76,77,78,127,128,129,132,135,138,139,141] 4 (by simp;rfl) ?_
           refine kskip 4 [] (by kernel_rfl) ?_
           refine ko [4,5,6,9,16,76,77,78,127,128,129,132,135,138,139,147] 2 (by simp;rfl) ?_
           refine kskip 9 [] (by kernel_rfl) ?_
           refine ko [4,5,6,9,76,77,78,127,128,129,132,135,138,139,157] 1 (by simp;rfl) ?_
           refine tpN ?_
           cases hvv15
           exact⟨_,rfl,wk (by simp[wkI])⟩
          ·rw[if_neg (by rw[c42];decide)] at hvv15
           refine ko [4,5,6,9,16,23,76,77,78,127,128,129,132,135,138,139,141] 4 (by simp;rfl) ?_
           refine tops_split 141 (!y14.2) (by simp) (fun c43=>?_) (fun c43=>?_)
           ·rw[if_pos c43] at hvv15
            refine kskip 4 [] (by kernel_rfl) ?_
            refine ko [4,5,6,9,16,76,77,78,127,128,129,132,135,138,139,147] 2 (by simp;rfl) ?_
            refine kskip 9 [] (by kernel_rfl) ?_
            refine ko [4,5,6,9,76,77,78,127,128,129,132,135,138,139,157] 1 (by simp;rfl) ?_
            refine tpN ?_
            cases hvv15
            exact⟨_,rfl,wk (by simp[wkI])⟩
           ·rw[if_neg (by rw[c43];decide)] at hvv15
            refine ko [4,5,6,9,16,76,77,78,127,128,129,132,135,138,139,142,143,144,145,147] 6 (by simp;rfl) ?_
            refine tops_split 147 (y14.1 != x10.Known) (by simp) (fun c44=>?_) (fun c44=>?_)
            ·rw[if_pos c44] at hvv15
             refine kskip 9 [] (by kernel_rfl) ?_
             refine ko [4,5,6,9,76,77,78,127,128,129,132,135,138,139,142,143,144,145,157] 1 (by simp;rfl) ?_
             refine tpN ?_
             cases hvv15
             exact⟨_,rfl,wk (by simp[wkI])⟩
            ·rw[if_neg (by rw[c44];decide)] at hvv15
             refine ko [4,5,6,9,76,77,78,127,128,129,132,135,138,139,142,143,144,145,147,148,149,150,151,152,153,154] 7 (by simp;rfl) ?_
             replace hvv15:=bnd hvv15;obtain⟨y16,hy16,hvv15⟩:=hvv15
             refine kcall [4,5,6,9,76,77,78,127,128,129,132,135,138,139,142,143,144,145,147,148,149,150,151,152,153,154,155] [] (exposure_Could_ok hy16) rfl rfl rfl Tryz.call13 (by simp) (by simp;rfl) ?_
             refine ko [4,5,6,9,76,77,78,127,128,129,132,135,138,139,142,143,144,145,148,149,150,151,152,153,154,155,156,157] 2 (by simp;rfl) ?_
             refine tpN ?_
             cases hvv15
             exact⟨_,rfl,wk (by simp[wkI])⟩
     ·rw[if_neg (by rw[c25];decide)] at h2
      refine tr_exit ?_
      exact⟨_,he2 _ (Option.some.inj h2),wk (by simp[wkI])⟩
   ·refine trb (tr_iter (fun s19:(List api_Record)×Int×Int×(List Int)×Int=>({ nt:=160,env:=[(3,.ptr 31 0),(4,.ptr 4 0),(5,.ptr 5 0),(6,.d (.int .i64 y4.1)),(9,.d (.slice (rowsF api_Record_row s19.1))),(10,.d (.int .i64 s19.2.1)),(48,.d (.slice (rowsF api_Exposure_row y5.1))),(49,.d (.int .i64 ((y5.1).length:Int))),(50,.d (.int .i64 s19.2.2.1))],box:=[(4,[.d (.slice (rowsF (iRow .i64) y2.1.Kinds)),.d (.slice (rowsF api_Member_row y2.1.Events))]),(5,[.d (.int .i64 y3.1.Places),.d (.slice (rowsF api_Access_row y3.1.Events))]),(31,[.d (.slice (rowsF (iRow .i64) s19.2.2.2.1)),.d (.int .i64 s19.2.2.2.2)])],vec:=[]}:St)) hI1 (wk (by simp[wkI])) fun G2 s19 o2 h2 hg2 he2=>?_)
    unfold top_TopKnown_l0 at h2
    refine kr [3,4,5,6,9,10,48,49,50,51] (by simp;rfl) ?_
    refine trq ?_
    refine trc (b:=(decide (s19.2.2.1 < ((y5.1).length:Int)))) (by simp) (fun c45=>?_) (fun c45=>?_)
    ·rw[if_pos c45] at h2
     refine trk ?_
     refine trq ?_
     refine trb ?_
     replace h2:=bnd h2;obtain⟨x20,p6,h2⟩:=h2
     replace p6:=idx_some p6
     have p6':=p6;try simp at p6'
     refine kr [3,4,5,6,9,10,12,48,49,50] (by simp[p6,p6'];rfl) ?_
     refine trq ?_
     refine kr [3,4,5,6,9,10,12,48,49,50,56] (by simp;rfl) ?_
     refine trc (b:=(decide (x20.Principal < 0))) (by simp) (fun c46=>?_) (fun c46=>?_)
     ·rw[if_pos c46] at h2
      refine tr_exit ?_
      refine lr (by simp;rfl) ?_
      exact⟨_,hg2 _ (Option.some.inj h2),wk (by simp[wkI])⟩
     ·rw[if_neg (by rw[c46];decide)] at h2
      refine trk ?_
      refine kc ?_
      refine ko [3,4,5,6,9,12,48,49,50,57,58] 2 (by simp;rfl) ?_
      replace h2:=bnd h2;obtain⟨y21,hy21,h2⟩:=h2
      refine kcall [3,4,5,6,9,12,48,49,50,57,59] [31] (zT_Next_ok hy21) rfl rfl rfl Tryz.call8 (by simp) (by simp;rfl) ?_
      refine ko [3,4,5,6,9,10,12,48,49,50] 2 (by simp;rfl) ?_
      refine tpN ?_
      refine kc ?_
      refine ko [3,4,5,6,10,48,49,50,62,68] 7 (by simp;rfl) ?_
      replace h2:=bnd h2;obtain⟨y22,hy22,h2⟩:=h2
      refine kcall [3,4,5,6,10,48,49,50,69] [] (ledger_Append_ok hy22) rfl rfl rfl Tryz.call10 (by simp) (by simp;rfl) ?_
      refine ko [3,4,5,6,10,13,14,48,49,50] 5 (by simp;rfl) ?_
      refine tpN ?_
      refine trq ?_
      refine kr [3,4,5,6,10,13,48,49,50,73] (by simp;rfl) ?_
      refine trc (b:=(y22.2 != 0)) (by simp) (fun c47=>?_) (fun c47=>?_)
      ·rw[if_pos c47] at h2
       refine kr [2] (by simp;rfl) ?_
       have k1:=he2 _ (Option.some.inj h2)
       subst k1
       dsimp only at h0
       cases h0
       exact trr ⟨[],by simp,rfl,by simp⟩
      ·rw[if_neg (by rw[c47];decide)] at h2
       refine trk ?_
       refine lr (by simp;rfl) ?_
       refine lr (by simp;rfl) ?_
       exact⟨_,hg2 _ (Option.some.inj h2),wk (by simp[wkI])⟩
    ·rw[if_neg (by rw[c45];decide)] at h2
     refine tr_exit ?_
     exact⟨_,he2 _ (Option.some.inj h2),wk (by simp[wkI])⟩
end Go.Vl
