/- Plain functions that mirror functions of the given program. Conditions: none. -/
import Derived.Test.YthpiljonjcfgcaaDoorKRx
import Derived.Test.YthpiljonjcfgcaaDoorKg3
import Derived.Test.YthpiljonjcfgcaaDoorVmSl
import Derived.Test.YthpiljonjcfgcaaDoorKq
import Derived.Test.YthpiljonjcfgcaaDoorTyK
set_option maxHeartbeats 1000000
set_option linter.unusedSimpArgs false
set_option linter.unusedVariables false
namespace Go.Vl
open Go
noncomputable def zT_Next (a0:zT) (a1:Int):Option (Int×zT):=
 if(decide (((a0.L).length:Int)≤a0.at_))=true then
  some (0,a0)
 else
 (idx a0.L a0.at_).bind fun x1=>
 (ck (a1≠0)).bind fun _=>
 some (((bAnd .i64 x1 65535)).tmod a1,(⟨a0.L,IntKind.i64.wrap (a0.at_+1)⟩:zT))
noncomputable def zT_Between (a0:zT) (a1:Int) (a2:Int):Option (Int×zT):=
 (zT_Next a0 (IntKind.i64.wrap ((IntKind.i64.wrap (a2 - a1))+1))).bind fun y1=>
 some (IntKind.i64.wrap (a1+y1.1),y1.2)
noncomputable def mYRights_l2 (y1:Int×zT) (s9:Int×(List Int)×Int×(List api_Mint)):Option (Lp (Int×(List Int)×Int×(List api_Mint)) ((List Int)×Int×(List api_Mint))):=
 if(decide (0 < s9.1))=true then
  (zT_Next (⟨s9.2.1,s9.2.2.1⟩:zT) y1.1).bind fun y10=>
  (zT_Next y10.2 y1.1).bind fun y11=>
  (ck ((s9.2.2.2).length+([(⟨y10.1,y11.1⟩:api_Mint)]).length≤268435456)).bind fun _=>
  some (.go (IntKind.i64.wrap (s9.1 - 1),y11.2.L,y11.2.at_,(s9.2.2.2++[(⟨y10.1,y11.1⟩:api_Mint)])))
 else
  some (.out (s9.2.1,s9.2.2.1,s9.2.2.2))
noncomputable def mYRights_l1 (y2:Int×zT) (y1:Int×zT) (s12:Int×(List Int)×Int×(List api_Store)):Option (Lp (Int×(List Int)×Int×(List api_Store)) ((List Int)×Int×(List api_Store))):=
 if(decide (0 < s12.1))=true then
  (zT_Next (⟨s12.2.1,s12.2.2.1⟩:zT) y2.1).bind fun y13=>
  (zT_Next y13.2 y1.1).bind fun y14=>
  (ck ((s12.2.2.2).length+([(⟨y13.1,y14.1⟩:api_Store)]).length≤268435456)).bind fun _=>
  some (.go (IntKind.i64.wrap (s12.1 - 1),y14.2.L,y14.2.at_,(s12.2.2.2++[(⟨y13.1,y14.1⟩:api_Store)])))
 else
  some (.out (s12.2.1,s12.2.2.1,s12.2.2.2))
noncomputable def mYRights_l0 (y1:Int×zT) (y2:Int×zT) (s15:Int×(List Int)×Int×(List api_Grant)):Option (Lp (Int×(List Int)×Int×(List api_Grant)) ((List Int)×Int×(List api_Grant))):=
 if(decide (0 < s15.1))=true then
  (zT_Next (⟨s15.2.1,s15.2.2.1⟩:zT) y1.1).bind fun y16=>
  (zT_Next y16.2 y2.1).bind fun y17=>
  (zT_Between y17.2 1 3).bind fun y18=>
  (ck ((s15.2.2.2).length+([(⟨y16.1,y17.1,y18.1⟩:api_Grant)]).length≤268435456)).bind fun _=>
  some (.go (IntKind.i64.wrap (s15.1 - 1),y18.2.L,y18.2.at_,(s15.2.2.2++[(⟨y16.1,y17.1,y18.1⟩:api_Grant)])))
 else
  some (.out (s15.2.1,s15.2.2.1,s15.2.2.2))
noncomputable def mYRights (a0:zT):Option (api_Rights×zT):=
 (zT_Between a0 1 6).bind fun y1=>
 (zT_Between y1.2 1 5).bind fun y2=>
 (zT_Next y2.2 8).bind fun y3=>
 (iter (mYRights_l0 y1 y2) (y3.1,y3.2.L,y3.2.at_,[])).bind fun v4=>
 (zT_Next (⟨v4.1,v4.2.1⟩:zT) 5).bind fun y5=>
 (iter (mYRights_l1 y2 y1) (y5.1,y5.2.L,y5.2.at_,[])).bind fun v6=>
 (zT_Next (⟨v6.1,v6.2.1⟩:zT) 4).bind fun y7=>
 (iter (mYRights_l2 y1) (y7.1,y7.2.L,y7.2.at_,[])).bind fun v8=>
 some ((⟨y1.1,y2.1,v4.2.2,v6.2.2,v8.2.2⟩:api_Rights),(⟨v8.1,v8.2.1⟩:zT))
noncomputable def mYPick (a0:zT) (a1:List Int):Option (Int×zT):=
 (zT_Next a0 ((a1).length:Int)).bind fun y1=>
 (idx a1 y1.1).bind fun x2=>
 some (x2,y1.2)
noncomputable def mYWorths_l0 (a1:Int) (s2:Int×(List Int)×Int×(List Int)):Option (Lp (Int×(List Int)×Int×(List Int)) ((List Int)×Int×(List Int))):=
 if(decide (s2.1 < a1))=true then
  (mYPick (⟨s2.2.1,s2.2.2.1⟩:zT) [0,1,10,50,100]).bind fun y3=>
  (ck ((s2.2.2.2).length+([y3.1]).length≤268435456)).bind fun _=>
  some (.go (IntKind.i64.wrap (s2.1+1),y3.2.L,y3.2.at_,(s2.2.2.2++[y3.1])))
 else
  some (.out (s2.2.1,s2.2.2.1,s2.2.2.2))
noncomputable def mYWorths (a0:zT) (a1:Int):Option ((List Int)×zT):=
 (iter (mYWorths_l0 a1) (0,a0.L,a0.at_,[])).bind fun v1=>
 some (v1.2.2,(⟨v1.1,v1.2.1⟩:zT))
noncomputable def severity_Worth_1 (a0:Int):Option (Bool):=
 (some ((decide (a0 < 0))||(decide (100 < a0)))).bind fun v1=>
 some v1
noncomputable def sYIndexFunc_int_at_severity_Worth_1_l0 (a0:List Int) (s2:Int):Option (Lp Int (Unit ⊕ Int)):=
 if(decide (s2 < ((a0).length:Int)))=true then
  (idx a0 s2).bind fun x3=>
  (severity_Worth_1 x3).bind fun y4=>
  if y4=true then
   some (.out (.inr s2))
  else
   some (.go (IntKind.i64.wrap (s2+1)))
 else
  some (.out (.inl ()))
noncomputable def sYIndexFunc_int_at_severity_Worth_1 (a0:List Int):Option (Int):=
 (iter (sYIndexFunc_int_at_severity_Worth_1_l0 a0) 0).bind fun q6=>
 match q6 with
 | .inl v1=>
  some (-1)
 | .inr r5=>
  some r5
noncomputable def sYContainsFunc_int_at_severity_Worth_1 (a0:List Int):Option (Bool):=
 (sYIndexFunc_int_at_severity_Worth_1 a0).bind fun y1=>
 some (decide (0≤y1))
noncomputable def severity_Worth_l0 (y4:(List Int)) (a1:List Int) (s6:Int×Int):Option (Lp (Int×Int) Int):=
 if(decide (s6.2 < ((y4).length:Int)))=true then
  (idx y4 s6.2).bind fun x7=>
  (idx a1 s6.2).bind fun x8=>
  some (.go (IntKind.i64.wrap (s6.1+(IntKind.i64.wrap (x8 * x7))),IntKind.i64.wrap (s6.2+1)))
 else
  some (.out s6.1)
noncomputable def severity_Worth (a0:api_Rights) (a1:List Int) (a2:Int):Option (Int×Int):=
 (rights_Check a0).bind fun y1=>
 if(y1 != 0)=true then
  some (0,y1)
 else
 Option.bind (
  if(((a1).length:Int) != a0.Resources)=true then
   some true
  else
  (sYContainsFunc_int_at_severity_Worth_1 a1).bind fun y9=>
  some y9) fun v2=>
 if v2=true then
  some (0,2)
 else
 (some ((decide (a2 < 0))||(decide (a0.Credentials≤a2)))).bind fun v3=>
 if v3=true then
  some (0,6)
 else
 (rights_Power a0 a2).bind fun y4=>
 (iter (severity_Worth_l0 y4 a1) (0,0)).bind fun v5=>
 some (v5,0)
noncomputable def severity_Rate_j0 (y1:Int×Int) (v3:Int):Option (api_Severity×Int):=
 (severity_Level (IntKind.i64.wrap (y1.1 * v3))).bind fun y4=>
 some ((⟨y4,y1.1,v3,IntKind.i64.wrap (y1.1 * v3)⟩:api_Severity),0)
noncomputable def severity_Rate (a0:api_Rights) (a1:List Int) (a2:Int) (a3:Int) (a4:Bool):Option (api_Severity×Int):=
 (severity_Worth a0 a1 a2).bind fun y1=>
 if(y1.2 != 0)=true then
  some ((⟨0,0,0,0⟩:api_Severity),y1.2)
 else
 (some ((decide (a3 < 0))||(decide (24 < a3)))).bind fun v2=>
 if v2=true then
  some ((⟨0,0,0,0⟩:api_Severity),2)
 else
 if a4=true then
  severity_Rate_j0 y1 100
 else
  severity_Rate_j0 y1 (IntKind.i64.wrap (1+a3))
noncomputable def rights_Proves_l0 (a4:List api_Link) (a0:api_Rights) (s8:Int×Int):Option (Lp (Int×Int) (Int ⊕ Bool)):=
 if(decide (s8.2 < ((((a4).take (Int.toNat (IntKind.i64.wrap (((a4).length:Int) - 1))))).length:Int)))=true then
  (idx ((a4).take (Int.toNat (IntKind.i64.wrap (((a4).length:Int) - 1)))) s8.2).bind fun x9=>
  (rights_follow a0 s8.1 x9).bind fun y10=>
  if(!y10.2)=true then
   some (.out (.inr false))
  else
   some (.go (y10.1,IntKind.i64.wrap (s8.2+1)))
 else
  some (.out (.inl s8.1))
noncomputable def rights_Proves (a0:api_Rights) (a1:Int) (a2:Int) (a3:Int) (a4:List api_Link):Option (Bool):=
 Option.bind (
  (rights_Check a0).bind fun y13=>
  if(y13 != 0)=true then
   some true
  else
  (rights_credential a0 a1).bind fun y14=>
  if(!y14)=true then
   some true
  else
  (rights_resource a0 a2).bind fun y15=>
  if(!y15)=true then
   some true
  else
  (rights_among a3 1 3).bind fun y16=>
  if(!y16)=true then
   some true
  else
   some (((a4).length:Int)==0)) fun v1=>
 if v1=true then
  some false
 else
 (ck (0≤0∧0≤IntKind.i64.wrap (((a4).length:Int) - 1)∧IntKind.i64.wrap (((a4).length:Int) - 1)≤((a4).length:Int))).bind fun _=>
 (iter (rights_Proves_l0 a4 a0) (a1,0)).bind fun q12=>
 match q12 with
 | .inl v2=>
  (idx a4 (IntKind.i64.wrap (((a4).length:Int) - 1))).bind fun x3=>
  Option.bind (
   if(x3.Kind != 3)=true then
    some true
   else
   if(x3.Store != (-1))=true then
    some true
   else
   if(x3.Mint != (-1))=true then
    some true
   else
   (rights_among x3.Grant 0 (IntKind.i64.wrap (((a0.Grants).length:Int) - 1))).bind fun y7=>
   some (!y7)) fun v4=>
  if v4=true then
   some false
  else
  (idx a0.Grants x3.Grant).bind fun x5=>
  (some ((x5.Credential==v2)&&((x5.Resource==a2)&&(decide (a3≤x5.Right))))).bind fun v6=>
  some v6
 | .inr r11=>
  some r11
noncomputable def mYFew_l0 (a1:Int) (a2:Int) (s2:Int×(List Int)×Int×(List Int)):Option (Lp (Int×(List Int)×Int×(List Int)) ((List Int)×Int×(List Int))):=
 if(decide (s2.1 < a1))=true then
  (zT_Next (⟨s2.2.1,s2.2.2.1⟩:zT) a2).bind fun y3=>
  if(y3.1==(IntKind.i64.wrap (a2 - 1)))=true then
   (ck ((s2.2.2.2).length+([s2.1]).length≤268435456)).bind fun _=>
   some (.go (IntKind.i64.wrap (s2.1+1),y3.2.L,y3.2.at_,(s2.2.2.2++[s2.1])))
  else
   some (.go (IntKind.i64.wrap (s2.1+1),y3.2.L,y3.2.at_,s2.2.2.2))
 else
  some (.out (s2.2.1,s2.2.2.1,s2.2.2.2))
noncomputable def mYFew (a0:zT) (a1:Int) (a2:Int):Option ((List Int)×zT):=
 (iter (mYFew_l0 a1 a2) (0,a0.L,a0.at_,[])).bind fun v1=>
 some (v1.2.2,(⟨v1.1,v1.2.1⟩:zT))
noncomputable def ref23_Has_l0 (a0:List Int) (a1:Int) (s2:Int):Option (Lp Int (Unit ⊕ Bool)):=
 if(decide (s2 < ((a0).length:Int)))=true then
  (idx a0 s2).bind fun x3=>
  if(x3==a1)=true then
   some (.out (.inr true))
  else
   some (.go (IntKind.i64.wrap (s2+1)))
 else
  some (.out (.inl ()))
noncomputable def ref23_Has (a0:List Int) (a1:Int):Option (Bool):=
 (iter (ref23_Has_l0 a0 a1) 0).bind fun q5=>
 match q5 with
 | .inl v1=>
  some false
 | .inr r4=>
  some r4
noncomputable def top_TopBehind_l2 (y15:(List Int)) (y3:(List Int)×zT) (s17:Int×Int):Option (Lp (Int×Int) Int):=
 if(decide (s17.2 < ((y15).length:Int)))=true then
  (idx y15 s17.2).bind fun x18=>
  (idx y3.1 s17.2).bind fun x19=>
  some (.go (IntKind.i64.wrap (s17.1+(IntKind.i64.wrap (x18 * x19))),IntKind.i64.wrap (s17.2+1)))
 else
  some (.out s17.1)
noncomputable def top_TopBehind_l1 (y2:api_Rights×zT) (y4:Int×zT) (y3:(List Int)×zT) (y6:api_Severity×Int) (s12:Int×(List Int)×Int):Option (Lp (Int×(List Int)×Int) (Unit ⊕ Bool)):=
 if(decide (s12.1 < 5))=true then
  (mYFew (⟨s12.2.1,s12.2.2⟩:zT) y2.1.Credentials 2).bind fun y13=>
  Option.bind (
   (ref23_Has y13.1 y4.1).bind fun y20=>
   if(!y20)=true then
    some true
   else
   (rights_Closed y2.1 y13.1).bind fun y21=>
   some (!y21)) fun v14=>
  if v14=true then
   some (.go (IntKind.i64.wrap (s12.1+1),y13.2.L,y13.2.at_))
  else
  (rights_Bound y2.1 y13.1).bind fun y15=>
  if(((y15).length:Int) != y2.1.Resources)=true then
   some (.out (.inr false))
  else
  (iter (top_TopBehind_l2 y15 y3) (0,0)).bind fun v16=>
  if(decide (v16 < y6.1.Worth))=true then
   some (.out (.inr false))
  else
   some (.go (IntKind.i64.wrap (s12.1+1),y13.2.L,y13.2.at_))
 else
  some (.out (.inl ()))
noncomputable def top_TopBehind_l0 (y7:(List Int)) (y2:api_Rights×zT) (y4:Int×zT) (y3:(List Int)×zT) (s24:Int×Int):Option (Lp (Int×Int) (Int ⊕ Bool)):=
 if(decide (s24.2 < ((y7).length:Int)))=true then
  (idx y7 s24.2).bind fun x25=>
  (rights_Why y2.1 y4.1 s24.2).bind fun y26=>
  Option.bind (
   if(y26.2 != (decide (0 < x25)))=true then
    some true
   else
   if y26.2=true then
    (rights_Proves y2.1 y4.1 s24.2 x25 y26.1).bind fun y29=>
    some (!y29)
   else
    some false) fun v27=>
  if v27=true then
   some (.out (.inr false))
  else
  (idx y3.1 s24.2).bind fun x28=>
  some (.go (IntKind.i64.wrap (s24.1+(IntKind.i64.wrap (x25 * x28))),IntKind.i64.wrap (s24.2+1)))
 else
  some (.out (.inl s24.1))
noncomputable def top_TopBehind (a0:List Int):Option (Bool):=
 if(decide (400 < ((a0).length:Int)))=true then
  (top_awake31).bind fun y1=>
  some y1
 else
 (mYRights (⟨a0,0⟩:zT)).bind fun y2=>
 (mYWorths y2.2 y2.1.Resources).bind fun y3=>
 (zT_Next y3.2 y2.1.Credentials).bind fun y4=>
 (zT_Next y4.2 10).bind fun y5=>
 (severity_Rate y2.1 y3.1 y4.1 y5.1 false).bind fun y6=>
 (rights_Power y2.1 y4.1).bind fun y7=>
 (some ((y6.2 != 0)||(((y7).length:Int) != y2.1.Resources))).bind fun v8=>
 if v8=true then
  some false
 else
 (iter (top_TopBehind_l0 y7 y2 y4 y3) (0,0)).bind fun q31=>
 match q31 with
 | .inl v9=>
  if(y6.1.Worth != v9)=true then
   some false
  else
  (iter (top_TopBehind_l1 y2 y4 y3 y6) (0,y5.2.L,y5.2.at_)).bind fun q23=>
  match q23 with
  | .inl v10=>
   (top_awake31).bind fun y11=>
   some y11
  | .inr r22=>
   some r22
 | .inr r30=>
  some r30
end Go.Vl
namespace Go.Vl
open Go Go.Proofs
theorem zT_Next_ok {a0:zT} {a1:Int} {r:Int×zT} (h0:zT_Next a0 a1=some r):FnOK Tryd.prog 7 [zTa a0] [.ptr (InO 0) 0,.d (.int .i64 a1)] (.d (.int .i64 r.1)) [zTa r.2]:=by
 unfold zT_Next at h0
 refine fn_ok (nt:=37) (rs:=[.tmp 4]) Tryd.func7 rfl Tryd.ntmps7 rfl (by simp) (by decide) rfl fun K=>?_
 refine kr [0,1] (by simp;rfl) ?_
 refine trq ?_
 refine kd [[],[0],[1],[2],[],[4],[5],[6],[7],[3,8]] [] [] none [] 10 fol (by decide +kernel) (by simp) ?_
 refine dr_go 0 2 rfl (by simp (maxSteps:=1000000);rfl) ?_
 refine dr_go 2 2 rfl (by simp (maxSteps:=1000000);rfl) ?_
 refine dr_go 4 2 rfl (by simp (maxSteps:=1000000);rfl) ?_
 refine dr_go 6 2 rfl (by simp (maxSteps:=1000000);rfl) ?_
 refine dr_go 8 2 rfl (by simp (maxSteps:=1000000);rfl) ?_
 refine dr_end rfl (tpN ?_)
 refine trc (b:=(decide (((a0.L).length:Int)≤a0.at_))) (by simp) (fun c1=>?_) (fun c1=>?_)
 ·rw[if_pos c1] at h0
  refine kr [4] (by simp;rfl) ?_
  cases h0
  exact trr ⟨[],by simp,rfl,by simp⟩
 ·rw[if_neg (by rw[c1];decide)] at h0
  refine trk ?_
  refine kd [[],[0],[1],[2],[],[4],[5],[6],[3,7],[8],[9],[10]] [] [] none [] 12 fol (by decide +kernel) (by simp) ?_
  replace h0:=bnd h0;obtain⟨x1,p3,h0⟩:=h0
  replace p3:=idx_some p3
  have p3':=p3;try simp at p3'
  refine dr_go 0 2 rfl (by simp (maxSteps:=1000000) [p3,p3'];rfl) ?_
  refine dr_go 2 2 rfl (by simp (maxSteps:=1000000) [p3,p3'];rfl) ?_
  refine dr_go 4 2 rfl (by simp (maxSteps:=1000000) [p3,p3'];rfl) ?_
  refine dr_go 6 2 rfl (by simp (maxSteps:=1000000) [p3,p3'];rfl) ?_
  refine dr_go 8 2 rfl (by simp (maxSteps:=1000000) [p3,p3'];rfl) ?_
  refine dr_go 10 2 rfl (by simp (maxSteps:=1000000) [p3,p3'];rfl) ?_
  refine dr_end rfl (tpN ?_)
  refine kr [1,5] (by simp;rfl) ?_
  replace h0:=bnd h0;obtain⟨_,p4,h0⟩:=h0
  replace p4:=ck_some p4
  have p4':=p4;try simp at p4'
  refine kr [4] (by simp[p4,p4'];rfl) ?_
  cases h0
  exact trr ⟨[],by simp,rfl,by simp⟩
theorem zT_Between_ok {a0:zT} {a1:Int} {a2:Int} {r:Int×zT} (h0:zT_Between a0 a1 a2=some r):FnOK Tryd.prog 17 [zTa a0] [.ptr (InO 0) 0,.d (.int .i64 a1),.d (.int .i64 a2)] (.d (.int .i64 r.1)) [zTa r.2]:=by
 unfold zT_Between at h0
 refine fn_ok (nt:=15) (rs:=[.tmp 6]) Tryd.func17 rfl Tryd.ntmps17 rfl (by simp) (by decide) rfl fun K=>?_
 refine kr [0,1,2] (by simp;rfl) ?_
 refine kc ?_
 refine ko [7,8,12] 6 (by simp;rfl) ?_
 replace h0:=bnd h0;obtain⟨y1,hy1,h0⟩:=h0
 refine kcall [7,13] [1000000] (zT_Next_ok hy1) rfl rfl rfl Tryd.call7 (by simp) (by simp;rfl) ?_
 refine ko [6] 2 (by simp;rfl) ?_
 refine tpN ?_
 cases h0
 exact trr ⟨[],by simp,rfl,by simp⟩
theorem mYRights_ok {a0:zT} {r:api_Rights×zT} (h0:mYRights a0=some r):FnOK Tryd.prog 5 [zTa a0] [.ptr (InO 0) 0] (.agg (api_Rights_av r.1)) [zTa r.2]:=by
 unfold mYRights at h0
 refine fn_ok (nt:=75) (rs:=[.cell 2 31]) Tryd.func5 rfl Tryd.ntmps5 rfl (by simp) (by decide) rfl fun K=>?_
 refine kr [0,2] (by simp;rfl) ?_
 refine kc ?_
 refine ko [0,2,7] 1 (by simp;rfl) ?_
 replace h0:=bnd h0;obtain⟨y1,hy1,h0⟩:=h0
 refine kcall [0,2,8] [1000000] (zT_Between_ok hy1) rfl rfl rfl Tryd.call17 (by simp) (by simp;rfl) ?_
 refine ko [0,2,8,9] 1 (by simp;rfl) ?_
 replace h0:=bnd h0;obtain⟨y2,hy2,h0⟩:=h0
 refine kcall [0,2,8,10] [1000000] (zT_Between_ok hy2) rfl rfl rfl Tryd.call17 (by simp) (by simp;rfl) ?_
 refine ko [0,2,3] 3 (by simp;rfl) ?_
 refine tpN ?_
 refine trq ?_
 refine kc ?_
 refine ko [0,2,3,12] 1 (by simp;rfl) ?_
 replace h0:=bnd h0;obtain⟨y3,hy3,h0⟩:=h0
 refine kcall [0,2,3,13] [1000000] (zT_Next_ok hy3) rfl rfl rfl Tryd.call7 (by simp) (by simp;rfl) ?_
 refine ko [0,2,3,4] 1 (by simp;rfl) ?_
 refine tpN ?_
 refine tr_wk (wk_ownbox 3 2 32 67 3 (by simp;rfl) (by simp) (by simp)) ?_
 replace h0:=bnd h0;obtain⟨e1,hI1,h0⟩:=h0
 refine tjv (fun v4:(List Int)×Int×(List api_Grant)=>({ nt:=75,env:=[(0,.ptr 1000000 0),(2,.ptr 2 0),(3,.ptr 3 0)],box:=[(2,[.d (.int .i64 0),.d (.int .i64 0),.nilS,.nilS,.nilS]),(3,[.d (.int .i64 y1.1),.d (.int .i64 y2.1),.vec 32,.nilS,.nilS]),(1000000,[.d (.slice (rowsF (iRow .i64) v4.1)),.d (.int .i64 v4.2.1)])],vec:=[(32,⟨67,3,rowsF api_Grant_row v4.2.2⟩)]}:St)) (fun v4=>v4=e1) (fun v4 hI1e _ W1=>?_) ?_
 ·subst hI1e
  refine tr_wk W1 ?_
  refine trq ?_
  refine kc ?_
  refine ko [0,2,3,34] 1 (by simp;rfl) ?_
  replace h0:=bnd h0;obtain⟨y5,hy5,h0⟩:=h0
  refine kcall [0,2,3,35] [1000000] (zT_Next_ok hy5) rfl rfl rfl Tryd.call7 (by simp) (by simp;rfl) ?_
  refine ko [0,2,3,5] 1 (by simp;rfl) ?_
  refine tpN ?_
  refine tr_wk (wk_ownbox 3 3 52 69 2 (by simp;rfl) (by simp) (by simp)) ?_
  replace h0:=bnd h0;obtain⟨e2,hI2,h0⟩:=h0
  refine tjv (fun v6:(List Int)×Int×(List api_Store)=>({ nt:=75,env:=[(0,.ptr 1000000 0),(2,.ptr 2 0),(3,.ptr 3 0)],box:=[(2,[.d (.int .i64 0),.d (.int .i64 0),.nilS,.nilS,.nilS]),(3,[.d (.int .i64 y1.1),.d (.int .i64 y2.1),.vec 32,.vec 52,.nilS]),(1000000,[.d (.slice (rowsF (iRow .i64) v6.1)),.d (.int .i64 v6.2.1)])],vec:=[(32,⟨67,3,rowsF api_Grant_row v4.2.2⟩),(52,⟨69,2,rowsF api_Store_row v6.2.2⟩)]}:St)) (fun v6=>v6=e2) (fun v6 hI2e _ W2=>?_) ?_
  ·subst hI2e
   refine tr_wk W2 ?_
   refine trq ?_
   refine kc ?_
   refine ko [0,2,3,54] 1 (by simp;rfl) ?_
   replace h0:=bnd h0;obtain⟨y7,hy7,h0⟩:=h0
   refine kcall [0,2,3,55] [1000000] (zT_Next_ok hy7) rfl rfl rfl Tryd.call7 (by simp) (by simp;rfl) ?_
   refine ko [0,2,3,6] 1 (by simp;rfl) ?_
   refine tpN ?_
   refine tr_wk (wk_ownbox 3 4 72 71 2 (by simp;rfl) (by simp) (by simp)) ?_
   replace h0:=bnd h0;obtain⟨e3,hI3,h0⟩:=h0
   refine tjv (fun v8:(List Int)×Int×(List api_Mint)=>({ nt:=75,env:=[(2,.ptr 2 0),(3,.ptr 3 0)],box:=[(2,[.d (.int .i64 0),.d (.int .i64 0),.nilS,.nilS,.nilS]),(3,[.d (.int .i64 y1.1),.d (.int .i64 y2.1),.vec 32,.vec 52,.vec 72]),(1000000,[.d (.slice (rowsF (iRow .i64) v8.1)),.d (.int .i64 v8.2.1)])],vec:=[(32,⟨67,3,rowsF api_Grant_row v4.2.2⟩),(52,⟨69,2,rowsF api_Store_row v6.2.2⟩),(72,⟨71,2,rowsF api_Mint_row v8.2.2⟩)]}:St)) (fun v8=>v8=e3) (fun v8 hI3e _ W3=>?_) ?_
   ·subst hI3e
    refine tr_wk W3 ?_
    refine kr [2] (by simp;rfl) ?_
    cases h0
    exact trr ⟨[32,52,72],by simp,rfl,by simp⟩
   ·refine trb (tr_iter (fun s9:Int×(List Int)×Int×(List api_Mint)=>({ nt:=75,env:=[(0,.ptr 1000000 0),(2,.ptr 2 0),(3,.ptr 3 0),(6,.d (.int .i64 s9.1))],box:=[(2,[.d (.int .i64 0),.d (.int .i64 0),.nilS,.nilS,.nilS]),(3,[.d (.int .i64 y1.1),.d (.int .i64 y2.1),.vec 32,.vec 52,.vec 72]),(1000000,[.d (.slice (rowsF (iRow .i64) s9.2.1)),.d (.int .i64 s9.2.2.1)])],vec:=[(32,⟨67,3,rowsF api_Grant_row v4.2.2⟩),(52,⟨69,2,rowsF api_Store_row v6.2.2⟩),(72,⟨71,2,rowsF api_Mint_row s9.2.2.2⟩)]}:St)) hI3 (wk (by simp[wkI])) fun G3 s9 o3 h3 hg3 he3=>?_)
    unfold mYRights_l2 at h3
    refine trq ?_
    refine kr [0,2,3,6,57] (by simp;rfl) ?_
    refine trc (b:=(decide (0 < s9.1))) (by simp) (fun c10=>?_) (fun c10=>?_)
    ·rw[if_pos c10] at h3
     refine trk ?_
     refine trq ?_
     refine trb ?_
     refine tr_wk (wk_ren 72 700072) ?_
     refine kd1 [[],[0],[],[],[3],[2,4],[],[],[7],[5,6,8],[4,5,8,9],[4,5,8,10],[1,4,5,8,9,11],[12],[1,4,8,12,13]] [5,9,12,14] [(3,[12,14]),(1000000,[5,9,12])] (some (12,700072)) [61] 15 fol (by decide +kernel) (by simp) ?_
     refine dr_go 0 2 rfl (by simp (maxSteps:=1000000);rfl) ?_
     refine dr_go 2 2 rfl (by simp (maxSteps:=1000000);rfl) ?_
     refine dr_go 4 1 rfl (by simp (maxSteps:=1000000);rfl) ?_
     replace h3:=bnd h3;obtain⟨y10,hy10,h3⟩:=h3
     refine dr_call 5 [1000000] (zT_Next_ok hy10) rfl rfl rfl rfl rfl Tryd.call7 (by simp) ?_
     refine dr_go 6 2 rfl (by simp (maxSteps:=1000000);rfl) ?_
     refine dr_go 8 1 rfl (by simp (maxSteps:=1000000);rfl) ?_
     replace h3:=bnd h3;obtain⟨y11,hy11,h3⟩:=h3
     refine dr_call 9 [1000000] (zT_Next_ok hy11) rfl rfl rfl rfl rfl Tryd.call7 (by simp) ?_
     replace h3:=bnd h3;obtain⟨_,p28,h3⟩:=h3
     replace p28:=ck_some p28
     have p28':=p28;try simp at p28'
     refine dr_go 10 2 rfl (by simp (maxSteps:=1000000) [p28,p28'];rfl) ?_
     refine dr_go 12 2 rfl (by simp (maxSteps:=1000000) [p28,p28'];rfl) ?_
     refine dr_go 14 1 rfl (by simp (maxSteps:=1000000) [p28,p28'];rfl) ?_
     refine dr_end rfl (tpN ?_)
     refine lr (by simp;rfl) ?_
     exact⟨_,hg3 _ (Option.some.inj h3),wk (by simp[wkI])⟩
    ·rw[if_neg (by rw[c10];decide)] at h3
     refine tr_exit ?_
     exact⟨_,he3 _ (Option.some.inj h3),wk (by simp[wkI])⟩
  ·refine trb (tr_iter (fun s12:Int×(List Int)×Int×(List api_Store)=>({ nt:=75,env:=[(0,.ptr 1000000 0),(2,.ptr 2 0),(3,.ptr 3 0),(5,.d (.int .i64 s12.1))],box:=[(2,[.d (.int .i64 0),.d (.int .i64 0),.nilS,.nilS,.nilS]),(3,[.d (.int .i64 y1.1),.d (.int .i64 y2.1),.vec 32,.vec 52,.nilS]),(1000000,[.d (.slice (rowsF (iRow .i64) s12.2.1)),.d (.int .i64 s12.2.2.1)])],vec:=[(32,⟨67,3,rowsF api_Grant_row v4.2.2⟩),(52,⟨69,2,rowsF api_Store_row s12.2.2.2⟩)]}:St)) hI2 (wk (by simp[wkI])) fun G3 s12 o3 h3 hg3 he3=>?_)
   unfold mYRights_l1 at h3
   refine trq ?_
   refine kr [0,2,3,5,37] (by simp;rfl) ?_
   refine trc (b:=(decide (0 < s12.1))) (by simp) (fun c11=>?_) (fun c11=>?_)
   ·rw[if_pos c11] at h3
    refine trk ?_
    refine trq ?_
    refine trb ?_
    refine tr_wk (wk_ren 52 700052) ?_
    refine kd1 [[],[0],[],[],[3],[2,4],[],[],[7],[5,6,8],[4,5,8,9],[4,5,8,10],[1,4,5,8,9,11],[12],[1,4,8,12,13]] [5,9,12,14] [(3,[12,14]),(1000000,[5,9,12])] (some (12,700052)) [41] 15 fol (by decide +kernel) (by simp) ?_
    refine dr_go 0 2 rfl (by simp (maxSteps:=1000000);rfl) ?_
    refine dr_go 2 2 rfl (by simp (maxSteps:=1000000);rfl) ?_
    refine dr_go 4 1 rfl (by simp (maxSteps:=1000000);rfl) ?_
    replace h3:=bnd h3;obtain⟨y13,hy13,h3⟩:=h3
    refine dr_call 5 [1000000] (zT_Next_ok hy13) rfl rfl rfl rfl rfl Tryd.call7 (by simp) ?_
    refine dr_go 6 2 rfl (by simp (maxSteps:=1000000);rfl) ?_
    refine dr_go 8 1 rfl (by simp (maxSteps:=1000000);rfl) ?_
    replace h3:=bnd h3;obtain⟨y14,hy14,h3⟩:=h3
    refine dr_call 9 [1000000] (zT_Next_ok hy14) rfl rfl rfl rfl rfl Tryd.call7 (by simp) ?_
    replace h3:=bnd h3;obtain⟨_,p32,h3⟩:=h3
    replace p32:=ck_some p32
    have p32':=p32;try simp at p32'
    refine dr_go 10 2 rfl (by simp (maxSteps:=1000000) [p32,p32'];rfl) ?_
    refine dr_go 12 2 rfl (by simp (maxSteps:=1000000) [p32,p32'];rfl) ?_
    refine dr_go 14 1 rfl (by simp (maxSteps:=1000000) [p32,p32'];rfl) ?_
    refine dr_end rfl (tpN ?_)
    refine lr (by simp;rfl) ?_
    exact⟨_,hg3 _ (Option.some.inj h3),wk (by simp[wkI])⟩
   ·rw[if_neg (by rw[c11];decide)] at h3
    refine tr_exit ?_
    exact⟨_,he3 _ (Option.some.inj h3),wk (by simp[wkI])⟩
 ·refine trb (tr_iter (fun s15:Int×(List Int)×Int×(List api_Grant)=>({ nt:=75,env:=[(0,.ptr 1000000 0),(2,.ptr 2 0),(3,.ptr 3 0),(4,.d (.int .i64 s15.1))],box:=[(2,[.d (.int .i64 0),.d (.int .i64 0),.nilS,.nilS,.nilS]),(3,[.d (.int .i64 y1.1),.d (.int .i64 y2.1),.vec 32,.nilS,.nilS]),(1000000,[.d (.slice (rowsF (iRow .i64) s15.2.1)),.d (.int .i64 s15.2.2.1)])],vec:=[(32,⟨67,3,rowsF api_Grant_row s15.2.2.2⟩)]}:St)) hI1 (wk (by simp[wkI])) fun G3 s15 o3 h3 hg3 he3=>?_)
  unfold mYRights_l0 at h3
  refine trq ?_
  refine kr [0,2,3,4,15] (by simp;rfl) ?_
  refine trc (b:=(decide (0 < s15.1))) (by simp) (fun c12=>?_) (fun c12=>?_)
  ·rw[if_pos c12] at h3
   refine trk ?_
   refine trq ?_
   refine trb ?_
   refine tr_wk (wk_ren 32 700032) ?_
   refine kd1 [[],[0],[],[],[3],[2,4],[],[],[7],[5,6,8],[],[5,9,10],[4,5,8,9,11],[4,5,8,9,12],[1,4,5,8,9,11,13],[14],[1,4,8,14,15]] [5,9,11,14,16] [(3,[14,16]),(1000000,[5,9,11,14])] (some (14,700032)) [19] 17 fol (by decide +kernel) (by simp) ?_
   refine dr_go 0 2 rfl (by simp (maxSteps:=1000000);rfl) ?_
   refine dr_go 2 2 rfl (by simp (maxSteps:=1000000);rfl) ?_
   refine dr_go 4 1 rfl (by simp (maxSteps:=1000000);rfl) ?_
   replace h3:=bnd h3;obtain⟨y16,hy16,h3⟩:=h3
   refine dr_call 5 [1000000] (zT_Next_ok hy16) rfl rfl rfl rfl rfl Tryd.call7 (by simp) ?_
   refine dr_go 6 2 rfl (by simp (maxSteps:=1000000);rfl) ?_
   refine dr_go 8 1 rfl (by simp (maxSteps:=1000000);rfl) ?_
   replace h3:=bnd h3;obtain⟨y17,hy17,h3⟩:=h3
   refine dr_call 9 [1000000] (zT_Next_ok hy17) rfl rfl rfl rfl rfl Tryd.call7 (by simp) ?_
   refine dr_go 10 1 rfl (by simp (maxSteps:=1000000);rfl) ?_
   replace h3:=bnd h3;obtain⟨y18,hy18,h3⟩:=h3
   refine dr_call 11 [1000000] (zT_Between_ok hy18) rfl rfl rfl rfl rfl Tryd.call17 (by simp) ?_
   replace h3:=bnd h3;obtain⟨_,p36,h3⟩:=h3
   replace p36:=ck_some p36
   have p36':=p36;try simp at p36'
   refine dr_go 12 2 rfl (by simp (maxSteps:=1000000) [p36,p36'];rfl) ?_
   refine dr_go 14 2 rfl (by simp (maxSteps:=1000000) [p36,p36'];rfl) ?_
   refine dr_go 16 1 rfl (by simp (maxSteps:=1000000) [p36,p36'];rfl) ?_
   refine dr_end rfl (tpN ?_)
   refine lr (by simp;rfl) ?_
   exact⟨_,hg3 _ (Option.some.inj h3),wk (by simp[wkI])⟩
  ·rw[if_neg (by rw[c12];decide)] at h3
   refine tr_exit ?_
   exact⟨_,he3 _ (Option.some.inj h3),wk (by simp[wkI])⟩
theorem mYPick_ok {a0:zT} {a1:List Int} {r:Int×zT} (h0:mYPick a0 a1=some r):FnOK Tryd.prog 18 [zTa a0] [.ptr (InO 0) 0,.d (.slice (rowsF (iRow .i64) a1))] (.d (.int .i64 r.1)) [zTa r.2]:=by
 unfold mYPick at h0
 refine fn_ok (nt:=12) (rs:=[.tmp 4]) Tryd.func18 rfl Tryd.ntmps18 rfl (by simp) (by decide) rfl fun K=>?_
 refine kr [0,1] (by simp;rfl) ?_
 refine kc ?_
 refine ko [5,6,8] 4 (by simp;rfl) ?_
 replace h0:=bnd h0;obtain⟨y1,hy1,h0⟩:=h0
 refine kcall [5,9] [1000000] (zT_Next_ok hy1) rfl rfl rfl Tryd.call7 (by simp) (by simp;rfl) ?_
 replace h0:=bnd h0;obtain⟨x2,p1,h0⟩:=h0
 replace p1:=idx_some p1
 have p1':=p1;try simp at p1'
 refine ko [4] 3 (by simp[p1,p1'];rfl) ?_
 refine tpN ?_
 cases h0
 exact trr ⟨[],by simp,rfl,by simp⟩
theorem mYWorths_ok {a0:zT} {a1:Int} {r:(List Int)×zT} (h0:mYWorths a0 a1=some r):FnOK Tryd.prog 6 [zTa a0] [.ptr (InO 0) 0,.d (.int .i64 a1)] (.d (.slice (rowsF (iRow .i64) r.1))) [zTa r.2]:=by
 unfold mYWorths at h0
 refine fn_ok (nt:=19) (rs:=[.tmp 4]) Tryd.func6 rfl Tryd.ntmps6 rfl (by simp) (by decide) rfl fun K=>?_
 refine kr [0,1] (by simp;rfl) ?_
 refine kr [0,1,5] (by simp;rfl) ?_
 refine trq ?_
 refine kr [0,1,5,6] (by simp;rfl) ?_
 refine tr_wk (wk_own 5 17 3 1 (by simp) (by simp)) ?_
 replace h0:=bnd h0;obtain⟨e1,hI1,h0⟩:=h0
 refine tjv (fun v1:(List Int)×Int×(List Int)=>({ nt:=19,env:=[(5,.vec 17)],box:=[(1000000,[.d (.slice (rowsF (iRow .i64) v1.1)),.d (.int .i64 v1.2.1)])],vec:=[(17,⟨3,1,rowsF (iRow .i64) v1.2.2⟩)]}:St)) (fun v1=>v1=e1) (fun v1 hI1e _ W1=>?_) ?_
 ·subst hI1e
  refine tr_wk W1 ?_
  refine kr [4] (by simp;rfl) ?_
  cases h0
  exact trr ⟨[17],by simp,rfl,by simp⟩
 ·refine trb (tr_iter (fun s2:Int×(List Int)×Int×(List Int)=>({ nt:=19,env:=[(0,.ptr 1000000 0),(1,.d (.int .i64 a1)),(5,.vec 17),(6,.d (.int .i64 s2.1))],box:=[(1000000,[.d (.slice (rowsF (iRow .i64) s2.2.1)),.d (.int .i64 s2.2.2.1)])],vec:=[(17,⟨3,1,rowsF (iRow .i64) s2.2.2.2⟩)]}:St)) hI1 (wk (by simp[wkI])) fun G1 s2 o1 h1 hg1 he1=>?_)
  unfold mYWorths_l0 at h1
  refine trq ?_
  refine kr [0,1,5,6,9] (by simp;rfl) ?_
  refine trc (b:=(decide (s2.1 < a1))) (by simp) (fun c4=>?_) (fun c4=>?_)
  ·rw[if_pos c4] at h1
   refine trk ?_
   refine trq ?_
   refine trb ?_
   refine kc1 ?_
   refine ko [0,1,6,12,13,14] 3 (by simp;rfl) ?_
   refine tops_wk (wk_frz 14) ?_
   replace h1:=bnd h1;obtain⟨y3,hy3,h1⟩:=h1
   refine kcall [0,1,6,12,15] [1000000] (mYPick_ok hy3) rfl rfl rfl Tryd.call18 (by simp) (by simp;rfl) ?_
   replace h1:=bnd h1;obtain⟨_,p3,h1⟩:=h1
   replace p3:=ck_some p3
   have p3':=p3;try simp at p3'
   refine ko [0,1,5,6] 3 (by simp[p3,p3'];rfl) ?_
   refine tpN ?_
   refine lr (by simp;rfl) ?_
   exact⟨_,hg1 _ (Option.some.inj h1),wk (by simp[wkI])⟩
  ·rw[if_neg (by rw[c4];decide)] at h1
   refine tr_exit ?_
   exact⟨_,he1 _ (Option.some.inj h1),wk (by simp[wkI])⟩
theorem severity_Worth_1_ok {a0:Int} {r:Bool} (h0:severity_Worth_1 a0=some r):FnOK Tryd.prog 35 [] [.d (.int .i64 a0)] (.d (.bool r)) []:=by
 unfold severity_Worth_1 at h0
 refine fn_ok (nt:=9) (rs:=[.tmp 2]) Tryd.func35 rfl Tryd.ntmps35 rfl (by simp) (by decide) rfl fun K=>?_
 refine kr [0] (by simp;rfl) ?_
 replace h0:=bnd h0;obtain⟨v1,hvv1,h0⟩:=h0
 refine sjv (fun v1_:Bool=>({ nt:=9,env:=[(2,.d (.bool v1_))],box:=[],vec:=[]}:St)) (fun v1_=>v1=v1_) (fun v1_ e=>?_) ?_
 ·subst e
  cases h0
  exact trr ⟨[],by simp,rfl,by simp⟩
 ·refine kc1 ?_
  refine ko [0,5] 3 (by simp;rfl) ?_
  refine tops_split 5 (decide (a0 < 0)) (by simp) (fun c3=>?_) (fun c3=>?_)
  ·rw[c3] at hvv1
   refine ko [2] 4 (by simp;rfl) ?_
   refine tpN ?_
   cases hvv1
   exact⟨_,rfl,wk (by simp[wkI])⟩
  ·rw[c3] at hvv1
   refine ko [2] 4 (by simp;rfl) ?_
   refine tpN ?_
   cases hvv1
   exact⟨_,rfl,wk (by simp[wkI])⟩
theorem sYIndexFunc_int_at_severity_Worth_1_ok {a0:List Int} {r:Int} (h0:sYIndexFunc_int_at_severity_Worth_1 a0=some r):FnOK Tryd.prog 44 [] [.d (.slice (rowsF (iRow .i64) a0)),.fn 35 []] (.d (.int .i64 r)) []:=by
 unfold sYIndexFunc_int_at_severity_Worth_1 at h0
 refine fn_ok (nt:=19) (rs:=[.tmp 4]) Tryd.func44 rfl Tryd.ntmps44 rfl (by simp) (by decide) rfl fun K=>?_
 refine kr [0,1] (by simp;rfl) ?_
 refine trq ?_
 refine kr [0,1,7,8] (by simp;rfl) ?_
 replace h0:=bnd h0;obtain⟨e1,hI1,h0⟩:=h0
 refine tjv (fun v1:Unit=>({ nt:=19,env:=[],box:=[],vec:=[]}:St)) (fun v1=>.inl v1=e1) (fun v1 hI1e _ W1=>?_) ?_
 ·subst hI1e
  dsimp only at h0
  refine tr_wk W1 ?_
  refine kr [4] (by simp;rfl) ?_
  cases h0
  exact trr ⟨[],by simp,rfl,by simp⟩
 ·refine trb (tr_iter (fun s2:Int=>({ nt:=19,env:=[(0,.d (.slice (rowsF (iRow .i64) a0))),(1,.fn 35 []),(7,.d (.int .i64 ((a0).length:Int))),(8,.d (.int .i64 s2))],box:=[],vec:=[]}:St)) hI1 (wk (by simp[wkI])) fun G1 s2 o1 h1 hg1 he1=>?_)
  unfold sYIndexFunc_int_at_severity_Worth_1_l0 at h1
  refine kr [0,1,7,8,9] (by simp;rfl) ?_
  refine trq ?_
  refine trc (b:=(decide (s2 < ((a0).length:Int)))) (by simp) (fun c5=>?_) (fun c5=>?_)
  ·rw[if_pos c5] at h1
   refine trk ?_
   refine trq ?_
   refine trb ?_
   refine kr [0,1,5,7,8] (by simp;rfl) ?_
   refine kc ?_
   replace h1:=bnd h1;obtain⟨x3,p3,h1⟩:=h1
   replace p3:=idx_some p3
   have p3':=p3;try simp at p3'
   refine ko [0,1,5,7,8,11,15] 5 (by simp[p3,p3'];rfl) ?_
   replace h1:=bnd h1;obtain⟨y4,hy4,h1⟩:=h1
   refine kcallV [0,1,5,7,8,16] [] [] [] (severity_Worth_1_ok hy4) rfl rfl rfl Tryd.call35 (by simp) (by simp;rfl) ?_
   refine tpN ?_
   refine trc (b:=y4) (by simp) (fun c6=>?_) (fun c6=>?_)
   ·rw[if_pos c6] at h1
    refine kr [4] (by simp;rfl) ?_
    have k1:=he1 _ (Option.some.inj h1)
    subst k1
    dsimp only at h0
    cases h0
    exact trr ⟨[],by simp,rfl,by simp⟩
   ·rw[if_neg (by rw[c6];decide)] at h1
    refine trk ?_
    refine lr (by simp;rfl) ?_
    exact⟨_,hg1 _ (Option.some.inj h1),wk (by simp[wkI])⟩
  ·rw[if_neg (by rw[c5];decide)] at h1
   refine tr_exit ?_
   exact⟨_,he1 _ (Option.some.inj h1),wk (by simp[wkI])⟩
theorem sYContainsFunc_int_at_severity_Worth_1_ok {a0:List Int} {r:Bool} (h0:sYContainsFunc_int_at_severity_Worth_1 a0=some r):FnOK Tryd.prog 29 [] [.d (.slice (rowsF (iRow .i64) a0)),.fn 35 []] (.d (.bool r)) []:=by
 unfold sYContainsFunc_int_at_severity_Worth_1 at h0
 refine fn_ok (nt:=9) (rs:=[.tmp 4]) Tryd.func29 rfl Tryd.ntmps29 rfl (by simp) (by decide) rfl fun K=>?_
 refine kr [0,1] (by simp;rfl) ?_
 refine kc ?_
 refine ko [5,6] 2 (by simp;rfl) ?_
 replace h0:=bnd h0;obtain⟨y1,hy1,h0⟩:=h0
 refine kcall [7] [] (sYIndexFunc_int_at_severity_Worth_1_ok hy1) rfl rfl rfl Tryd.call44 (by simp) (by simp;rfl) ?_
 refine ko [4] 2 (by simp;rfl) ?_
 refine tpN ?_
 cases h0
 exact trr ⟨[],by simp,rfl,by simp⟩
theorem severity_Worth_ok {a0:api_Rights} {a1:List Int} {a2:Int} {r:Int×Int} (h0:severity_Worth a0 a1 a2=some r):FnOK Tryd.prog 19 [] [.agg (api_Rights_av a0),.d (.slice (rowsF (iRow .i64) a1)),.d (.int .i64 a2)] (.tup [.d (.int .i64 r.1),.d (.int .i64 r.2)]) []:=by
 unfold severity_Worth at h0
 refine fn_ok (nt:=55) (rs:=[.tmp 6,.tmp 7]) Tryd.func19 rfl Tryd.ntmps19 rfl (by simp) (by decide) rfl fun K=>?_
 refine kr [1,2,3] (by simp;rfl) ?_
 refine trq ?_
 refine kc ?_
 refine ko [1,2,3,12] 1 (by simp;rfl) ?_
 replace h0:=bnd h0;obtain⟨y1,hy1,h0⟩:=h0
 refine kcall [1,2,3,13] [] (rights_Check_ok hy1) rfl rfl rfl Tryd.call24 (by simp) (by simp;rfl) ?_
 refine ko [1,2,3,8] 1 (by simp;rfl) ?_
 refine tpN ?_
 refine kr [1,2,3,8,15] (by simp;rfl) ?_
 refine trc (b:=(y1 != 0)) (by simp) (fun c1=>?_) (fun c1=>?_)
 ·rw[if_pos c1] at h0
  refine kr [6,7] (by simp;rfl) ?_
  cases h0
  exact trr ⟨[],by simp,rfl,by simp⟩
 ·rw[if_neg (by rw[c1];decide)] at h0
  refine trk ?_
  refine trq ?_
  refine trb ?_
  replace h0:=bnd h0;obtain⟨v2,hvv2,h0⟩:=h0
  refine sjv (fun v2_:Bool=>({ nt:=55,env:=[(1,.d (.slice (rowsF (iRow .i64) a1))),(2,.d (.int .i64 a2)),(3,.ptr 3 0),(17,.d (.bool v2_))],box:=[(3,[.d (.int .i64 a0.Credentials),.d (.int .i64 a0.Resources),.d (.slice (rowsF api_Grant_row a0.Grants)),.d (.slice (rowsF api_Store_row a0.Stores)),.d (.slice (rowsF api_Mint_row a0.Mints))])],vec:=[]}:St)) (fun v2_=>v2=v2_) (fun v2_ e=>?_) ?_
  ·subst e
   refine trc (b:=v2) (by simp) (fun c4=>?_) (fun c4=>?_)
   ·rw[if_pos c4] at h0
    refine kr [6,7] (by simp;rfl) ?_
    cases h0
    exact trr ⟨[],by simp,rfl,by simp⟩
   ·rw[if_neg (by rw[c4];decide)] at h0
    replace h0:=bnd h0;obtain⟨v3,hvv3,h0⟩:=h0
    refine sjv (fun v3_:Bool=>({ nt:=55,env:=[(1,.d (.slice (rowsF (iRow .i64) a1))),(2,.d (.int .i64 a2)),(3,.ptr 3 0),(27,.d (.bool v3_))],box:=[(3,[.d (.int .i64 a0.Credentials),.d (.int .i64 a0.Resources),.d (.slice (rowsF api_Grant_row a0.Grants)),.d (.slice (rowsF api_Store_row a0.Stores)),.d (.slice (rowsF api_Mint_row a0.Mints))])],vec:=[]}:St)) (fun v3_=>v3=v3_) (fun v3_ e=>?_) ?_
    ·subst e
     refine trc (b:=v3) (by simp) (fun c7=>?_) (fun c7=>?_)
     ·rw[if_pos c7] at h0
      refine kr [6,7] (by simp;rfl) ?_
      cases h0
      exact trr ⟨[],by simp,rfl,by simp⟩
     ·rw[if_neg (by rw[c7];decide)] at h0
      refine trk ?_
      refine kr [1,2,3,9] (by simp;rfl) ?_
      refine trq ?_
      refine kc ?_
      refine ko [1,9,36,37] 2 (by simp;rfl) ?_
      replace h0:=bnd h0;obtain⟨y4,hy4,h0⟩:=h0
      refine kcall [1,9,38] [] (rights_Power_ok hy4) rfl rfl rfl Tryd.call9 (by simp) (by simp;rfl) ?_
      refine ko [1,9,38,39,40] 2 (by simp;rfl) ?_
      refine tpN ?_
      replace h0:=bnd h0;obtain⟨e1,hI1,h0⟩:=h0
      refine tjv (fun v5:Int=>({ nt:=55,env:=[(9,.d (.int .i64 v5))],box:=[],vec:=[]}:St)) (fun v5=>v5=e1) (fun v5 hI1e _ W1=>?_) ?_
      ·subst hI1e
       refine tr_wk W1 ?_
       refine kr [6,7] (by simp;rfl) ?_
       cases h0
       exact trr ⟨[],by simp,rfl,by simp⟩
      ·refine trb (tr_iter (fun s6:Int×Int=>({ nt:=55,env:=[(1,.d (.slice (rowsF (iRow .i64) a1))),(9,.d (.int .i64 s6.1)),(38,.d (.slice (rowsF (iRow .i64) y4))),(39,.d (.int .i64 ((y4).length:Int))),(40,.d (.int .i64 s6.2))],box:=[],vec:=[]}:St)) hI1 (wk (by simp[wkI])) fun G1 s6 o1 h1 hg1 he1=>?_)
       unfold severity_Worth_l0 at h1
       refine kr [1,9,38,39,40,41] (by simp;rfl) ?_
       refine trq ?_
       refine trc (b:=(decide (s6.2 < ((y4).length:Int)))) (by simp) (fun c10=>?_) (fun c10=>?_)
       ·rw[if_pos c10] at h1
        refine trk ?_
        refine trq ?_
        refine trb ?_
        replace h1:=bnd h1;obtain⟨x7,p5,h1⟩:=h1
        replace p5:=idx_some p5
        have p5':=p5;try simp at p5'
        refine kr [1,9,10,11,38,39,40] (by simp[p5,p5'];rfl) ?_
        replace h1:=bnd h1;obtain⟨x8,p6,h1⟩:=h1
        replace p6:=idx_some p6
        have p6':=p6;try simp at p6'
        refine lr (by simp[p6,p6'];rfl) ?_
        refine lr (by simp;rfl) ?_
        exact⟨_,hg1 _ (Option.some.inj h1),wk (by simp[wkI])⟩
       ·rw[if_neg (by rw[c10];decide)] at h1
        refine tr_exit ?_
        exact⟨_,he1 _ (Option.some.inj h1),wk (by simp[wkI])⟩
    ·refine kc1 ?_
     refine ko [1,2,3,30] 3 (by simp;rfl) ?_
     refine tops_split 30 (decide (a2 < 0)) (by simp) (fun c11=>?_) (fun c11=>?_)
     ·rw[c11] at hvv3
      refine kskip 4 [] (by kernel_rfl) ?_
      refine ko [1,2,3,27] 2 (by simp;rfl) ?_
      refine tpN ?_
      cases hvv3
      exact⟨_,rfl,wk (by simp[wkI])⟩
     ·rw[c11] at hvv3
      refine ko [1,2,3,27] 6 (by simp;rfl) ?_
      refine tpN ?_
      cases hvv3
      exact⟨_,rfl,wk (by simp[wkI])⟩
  ·refine kc1 ?_
   refine ko [1,2,3,23] 6 (by simp;rfl) ?_
   refine tops_split 23 (((a1).length:Int) != a0.Resources) (by simp) (fun c12=>?_) (fun c12=>?_)
   ·rw[if_pos c12] at hvv2
    refine ko [1,2,3,17] 4 (by simp;rfl) ?_
    refine tpN ?_
    cases hvv2
    exact⟨_,rfl,wk (by simp[wkI])⟩
   ·rw[if_neg (by rw[c12];decide)] at hvv2
    refine ko [1,2,3,23,24] 1 (by simp;rfl) ?_
    replace hvv2:=bnd hvv2;obtain⟨y9,hy9,hvv2⟩:=hvv2
    refine kcall [1,2,3,23,25] [] (sYContainsFunc_int_at_severity_Worth_1_ok hy9) rfl rfl rfl Tryd.call29 (by simp) (by simp;rfl) ?_
    refine ko [1,2,3,17] 2 (by simp;rfl) ?_
    refine tpN ?_
    cases hvv2
    exact⟨_,rfl,wk (by simp[wkI])⟩
theorem severity_Rate_ok {a0:api_Rights} {a1:List Int} {a2:Int} {a3:Int} {a4:Bool} {r:api_Severity×Int} (h0:severity_Rate a0 a1 a2 a3 a4=some r):FnOK Tryd.prog 8 [] [.agg (api_Rights_av a0),.d (.slice (rowsF (iRow .i64) a1)),.d (.int .i64 a2),.d (.int .i64 a3),.d (.bool a4)] (.tup [.agg (api_Severity_av r.1),.d (.int .i64 r.2)]) []:=by
 unfold severity_Rate at h0
 refine fn_ok (nt:=50) (rs:=[.cell 10 36,.tmp 11]) Tryd.func8 rfl Tryd.ntmps8 rfl (by simp) (by decide) rfl fun K=>?_
 refine kr [1,2,3,4,5,10] (by simp;rfl) ?_
 refine kc ?_
 refine ko [3,4,10,16,17,18] 3 (by simp;rfl) ?_
 replace h0:=bnd h0;obtain⟨y1,hy1,h0⟩:=h0
 refine kcall [3,4,10,19] [] (severity_Worth_ok hy1) rfl rfl rfl Tryd.call19 (by simp) (by simp;rfl) ?_
 refine ko [3,4,10,12,13] 5 (by simp;rfl) ?_
 refine tpN ?_
 refine trq ?_
 refine kr [3,4,10,12,13,23] (by simp;rfl) ?_
 refine trc (b:=(y1.2 != 0)) (by simp) (fun c1=>?_) (fun c1=>?_)
 ·rw[if_pos c1] at h0
  refine kr [10,11] (by simp;rfl) ?_
  cases h0
  exact trr ⟨[],by simp,rfl,by simp⟩
 ·rw[if_neg (by rw[c1];decide)] at h0
  refine trk ?_
  refine trq ?_
  replace h0:=bnd h0;obtain⟨v2,hvv2,h0⟩:=h0
  refine sjv (fun v2_:Bool=>({ nt:=50,env:=[(3,.d (.int .i64 a3)),(4,.d (.bool a4)),(10,.ptr 10 0),(12,.d (.int .i64 y1.1)),(31,.d (.bool v2_))],box:=[(10,[.d (.int .i64 0),.d (.int .i64 0),.d (.int .i64 0),.d (.int .i64 0)])],vec:=[]}:St)) (fun v2_=>v2=v2_) (fun v2_ e=>?_) ?_
  ·subst e
   refine trc (b:=v2) (by simp) (fun c4=>?_) (fun c4=>?_)
   ·rw[if_pos c4] at h0
    refine kr [10,11] (by simp;rfl) ?_
    cases h0
    exact trr ⟨[],by simp,rfl,by simp⟩
   ·rw[if_neg (by rw[c4];decide)] at h0
    refine trk ?_
    refine kr [4,10,14] (by simp;rfl) ?_
    refine sjv (fun v3:Int=>({ nt:=50,env:=[(10,.ptr 10 0),(14,.ptr 14 0)],box:=[(10,[.d (.int .i64 0),.d (.int .i64 0),.d (.int .i64 0),.d (.int .i64 0)]),(14,[.d (.int .i64 0),.d (.int .i64 y1.1),.d (.int .i64 v3),.d (.int .i64 0)])],vec:=[]}:St)) (fun v3=>severity_Rate_j0 y1 v3=some r) (fun v3 h0=>?_) ?_
    ·unfold severity_Rate_j0 at h0
     refine kr [10,14] (by simp;rfl) ?_
     refine kc ?_
     refine ko [10,14,46] 2 (by simp;rfl) ?_
     replace h0:=bnd h0;obtain⟨y4,hy4,h0⟩:=h0
     refine kcall [10,14,47] [] (severity_Level_ok hy4) rfl rfl rfl Tryd.call20 (by simp) (by simp;rfl) ?_
     refine ko [10,14] 2 (by simp;rfl) ?_
     refine tpN ?_
     refine kr [10,11] (by simp;rfl) ?_
     cases h0
     exact trr ⟨[],by simp,rfl,by simp⟩
    ·refine kr [10,14,37] (by simp;rfl) ?_
     refine trc (b:=a4) (by simp) (fun c6=>?_) (fun c6=>?_)
     ·rw[if_pos c6] at h0
      refine lr (by simp;rfl) ?_
      exact⟨_,h0,wk (by simp[wkI])⟩
     ·rw[if_neg (by rw[c6];decide)] at h0
      refine trk ?_
      exact⟨_,h0,wk (by simp[wkI])⟩
  ·refine kc1 ?_
   refine ko [3,4,10,12,28] 3 (by simp;rfl) ?_
   refine tops_split 28 (decide (a3 < 0)) (by simp) (fun c7=>?_) (fun c7=>?_)
   ·rw[c7] at hvv2
    refine ko [3,4,10,12,31] 3 (by simp;rfl) ?_
    refine tpN ?_
    cases hvv2
    exact⟨_,rfl,wk (by simp[wkI])⟩
   ·rw[c7] at hvv2
    refine ko [3,4,10,12,31] 3 (by simp;rfl) ?_
    refine tpN ?_
    cases hvv2
    exact⟨_,rfl,wk (by simp[wkI])⟩
theorem rights_Proves_ok {a0:api_Rights} {a1:Int} {a2:Int} {a3:Int} {a4:List api_Link} {r:Bool} (h0:rights_Proves a0 a1 a2 a3 a4=some r):FnOK Tryd.prog 11 [] [.agg (api_Rights_av a0),.d (.int .i64 a1),.d (.int .i64 a2),.d (.int .i64 a3),.d (.slice (rowsF api_Link_row a4))] (.d (.bool r)) []:=by
 unfold rights_Proves at h0
 refine fn_ok (nt:=114) (rs:=[.tmp 10]) Tryd.func11 rfl Tryd.ntmps11 rfl (by simp) (by decide) rfl fun K=>?_
 refine kr [1,2,3,4,5] (by simp;rfl) ?_
 refine trq ?_
 replace h0:=bnd h0;obtain⟨v1,hvv1,h0⟩:=h0
 refine sjv (fun v1_:Bool=>({ nt:=114,env:=[(1,.d (.int .i64 a1)),(2,.d (.int .i64 a2)),(3,.d (.int .i64 a3)),(4,.d (.slice (rowsF api_Link_row a4))),(5,.ptr 5 0),(42,.d (.bool v1_))],box:=[(5,[.d (.int .i64 a0.Credentials),.d (.int .i64 a0.Resources),.d (.slice (rowsF api_Grant_row a0.Grants)),.d (.slice (rowsF api_Store_row a0.Stores)),.d (.slice (rowsF api_Mint_row a0.Mints))])],vec:=[]}:St)) (fun v1_=>v1=v1_) (fun v1_ e=>?_) ?_
 ·subst e
  refine trc (b:=v1) (by simp) (fun c9=>?_) (fun c9=>?_)
  ·rw[if_pos c9] at h0
   refine kr [10] (by simp;rfl) ?_
   cases h0
   exact trr ⟨[],by simp,rfl,by simp⟩
  ·rw[if_neg (by rw[c9];decide)] at h0
   refine trk ?_
   refine kr [1,2,3,4,5,11] (by simp;rfl) ?_
   refine trq ?_
   replace h0:=bnd h0;obtain⟨_,p1,h0⟩:=h0
   replace p1:=ck_some p1
   have p1':=p1;try simp at p1'
   refine kr [1,2,3,4,5,11,48,49,50] (by simp[p1,p1'];rfl) ?_
   replace h0:=bnd h0;obtain⟨e1,hI1,h0⟩:=h0
   refine tjv (fun v2:Int=>({ nt:=114,env:=[(1,.d (.int .i64 v2)),(2,.d (.int .i64 a2)),(3,.d (.int .i64 a3)),(4,.d (.slice (rowsF api_Link_row a4))),(5,.ptr 5 0),(11,.d (.int .i64 (IntKind.i64.wrap (((a4).length:Int) - 1))))],box:=[(5,[.d (.int .i64 a0.Credentials),.d (.int .i64 a0.Resources),.d (.slice (rowsF api_Grant_row a0.Grants)),.d (.slice (rowsF api_Store_row a0.Stores)),.d (.slice (rowsF api_Mint_row a0.Mints))])],vec:=[]}:St)) (fun v2=>.inl v2=e1) (fun v2 hI1e _ W1=>?_) ?_
   ·subst hI1e
    dsimp only at h0
    refine tr_wk W1 ?_
    replace h0:=bnd h0;obtain⟨x3,p4,h0⟩:=h0
    replace p4:=idx_some p4
    have p4':=p4;try simp at p4'
    refine kr [1,2,3,5,16] (by simp[p4,p4'];rfl) ?_
    refine trq ?_
    replace h0:=bnd h0;obtain⟨v4,hvv4,h0⟩:=h0
    refine sjv (fun v4_:Bool=>({ nt:=114,env:=[(1,.d (.int .i64 v2)),(2,.d (.int .i64 a2)),(3,.d (.int .i64 a3)),(5,.ptr 5 0),(16,.ptr 16 0),(91,.d (.bool v4_))],box:=[(5,[.d (.int .i64 a0.Credentials),.d (.int .i64 a0.Resources),.d (.slice (rowsF api_Grant_row a0.Grants)),.d (.slice (rowsF api_Store_row a0.Stores)),.d (.slice (rowsF api_Mint_row a0.Mints))]),(16,[.d (.int .i64 x3.Kind),.d (.int .i64 x3.Grant),.d (.int .i64 x3.Store),.d (.int .i64 x3.Mint)])],vec:=[]}:St)) (fun v4_=>v4=v4_) (fun v4_ e=>?_) ?_
    ·subst e
     refine trc (b:=v4) (by simp) (fun c20=>?_) (fun c20=>?_)
     ·rw[if_pos c20] at h0
      refine kr [10] (by simp;rfl) ?_
      cases h0
      exact trr ⟨[],by simp,rfl,by simp⟩
     ·rw[if_neg (by rw[c20];decide)] at h0
      refine trk ?_
      replace h0:=bnd h0;obtain⟨x5,p5,h0⟩:=h0
      replace p5:=idx_some p5
      have p5':=p5;try simp at p5'
      refine kr [1,2,3,17] (by simp[p5,p5'];rfl) ?_
      replace h0:=bnd h0;obtain⟨v6,hvv6,h0⟩:=h0
      refine sjv (fun v6_:Bool=>({ nt:=114,env:=[(10,.d (.bool v6_))],box:=[],vec:=[]}:St)) (fun v6_=>v6=v6_) (fun v6_ e=>?_) ?_
      ·subst e
       cases h0
       exact trr ⟨[],by simp,rfl,by simp⟩
      ·refine kc1 ?_
       refine ko [2,3,17,102] 5 (by simp;rfl) ?_
       refine tops_split 102 (x5.Credential==v2) (by simp) (fun c25=>?_) (fun c25=>?_)
       ·rw[c25] at hvv6
        refine ko [3,17,108] 6 (by simp;rfl) ?_
        refine tops_split 108 (x5.Resource==a2) (by simp) (fun c26=>?_) (fun c26=>?_)
        ·rw[c26] at hvv6
         refine ko [10] 6 (by simp;rfl) ?_
         refine tpN ?_
         cases hvv6
         exact⟨_,rfl,wk (by simp[wkI])⟩
        ·rw[c26] at hvv6
         refine kskip 4 [] (by kernel_rfl) ?_
         refine ko [10] 2 (by simp;rfl) ?_
         refine tpN ?_
         cases hvv6
         exact⟨_,rfl,wk (by simp[wkI])⟩
       ·rw[c25] at hvv6
        refine kskip 4 [] (by kernel_rfl) ?_
        refine ko [3,17,108] 2 (by simp;rfl) ?_
        refine kskip 4 [] (by kernel_rfl) ?_
        refine ko [10] 2 (by simp;rfl) ?_
        refine tpN ?_
        cases hvv6
        exact⟨_,rfl,wk (by simp[wkI])⟩
    ·refine kc1 ?_
     refine ko [1,2,3,5,16,72] 4 (by simp;rfl) ?_
     refine tops_split 72 (x3.Kind != 3) (by simp) (fun c27=>?_) (fun c27=>?_)
     ·rw[if_pos c27] at hvv4
      refine kskip 3 [] (by kernel_rfl) ?_
      refine ko [1,2,3,5,16,77] 2 (by simp;rfl) ?_
      refine kskip 3 [] (by kernel_rfl) ?_
      refine ko [1,2,3,5,16,82] 2 (by simp;rfl) ?_
      refine kskip 8 [] (by kernel_rfl) ?_
      refine ko [1,2,3,5,16,91] 1 (by simp;rfl) ?_
      refine tpN ?_
      cases hvv4
      exact⟨_,rfl,wk (by simp[wkI])⟩
     ·rw[if_neg (by rw[c27];decide)] at hvv4
      refine ko [1,2,3,5,16,77] 5 (by simp;rfl) ?_
      refine tops_split 77 (x3.Store != (-1)) (by simp) (fun c28=>?_) (fun c28=>?_)
      ·rw[if_pos c28] at hvv4
       refine kskip 3 [] (by kernel_rfl) ?_
       refine ko [1,2,3,5,16,82] 2 (by simp;rfl) ?_
       refine kskip 8 [] (by kernel_rfl) ?_
       refine ko [1,2,3,5,16,91] 1 (by simp;rfl) ?_
       refine tpN ?_
       cases hvv4
       exact⟨_,rfl,wk (by simp[wkI])⟩
      ·rw[if_neg (by rw[c28];decide)] at hvv4
       refine ko [1,2,3,5,16,82] 5 (by simp;rfl) ?_
       refine tops_split 82 (x3.Mint != (-1)) (by simp) (fun c29=>?_) (fun c29=>?_)
       ·rw[if_pos c29] at hvv4
        refine kskip 8 [] (by kernel_rfl) ?_
        refine ko [1,2,3,5,16,91] 1 (by simp;rfl) ?_
        refine tpN ?_
        cases hvv4
        exact⟨_,rfl,wk (by simp[wkI])⟩
       ·rw[if_neg (by rw[c29];decide)] at hvv4
        refine ko [1,2,3,5,16,82,84,88] 6 (by simp;rfl) ?_
        replace hvv4:=bnd hvv4;obtain⟨y7,hy7,hvv4⟩:=hvv4
        refine kcall [1,2,3,5,16,82,89] [] (rights_among_ok hy7) rfl rfl rfl Tryd.call22 (by simp) (by simp;rfl) ?_
        refine ko [1,2,3,5,16,91] 2 (by simp;rfl) ?_
        refine tpN ?_
        cases hvv4
        exact⟨_,rfl,wk (by simp[wkI])⟩
   ·refine trb (tr_iter (fun s8:Int×Int=>({ nt:=114,env:=[(1,.d (.int .i64 s8.1)),(2,.d (.int .i64 a2)),(3,.d (.int .i64 a3)),(4,.d (.slice (rowsF api_Link_row a4))),(5,.ptr 5 0),(11,.d (.int .i64 (IntKind.i64.wrap (((a4).length:Int) - 1)))),(48,.d (.slice (rowsF api_Link_row ((a4).take (Int.toNat (IntKind.i64.wrap (((a4).length:Int) - 1))))))),(49,.d (.int .i64 ((((a4).take (Int.toNat (IntKind.i64.wrap (((a4).length:Int) - 1))))).length:Int))),(50,.d (.int .i64 s8.2))],box:=[(5,[.d (.int .i64 a0.Credentials),.d (.int .i64 a0.Resources),.d (.slice (rowsF api_Grant_row a0.Grants)),.d (.slice (rowsF api_Store_row a0.Stores)),.d (.slice (rowsF api_Mint_row a0.Mints))])],vec:=[]}:St)) hI1 (wk (by simp[wkI];omega)) fun G1 s8 o1 h1 hg1 he1=>?_)
    unfold rights_Proves_l0 at h1
    refine kr [1,2,3,4,5,11,48,49,50,51] (by simp;rfl) ?_
    refine trq ?_
    refine trc (b:=(decide (s8.2 < ((((a4).take (Int.toNat (IntKind.i64.wrap (((a4).length:Int) - 1))))).length:Int)))) (by simp) (fun c30=>?_) (fun c30=>?_)
    ·rw[if_pos c30] at h1
     refine trk ?_
     refine trq ?_
     refine trb ?_
     replace h1:=bnd h1;obtain⟨x9,p6,h1⟩:=h1
     replace p6:=idx_some p6
     have p6':=p6;try simp at p6'
     refine kr [1,2,3,4,5,11,13,48,49,50] (by simp[p6,p6'];rfl) ?_
     refine kc ?_
     refine ko [2,3,4,5,11,48,49,50,55,56,57] 3 (by simp;rfl) ?_
     replace h1:=bnd h1;obtain⟨y10,hy10,h1⟩:=h1
     refine kcall [2,3,4,5,11,48,49,50,58] [] (rights_follow_ok hy10) rfl rfl rfl Tryd.call27 (by simp) (by simp;rfl) ?_
     refine ko [2,3,4,5,11,14,15,48,49,50] 5 (by simp;rfl) ?_
     refine tpN ?_
     refine trq ?_
     refine kr [2,3,4,5,11,14,48,49,50,62] (by simp;rfl) ?_
     refine trc (b:=(!y10.2)) (by simp) (fun c31=>?_) (fun c31=>?_)
     ·rw[if_pos c31] at h1
      refine kr [10] (by simp;rfl) ?_
      have k1:=he1 _ (Option.some.inj h1)
      subst k1
      dsimp only at h0
      cases h0
      exact trr ⟨[],by simp,rfl,by simp⟩
     ·rw[if_neg (by rw[c31];decide)] at h1
      refine trk ?_
      refine lr (by simp;rfl) ?_
      refine lr (by simp;rfl) ?_
      exact⟨_,hg1 _ (Option.some.inj h1),wk (by simp[wkI])⟩
    ·rw[if_neg (by rw[c30];decide)] at h1
     refine tr_exit ?_
     exact⟨_,he1 _ (Option.some.inj h1),wk (by simp[wkI])⟩
 ·refine kc1 ?_
  refine ko [1,2,3,4,5,18] 1 (by simp;rfl) ?_
  replace hvv1:=bnd hvv1;obtain⟨y13,hy13,hvv1⟩:=hvv1
  refine kcall [1,2,3,4,5,19] [] (rights_Check_ok hy13) rfl rfl rfl Tryd.call24 (by simp) (by simp;rfl) ?_
  refine ko [1,2,3,4,5,21] 2 (by simp;rfl) ?_
  refine tops_split 21 (y13 != 0) (by simp) (fun c32=>?_) (fun c32=>?_)
  ·rw[if_pos c32] at hvv1
   refine kskip 4 [] (by kernel_rfl) ?_
   refine ko [1,2,3,4,5,27] 2 (by simp;rfl) ?_
   refine kskip 4 [] (by kernel_rfl) ?_
   refine ko [1,2,3,4,5,33] 2 (by simp;rfl) ?_
   refine kskip 3 [] (by kernel_rfl) ?_
   refine ko [1,2,3,4,5,38] 2 (by simp;rfl) ?_
   refine kskip 3 [] (by kernel_rfl) ?_
   refine ko [1,2,3,4,5,42] 1 (by simp;rfl) ?_
   refine tpN ?_
   cases hvv1
   exact⟨_,rfl,wk (by simp[wkI])⟩
  ·rw[if_neg (by rw[c32];decide)] at hvv1
   refine ko [1,2,3,4,5,21,22,23] 2 (by simp;rfl) ?_
   replace hvv1:=bnd hvv1;obtain⟨y14,hy14,hvv1⟩:=hvv1
   refine kcall [1,2,3,4,5,21,24] [] (rights_credential_ok hy14) rfl rfl rfl Tryd.call25 (by simp) (by simp;rfl) ?_
   refine ko [1,2,3,4,5,27] 3 (by simp;rfl) ?_
   refine tops_split 27 (!y14) (by simp) (fun c33=>?_) (fun c33=>?_)
   ·rw[if_pos c33] at hvv1
    refine kskip 4 [] (by kernel_rfl) ?_
    refine ko [1,2,3,4,5,33] 2 (by simp;rfl) ?_
    refine kskip 3 [] (by kernel_rfl) ?_
    refine ko [1,2,3,4,5,38] 2 (by simp;rfl) ?_
    refine kskip 3 [] (by kernel_rfl) ?_
    refine ko [1,2,3,4,5,42] 1 (by simp;rfl) ?_
    refine tpN ?_
    cases hvv1
    exact⟨_,rfl,wk (by simp[wkI])⟩
   ·rw[if_neg (by rw[c33];decide)] at hvv1
    refine ko [1,2,3,4,5,27,28,29] 2 (by simp;rfl) ?_
    replace hvv1:=bnd hvv1;obtain⟨y15,hy15,hvv1⟩:=hvv1
    refine kcall [1,2,3,4,5,27,30] [] (rights_resource_ok hy15) rfl rfl rfl Tryd.call26 (by simp) (by simp;rfl) ?_
    refine ko [1,2,3,4,5,33] 3 (by simp;rfl) ?_
    refine tops_split 33 (!y15) (by simp) (fun c34=>?_) (fun c34=>?_)
    ·rw[if_pos c34] at hvv1
     refine kskip 3 [] (by kernel_rfl) ?_
     refine ko [1,2,3,4,5,38] 2 (by simp;rfl) ?_
     refine kskip 3 [] (by kernel_rfl) ?_
     refine ko [1,2,3,4,5,42] 1 (by simp;rfl) ?_
     refine tpN ?_
     cases hvv1
     exact⟨_,rfl,wk (by simp[wkI])⟩
    ·rw[if_neg (by rw[c34];decide)] at hvv1
     refine ko [1,2,3,4,5,33,34] 1 (by simp;rfl) ?_
     replace hvv1:=bnd hvv1;obtain⟨y16,hy16,hvv1⟩:=hvv1
     refine kcall [1,2,3,4,5,33,35] [] (rights_among_ok hy16) rfl rfl rfl Tryd.call22 (by simp) (by simp;rfl) ?_
     refine ko [1,2,3,4,5,38] 3 (by simp;rfl) ?_
     refine tops_split 38 (!y16) (by simp) (fun c35=>?_) (fun c35=>?_)
     ·rw[if_pos c35] at hvv1
      refine kskip 3 [] (by kernel_rfl) ?_
      refine ko [1,2,3,4,5,42] 1 (by simp;rfl) ?_
      refine tpN ?_
      cases hvv1
      exact⟨_,rfl,wk (by simp[wkI])⟩
     ·rw[if_neg (by rw[c35];decide)] at hvv1
      refine ko [1,2,3,4,5,42] 4 (by simp;rfl) ?_
      refine tpN ?_
      cases hvv1
      exact⟨_,rfl,wk (by simp[wkI])⟩
theorem mYFew_ok {a0:zT} {a1:Int} {a2:Int} {r:(List Int)×zT} (h0:mYFew a0 a1 a2=some r):FnOK Tryd.prog 12 [zTa a0] [.ptr (InO 0) 0,.d (.int .i64 a1),.d (.int .i64 a2)] (.d (.slice (rowsF (iRow .i64) r.1))) [zTa r.2]:=by
 unfold mYFew at h0
 refine fn_ok (nt:=25) (rs:=[.tmp 6]) Tryd.func12 rfl Tryd.ntmps12 rfl (by simp) (by decide) rfl fun K=>?_
 refine kr [0,1,2] (by simp;rfl) ?_
 refine kr [0,1,2,7] (by simp;rfl) ?_
 refine trq ?_
 refine kr [0,1,2,7,8] (by simp;rfl) ?_
 refine tr_wk (wk_own 7 23 3 1 (by simp) (by simp)) ?_
 replace h0:=bnd h0;obtain⟨e1,hI1,h0⟩:=h0
 refine tjv (fun v1:(List Int)×Int×(List Int)=>({ nt:=25,env:=[(7,.vec 23)],box:=[(1000000,[.d (.slice (rowsF (iRow .i64) v1.1)),.d (.int .i64 v1.2.1)])],vec:=[(23,⟨3,1,rowsF (iRow .i64) v1.2.2⟩)]}:St)) (fun v1=>v1=e1) (fun v1 hI1e _ W1=>?_) ?_
 ·subst hI1e
  refine tr_wk W1 ?_
  refine kr [6] (by simp;rfl) ?_
  cases h0
  exact trr ⟨[23],by simp,rfl,by simp⟩
 ·refine trb (tr_iter (fun s2:Int×(List Int)×Int×(List Int)=>({ nt:=25,env:=[(0,.ptr 1000000 0),(1,.d (.int .i64 a1)),(2,.d (.int .i64 a2)),(7,.vec 23),(8,.d (.int .i64 s2.1))],box:=[(1000000,[.d (.slice (rowsF (iRow .i64) s2.2.1)),.d (.int .i64 s2.2.2.1)])],vec:=[(23,⟨3,1,rowsF (iRow .i64) s2.2.2.2⟩)]}:St)) hI1 (wk (by simp[wkI])) fun G1 s2 o1 h1 hg1 he1=>?_)
  unfold mYFew_l0 at h1
  refine trq ?_
  refine kr [0,1,2,7,8,11] (by simp;rfl) ?_
  refine trc (b:=(decide (s2.1 < a1))) (by simp) (fun c7=>?_) (fun c7=>?_)
  ·rw[if_pos c7] at h1
   refine trk ?_
   refine trq ?_
   refine trb ?_
   refine kc ?_
   refine ko [0,1,2,7,8,14,15] 2 (by simp;rfl) ?_
   replace h1:=bnd h1;obtain⟨y3,hy3,h1⟩:=h1
   refine kcall [0,1,2,7,8,16] [1000000] (zT_Next_ok hy3) rfl rfl rfl Tryd.call7 (by simp) (by simp;rfl) ?_
   refine ko [0,1,2,7,8,19] 3 (by simp;rfl) ?_
   refine tpN ?_
   refine trc (b:=(y3.1==(IntKind.i64.wrap (a2 - 1)))) (by simp) (fun c8=>?_) (fun c8=>?_)
   ·rw[if_pos c8] at h1
    replace h1:=bnd h1;obtain⟨_,p6,h1⟩:=h1
    replace p6:=ck_some p6
    have p6':=p6;try simp at p6'
    refine lr (by simp[p6,p6'];rfl) ?_
    refine lr (by simp;rfl) ?_
    exact⟨_,hg1 _ (Option.some.inj h1),wk (by simp[wkI])⟩
   ·rw[if_neg (by rw[c8];decide)] at h1
    refine trk ?_
    refine lr (by simp;rfl) ?_
    exact⟨_,hg1 _ (Option.some.inj h1),wk (by simp[wkI])⟩
  ·rw[if_neg (by rw[c7];decide)] at h1
   refine tr_exit ?_
   exact⟨_,he1 _ (Option.some.inj h1),wk (by simp[wkI])⟩
theorem ref23_Has_ok {a0:List Int} {a1:Int} {r:Bool} (h0:ref23_Has a0 a1=some r):FnOK Tryd.prog 13 [] [.d (.slice (rowsF (iRow .i64) a0)),.d (.int .i64 a1)] (.d (.bool r)) []:=by
 unfold ref23_Has at h0
 refine fn_ok (nt:=17) (rs:=[.tmp 4]) Tryd.func13 rfl Tryd.ntmps13 rfl (by simp) (by decide) rfl fun K=>?_
 refine kr [0,1] (by simp;rfl) ?_
 refine trq ?_
 refine kr [1,7,8,9] (by simp;rfl) ?_
 replace h0:=bnd h0;obtain⟨e1,hI1,h0⟩:=h0
 refine tjv (fun v1:Unit=>({ nt:=17,env:=[],box:=[],vec:=[]}:St)) (fun v1=>.inl v1=e1) (fun v1 hI1e _ W1=>?_) ?_
 ·subst hI1e
  dsimp only at h0
  refine tr_wk W1 ?_
  refine kr [4] (by simp;rfl) ?_
  cases h0
  exact trr ⟨[],by simp,rfl,by simp⟩
 ·refine trb (tr_iter (fun s2:Int=>({ nt:=17,env:=[(1,.d (.int .i64 a1)),(7,.d (.slice (rowsF (iRow .i64) a0))),(8,.d (.int .i64 ((a0).length:Int))),(9,.d (.int .i64 s2))],box:=[],vec:=[]}:St)) hI1 (wk (by simp[wkI])) fun G1 s2 o1 h1 hg1 he1=>?_)
  unfold ref23_Has_l0 at h1
  refine kr [1,7,8,9,10] (by simp;rfl) ?_
  refine trq ?_
  refine trc (b:=(decide (s2 < ((a0).length:Int)))) (by simp) (fun c5=>?_) (fun c5=>?_)
  ·rw[if_pos c5] at h1
   refine trk ?_
   refine trq ?_
   refine trb ?_
   replace h1:=bnd h1;obtain⟨x3,p3,h1⟩:=h1
   replace p3:=idx_some p3
   have p3':=p3;try simp at p3'
   refine kr [1,6,7,8,9] (by simp[p3,p3'];rfl) ?_
   refine kr [1,7,8,9,15] (by simp;rfl) ?_
   refine trc (b:=(x3==a1)) (by simp) (fun c6=>?_) (fun c6=>?_)
   ·rw[if_pos c6] at h1
    refine kr [4] (by simp;rfl) ?_
    have k1:=he1 _ (Option.some.inj h1)
    subst k1
    dsimp only at h0
    cases h0
    exact trr ⟨[],by simp,rfl,by simp⟩
   ·rw[if_neg (by rw[c6];decide)] at h1
    refine trk ?_
    refine lr (by simp;rfl) ?_
    exact⟨_,hg1 _ (Option.some.inj h1),wk (by simp[wkI])⟩
  ·rw[if_neg (by rw[c5];decide)] at h1
   refine tr_exit ?_
   exact⟨_,he1 _ (Option.some.inj h1),wk (by simp[wkI])⟩
theorem top_TopBehind_ok {a0:List Int} {r:Bool} (h0:top_TopBehind a0=some r):FnOK Tryd.prog 3 [] [.d (.slice (rowsF (iRow .i64) a0))] (.d (.bool r)) []:=by
 unfold top_TopBehind at h0
 refine fn_ok (nt:=151) (rs:=[.tmp 2]) Tryd.func3 rfl Tryd.ntmps3 rfl (by simp) (by decide) rfl fun K=>?_
 refine kr [0] (by simp;rfl) ?_
 refine trq ?_
 refine kr [0,24] (by simp;rfl) ?_
 refine trc (b:=(decide (400 < ((a0).length:Int)))) (by simp) (fun c1=>?_) (fun c1=>?_)
 ·rw[if_pos c1] at h0
  refine kc ?_
  replace h0:=bnd h0;obtain⟨y1,hy1,h0⟩:=h0
  refine kcall [25] [] (top_awake31_ok hy1) rfl rfl rfl Tryd.call4 (by simp) (by simp;rfl) ?_
  refine ko [2] 1 (by simp;rfl) ?_
  refine tpN ?_
  cases h0
  exact trr ⟨[],by simp,rfl,by simp⟩
 ·rw[if_neg (by rw[c1];decide)] at h0
  refine trk ?_
  refine kr [3] (by simp;rfl) ?_
  refine kc ?_
  refine ko [3,29] 1 (by simp;rfl) ?_
  replace h0:=bnd h0;obtain⟨y2,hy2,h0⟩:=h0
  refine kcall [3,30] [28] (mYRights_ok hy2) rfl rfl rfl Tryd.call5 (by simp) (by simp;rfl) ?_
  refine ko [3,4] 2 (by simp;rfl) ?_
  refine tpN ?_
  refine kc ?_
  refine ko [3,4,31,33] 3 (by simp;rfl) ?_
  replace h0:=bnd h0;obtain⟨y3,hy3,h0⟩:=h0
  refine kcall [3,4,34] [28] (mYWorths_ok hy3) rfl rfl rfl Tryd.call6 (by simp) (by simp;rfl) ?_
  refine ko [3,4,5] 1 (by simp;rfl) ?_
  refine tpN ?_
  refine kc ?_
  refine ko [3,4,5,35,37] 3 (by simp;rfl) ?_
  replace h0:=bnd h0;obtain⟨y4,hy4,h0⟩:=h0
  refine kcall [3,4,5,38] [28] (zT_Next_ok hy4) rfl rfl rfl Tryd.call7 (by simp) (by simp;rfl) ?_
  refine ko [3,4,5,38,39] 1 (by simp;rfl) ?_
  replace h0:=bnd h0;obtain⟨y5,hy5,h0⟩:=h0
  refine kcall [3,4,5,38,40] [28] (zT_Next_ok hy5) rfl rfl rfl Tryd.call7 (by simp) (by simp;rfl) ?_
  refine ko [3,4,5,6,7] 2 (by simp;rfl) ?_
  refine tpN ?_
  refine kc ?_
  refine ko [3,4,5,6,42,43,44,45] 4 (by simp;rfl) ?_
  replace h0:=bnd h0;obtain⟨y6,hy6,h0⟩:=h0
  refine kcall [3,4,5,6,46] [] (severity_Rate_ok hy6) rfl rfl rfl Tryd.call8 (by simp) (by simp;rfl) ?_
  refine ko [3,4,5,6,8,9] 6 (by simp;rfl) ?_
  refine tpN ?_
  refine kc ?_
  refine ko [3,4,5,6,8,9,49,50] 2 (by simp;rfl) ?_
  replace h0:=bnd h0;obtain⟨y7,hy7,h0⟩:=h0
  refine kcall [3,4,5,6,8,9,51] [] (rights_Power_ok hy7) rfl rfl rfl Tryd.call9 (by simp) (by simp;rfl) ?_
  refine ko [3,4,5,6,8,9,10] 1 (by simp;rfl) ?_
  refine tpN ?_
  refine trq ?_
  replace h0:=bnd h0;obtain⟨v8,hvv8,h0⟩:=h0
  refine sjv (fun v8_:Bool=>({ nt:=151,env:=[(3,.ptr 28 0),(4,.ptr 4 0),(5,.d (.slice (rowsF (iRow .i64) y3.1))),(6,.d (.int .i64 y4.1)),(8,.ptr 8 0),(10,.d (.slice (rowsF (iRow .i64) y7))),(60,.d (.bool v8_))],box:=[(4,[.d (.int .i64 y2.1.Credentials),.d (.int .i64 y2.1.Resources),.d (.slice (rowsF api_Grant_row y2.1.Grants)),.d (.slice (rowsF api_Store_row y2.1.Stores)),.d (.slice (rowsF api_Mint_row y2.1.Mints))]),(8,[.d (.int .i64 y6.1.Level),.d (.int .i64 y6.1.Worth),.d (.int .i64 y6.1.Audience),.d (.int .i64 y6.1.Score)]),(28,[.d (.slice (rowsF (iRow .i64) y5.2.L)),.d (.int .i64 y5.2.at_)])],vec:=[]}:St)) (fun v8_=>v8=v8_) (fun v8_ e=>?_) ?_
  ·subst e
   refine trc (b:=v8) (by simp) (fun c4=>?_) (fun c4=>?_)
   ·rw[if_pos c4] at h0
    refine kr [2] (by simp;rfl) ?_
    cases h0
    exact trr ⟨[],by simp,rfl,by simp⟩
   ·rw[if_neg (by rw[c4];decide)] at h0
    refine trk ?_
    refine kr [3,4,5,6,8,10,11] (by simp;rfl) ?_
    refine trq ?_
    refine kr [3,4,5,6,8,11,61,62,63] (by simp;rfl) ?_
    replace h0:=bnd h0;obtain⟨e1,hI1,h0⟩:=h0
    refine tjv (fun v9:Int=>({ nt:=151,env:=[(3,.ptr 28 0),(4,.ptr 4 0),(5,.d (.slice (rowsF (iRow .i64) y3.1))),(6,.d (.int .i64 y4.1)),(8,.ptr 8 0),(11,.d (.int .i64 v9))],box:=[(4,[.d (.int .i64 y2.1.Credentials),.d (.int .i64 y2.1.Resources),.d (.slice (rowsF api_Grant_row y2.1.Grants)),.d (.slice (rowsF api_Store_row y2.1.Stores)),.d (.slice (rowsF api_Mint_row y2.1.Mints))]),(8,[.d (.int .i64 y6.1.Level),.d (.int .i64 y6.1.Worth),.d (.int .i64 y6.1.Audience),.d (.int .i64 y6.1.Score)]),(28,[.d (.slice (rowsF (iRow .i64) y5.2.L)),.d (.int .i64 y5.2.at_)])],vec:=[]}:St)) (fun v9=>.inl v9=e1) (fun v9 hI1e _ W1=>?_) ?_
    ·subst hI1e
     dsimp only at h0
     refine tr_wk W1 ?_
     refine trq ?_
     refine kr [3,4,5,6,8,103] (by simp;rfl) ?_
     refine trc (b:=(y6.1.Worth != v9)) (by simp) (fun c13=>?_) (fun c13=>?_)
     ·rw[if_pos c13] at h0
      refine kr [2] (by simp;rfl) ?_
      cases h0
      exact trr ⟨[],by simp,rfl,by simp⟩
     ·rw[if_neg (by rw[c13];decide)] at h0
      refine trk ?_
      refine trq ?_
      refine kr [3,4,5,6,8,16] (by simp;rfl) ?_
      replace h0:=bnd h0;obtain⟨e2,hI2,h0⟩:=h0
      refine tjv (fun v10:Unit=>({ nt:=151,env:=[],box:=[],vec:=[]}:St)) (fun v10=>.inl v10=e2) (fun v10 hI2e _ W2=>?_) ?_
      ·subst hI2e
       dsimp only at h0
       refine tr_wk W2 ?_
       refine kc ?_
       replace h0:=bnd h0;obtain⟨y11,hy11,h0⟩:=h0
       refine kcall [150] [] (top_awake31_ok hy11) rfl rfl rfl Tryd.call4 (by simp) (by simp;rfl) ?_
       refine ko [2] 1 (by simp;rfl) ?_
       refine tpN ?_
       cases h0
       exact trr ⟨[],by simp,rfl,by simp⟩
      ·refine trb (tr_iter (fun s12:Int×(List Int)×Int=>({ nt:=151,env:=[(3,.ptr 28 0),(4,.ptr 4 0),(5,.d (.slice (rowsF (iRow .i64) y3.1))),(6,.d (.int .i64 y4.1)),(8,.ptr 8 0),(16,.d (.int .i64 s12.1))],box:=[(4,[.d (.int .i64 y2.1.Credentials),.d (.int .i64 y2.1.Resources),.d (.slice (rowsF api_Grant_row y2.1.Grants)),.d (.slice (rowsF api_Store_row y2.1.Stores)),.d (.slice (rowsF api_Mint_row y2.1.Mints))]),(8,[.d (.int .i64 y6.1.Level),.d (.int .i64 y6.1.Worth),.d (.int .i64 y6.1.Audience),.d (.int .i64 y6.1.Score)]),(28,[.d (.slice (rowsF (iRow .i64) s12.2.1)),.d (.int .i64 s12.2.2)])],vec:=[]}:St)) hI2 (wk (by simp[wkI])) fun G2 s12 o2 h2 hg2 he2=>?_)
       unfold top_TopBehind_l1 at h2
       refine trq ?_
       refine kr [3,4,5,6,8,16,105] (by simp;rfl) ?_
       refine trc (b:=(decide (s12.1 < 5))) (by simp) (fun c28=>?_) (fun c28=>?_)
       ·rw[if_pos c28] at h2
        refine trk ?_
        refine trq ?_
        refine trb ?_
        refine kc ?_
        refine ko [3,4,5,6,8,16,108,110] 3 (by simp;rfl) ?_
        replace h2:=bnd h2;obtain⟨y13,hy13,h2⟩:=h2
        refine kcall [3,4,5,6,8,16,111] [28] (mYFew_ok hy13) rfl rfl rfl Tryd.call12 (by simp) (by simp;rfl) ?_
        refine ko [3,4,5,6,8,16,17] 1 (by simp;rfl) ?_
        refine tpN ?_
        refine trq ?_
        replace h2:=bnd h2;obtain⟨v14,hvv14,h2⟩:=h2
        refine sjv (fun v14_:Bool=>({ nt:=151,env:=[(3,.ptr 28 0),(4,.ptr 4 0),(5,.d (.slice (rowsF (iRow .i64) y3.1))),(6,.d (.int .i64 y4.1)),(8,.ptr 8 0),(16,.d (.int .i64 s12.1)),(17,.d (.slice (rowsF (iRow .i64) y13.1))),(121,.d (.bool v14_))],box:=[(4,[.d (.int .i64 y2.1.Credentials),.d (.int .i64 y2.1.Resources),.d (.slice (rowsF api_Grant_row y2.1.Grants)),.d (.slice (rowsF api_Store_row y2.1.Stores)),.d (.slice (rowsF api_Mint_row y2.1.Mints))]),(8,[.d (.int .i64 y6.1.Level),.d (.int .i64 y6.1.Worth),.d (.int .i64 y6.1.Audience),.d (.int .i64 y6.1.Score)]),(28,[.d (.slice (rowsF (iRow .i64) y13.2.L)),.d (.int .i64 y13.2.at_)])],vec:=[]}:St)) (fun v14_=>v14=v14_) (fun v14_ e=>?_) ?_
        ·subst e
         refine trc (b:=v14) (by simp) (fun c31=>?_) (fun c31=>?_)
         ·rw[if_pos c31] at h2
          refine tr_exit ?_
          refine lr (by simp;rfl) ?_
          exact⟨_,hg2 _ (Option.some.inj h2),wk (by simp[wkI])⟩
         ·rw[if_neg (by rw[c31];decide)] at h2
          refine trk ?_
          refine kr [3,4,5,6,8,16,17,18] (by simp;rfl) ?_
          refine kc ?_
          refine ko [3,4,5,6,8,16,18,122,123] 2 (by simp;rfl) ?_
          replace h2:=bnd h2;obtain⟨y15,hy15,h2⟩:=h2
          refine kcall [3,4,5,6,8,16,18,124] [] (rights_Bound_ok hy15) rfl rfl rfl Tryd.call15 (by simp) (by simp;rfl) ?_
          refine ko [3,4,5,6,8,16,18,19] 1 (by simp;rfl) ?_
          refine tpN ?_
          refine trq ?_
          refine kr [3,4,5,6,8,16,18,19,129] (by simp;rfl) ?_
          refine trc (b:=(((y15).length:Int) != y2.1.Resources)) (by simp) (fun c32=>?_) (fun c32=>?_)
          ·rw[if_pos c32] at h2
           refine kr [2] (by simp;rfl) ?_
           have k1:=he2 _ (Option.some.inj h2)
           subst k1
           dsimp only at h0
           cases h0
           exact trr ⟨[],by simp,rfl,by simp⟩
          ·rw[if_neg (by rw[c32];decide)] at h2
           refine trk ?_
           refine trq ?_
           refine kr [3,4,5,6,8,16,18,130,131,132] (by simp;rfl) ?_
           replace h2:=bnd h2;obtain⟨e3,hI3,h2⟩:=h2
           refine tjv (fun v16:Int=>({ nt:=151,env:=[(3,.ptr 28 0),(4,.ptr 4 0),(5,.d (.slice (rowsF (iRow .i64) y3.1))),(6,.d (.int .i64 y4.1)),(8,.ptr 8 0),(16,.d (.int .i64 s12.1)),(18,.d (.int .i64 v16))],box:=[(4,[.d (.int .i64 y2.1.Credentials),.d (.int .i64 y2.1.Resources),.d (.slice (rowsF api_Grant_row y2.1.Grants)),.d (.slice (rowsF api_Store_row y2.1.Stores)),.d (.slice (rowsF api_Mint_row y2.1.Mints))]),(8,[.d (.int .i64 y6.1.Level),.d (.int .i64 y6.1.Worth),.d (.int .i64 y6.1.Audience),.d (.int .i64 y6.1.Score)]),(28,[.d (.slice (rowsF (iRow .i64) y13.2.L)),.d (.int .i64 y13.2.at_)])],vec:=[]}:St)) (fun v16=>v16=e3) (fun v16 hI3e _ W3=>?_) ?_
           ·subst hI3e
            refine tr_wk W3 ?_
            refine kr [3,4,5,6,8,16,149] (by simp;rfl) ?_
            refine trc (b:=(decide (v16 < y6.1.Worth))) (by simp) (fun c35=>?_) (fun c35=>?_)
            ·rw[if_pos c35] at h2
             refine kr [2] (by simp;rfl) ?_
             have k1:=he2 _ (Option.some.inj h2)
             subst k1
             dsimp only at h0
             cases h0
             exact trr ⟨[],by simp,rfl,by simp⟩
            ·rw[if_neg (by rw[c35];decide)] at h2
             refine trk ?_
             refine lr (by simp;rfl) ?_
             exact⟨_,hg2 _ (Option.some.inj h2),wk (by simp[wkI])⟩
           ·refine trb (tr_iter (fun s17:Int×Int=>({ nt:=151,env:=[(3,.ptr 28 0),(4,.ptr 4 0),(5,.d (.slice (rowsF (iRow .i64) y3.1))),(6,.d (.int .i64 y4.1)),(8,.ptr 8 0),(16,.d (.int .i64 s12.1)),(18,.d (.int .i64 s17.1)),(130,.d (.slice (rowsF (iRow .i64) y15))),(131,.d (.int .i64 ((y15).length:Int))),(132,.d (.int .i64 s17.2))],box:=[(4,[.d (.int .i64 y2.1.Credentials),.d (.int .i64 y2.1.Resources),.d (.slice (rowsF api_Grant_row y2.1.Grants)),.d (.slice (rowsF api_Store_row y2.1.Stores)),.d (.slice (rowsF api_Mint_row y2.1.Mints))]),(8,[.d (.int .i64 y6.1.Level),.d (.int .i64 y6.1.Worth),.d (.int .i64 y6.1.Audience),.d (.int .i64 y6.1.Score)]),(28,[.d (.slice (rowsF (iRow .i64) y13.2.L)),.d (.int .i64 y13.2.at_)])],vec:=[]}:St)) hI3 (wk (by simp[wkI])) fun G3 s17 o3 h3 hg3 he3=>?_)
            unfold top_TopBehind_l2 at h3
            refine kr [3,4,5,6,8,16,18,130,131,132,133] (by simp;rfl) ?_
            refine trq ?_
            refine trc (b:=(decide (s17.2 < ((y15).length:Int)))) (by simp) (fun c36=>?_) (fun c36=>?_)
            ·rw[if_pos c36] at h3
             refine trk ?_
             refine trq ?_
             refine trb ?_
             replace h3:=bnd h3;obtain⟨x18,p17,h3⟩:=h3
             replace p17:=idx_some p17
             have p17':=p17;try simp at p17'
             refine kr [3,4,5,6,8,16,18,20,21,130,131,132] (by simp[p17,p17'];rfl) ?_
             replace h3:=bnd h3;obtain⟨x19,p18,h3⟩:=h3
             replace p18:=idx_some p18
             have p18':=p18;try simp at p18'
             refine lr (by simp[p18,p18'];rfl) ?_
             refine lr (by simp;rfl) ?_
             exact⟨_,hg3 _ (Option.some.inj h3),wk (by simp[wkI])⟩
            ·rw[if_neg (by rw[c36];decide)] at h3
             refine tr_exit ?_
             exact⟨_,he3 _ (Option.some.inj h3),wk (by simp[wkI])⟩
        ·refine kc1 ?_
         refine ko [3,4,5,6,8,16,17,112,113] 2 (by simp;rfl) ?_
         replace hvv14:=bnd hvv14;obtain⟨y20,hy20,hvv14⟩:=hvv14
         refine kcall [3,4,5,6,8,16,17,114] [] (ref23_Has_ok hy20) rfl rfl rfl Tryd.call13 (by simp) (by simp;rfl) ?_
         refine ko [3,4,5,6,8,16,17,116] 2 (by simp;rfl) ?_
         refine tops_split 116 (!y20) (by simp) (fun c37=>?_) (fun c37=>?_)
         ·rw[if_pos c37] at hvv14
          refine kskip 4 [] (by kernel_rfl) ?_
          refine ko [3,4,5,6,8,16,17,121] 1 (by simp;rfl) ?_
          refine tpN ?_
          cases hvv14
          exact⟨_,rfl,wk (by simp[wkI])⟩
         ·rw[if_neg (by rw[c37];decide)] at hvv14
          refine ko [3,4,5,6,8,16,17,116,117,118] 2 (by simp;rfl) ?_
          replace hvv14:=bnd hvv14;obtain⟨y21,hy21,hvv14⟩:=hvv14
          refine kcall [3,4,5,6,8,16,17,116,117,118,119] [] (rights_Closed_ok hy21) rfl rfl rfl Tryd.call14 (by simp) (by simp;rfl) ?_
          refine ko [3,4,5,6,8,16,17,117,118,119,120,121] 2 (by simp;rfl) ?_
          refine tpN ?_
          cases hvv14
          exact⟨_,rfl,wk (by simp[wkI])⟩
       ·rw[if_neg (by rw[c28];decide)] at h2
        refine tr_exit ?_
        exact⟨_,he2 _ (Option.some.inj h2),wk (by simp[wkI])⟩
    ·refine trb (tr_iter (fun s24:Int×Int=>({ nt:=151,env:=[(3,.ptr 28 0),(4,.ptr 4 0),(5,.d (.slice (rowsF (iRow .i64) y3.1))),(6,.d (.int .i64 y4.1)),(8,.ptr 8 0),(11,.d (.int .i64 s24.1)),(61,.d (.slice (rowsF (iRow .i64) y7))),(62,.d (.int .i64 ((y7).length:Int))),(63,.d (.int .i64 s24.2))],box:=[(4,[.d (.int .i64 y2.1.Credentials),.d (.int .i64 y2.1.Resources),.d (.slice (rowsF api_Grant_row y2.1.Grants)),.d (.slice (rowsF api_Store_row y2.1.Stores)),.d (.slice (rowsF api_Mint_row y2.1.Mints))]),(8,[.d (.int .i64 y6.1.Level),.d (.int .i64 y6.1.Worth),.d (.int .i64 y6.1.Audience),.d (.int .i64 y6.1.Score)]),(28,[.d (.slice (rowsF (iRow .i64) y5.2.L)),.d (.int .i64 y5.2.at_)])],vec:=[]}:St)) hI1 (wk (by simp[wkI])) fun G3 s24 o3 h3 hg3 he3=>?_)
     unfold top_TopBehind_l0 at h3
     refine kr [3,4,5,6,8,11,61,62,63,64] (by simp;rfl) ?_
     refine trq ?_
     refine trc (b:=(decide (s24.2 < ((y7).length:Int)))) (by simp) (fun c38=>?_) (fun c38=>?_)
     ·rw[if_pos c38] at h3
      refine trk ?_
      refine trq ?_
      refine trb ?_
      replace h3:=bnd h3;obtain⟨x25,p19,h3⟩:=h3
      replace p19:=idx_some p19
      have p19':=p19;try simp at p19'
      refine kr [3,4,5,6,8,11,12,13,61,62,63] (by simp[p19,p19'];rfl) ?_
      refine kc ?_
      refine ko [3,4,5,6,8,11,12,13,61,62,63,69,70,71] 3 (by simp;rfl) ?_
      replace h3:=bnd h3;obtain⟨y26,hy26,h3⟩:=h3
      refine kcall [3,4,5,6,8,11,12,13,61,62,63,72] [] (rights_Why_ok hy26) rfl rfl rfl Tryd.call10 (by simp) (by simp;rfl) ?_
      refine ko [3,4,5,6,8,11,12,13,14,15,61,62,63] 5 (by simp;rfl) ?_
      refine tpN ?_
      refine trq ?_
      replace h3:=bnd h3;obtain⟨v27,hvv27,h3⟩:=h3
      refine sjv (fun v27_:Bool=>({ nt:=151,env:=[(3,.ptr 28 0),(4,.ptr 4 0),(5,.d (.slice (rowsF (iRow .i64) y3.1))),(6,.d (.int .i64 y4.1)),(8,.ptr 8 0),(11,.d (.int .i64 s24.1)),(12,.d (.int .i64 s24.2)),(13,.d (.int .i64 x25)),(61,.d (.slice (rowsF (iRow .i64) y7))),(62,.d (.int .i64 ((y7).length:Int))),(63,.d (.int .i64 s24.2)),(90,.d (.bool v27_))],box:=[(4,[.d (.int .i64 y2.1.Credentials),.d (.int .i64 y2.1.Resources),.d (.slice (rowsF api_Grant_row y2.1.Grants)),.d (.slice (rowsF api_Store_row y2.1.Stores)),.d (.slice (rowsF api_Mint_row y2.1.Mints))]),(8,[.d (.int .i64 y6.1.Level),.d (.int .i64 y6.1.Worth),.d (.int .i64 y6.1.Audience),.d (.int .i64 y6.1.Score)]),(28,[.d (.slice (rowsF (iRow .i64) y5.2.L)),.d (.int .i64 y5.2.at_)])],vec:=[]}:St)) (fun v27_=>v27=v27_) (fun v27_ e=>?_) ?_
      ·subst e
       refine trc (b:=v27) (by simp) (fun c43=>?_) (fun c43=>?_)
       ·rw[if_pos c43] at h3
        refine kr [2] (by simp;rfl) ?_
        have k1:=he3 _ (Option.some.inj h3)
        subst k1
        dsimp only at h0
        cases h0
        exact trr ⟨[],by simp,rfl,by simp⟩
       ·rw[if_neg (by rw[c43];decide)] at h3
        refine trk ?_
        replace h3:=bnd h3;obtain⟨x28,p20,h3⟩:=h3
        replace p20:=idx_some p20
        have p20':=p20;try simp at p20'
        refine lr (by simp[p20,p20'];rfl) ?_
        refine lr (by simp;rfl) ?_
        exact⟨_,hg3 _ (Option.some.inj h3),wk (by simp[wkI])⟩
      ·refine kc1 ?_
       refine ko [3,4,5,6,8,11,12,13,14,15,61,62,63,79] 5 (by simp;rfl) ?_
       refine tops_split 79 (y26.2 != (decide (0 < x25))) (by simp) (fun c44=>?_) (fun c44=>?_)
       ·rw[if_pos c44] at hvv27
        refine kskip 10 [] (by kernel_rfl) ?_
        refine ko [3,4,5,6,8,11,12,13,61,62,63,90] 1 (by simp;rfl) ?_
        refine tpN ?_
        cases hvv27
        exact⟨_,rfl,wk (by simp[wkI])⟩
       ·rw[if_neg (by rw[c44];decide)] at hvv27
        refine ko [3,4,5,6,8,11,12,13,14,61,62,63,79,80,81] 2 (by simp;rfl) ?_
        refine tops_split 81 y26.2 (by simp) (fun c45=>?_) (fun c45=>?_)
        ·rw[if_pos c45] at hvv27
         refine ko [3,4,5,6,8,11,12,13,61,62,63,79,80,81,82,83,84,85,86] 5 (by simp;rfl) ?_
         replace hvv27:=bnd hvv27;obtain⟨y29,hy29,hvv27⟩:=hvv27
         refine kcall [3,4,5,6,8,11,12,13,61,62,63,79,80,81,82,83,84,85,86,87] [] (rights_Proves_ok hy29) rfl rfl rfl Tryd.call11 (by simp) (by simp;rfl) ?_
         refine ko [3,4,5,6,8,11,12,13,61,62,63,80,81,82,83,84,85,86,87,88,89,90] 3 (by simp;rfl) ?_
         refine tpN ?_
         cases hvv27
         exact⟨_,rfl,wk (by simp[wkI])⟩
        ·rw[if_neg (by rw[c45];decide)] at hvv27
         refine kskip 7 [] (by kernel_rfl) ?_
         refine ko [3,4,5,6,8,11,12,13,61,62,63,80,81,89,90] 2 (by simp;rfl) ?_
         refine tpN ?_
         cases hvv27
         exact⟨_,rfl,wk (by simp[wkI])⟩
     ·rw[if_neg (by rw[c38];decide)] at h3
      refine tr_exit ?_
      exact⟨_,he3 _ (Option.some.inj h3),wk (by simp[wkI])⟩
  ·refine kc1 ?_
   refine ko [3,4,5,6,8,10,54] 3 (by simp;rfl) ?_
   refine tops_split 54 (y6.2 != 0) (by simp) (fun c46=>?_) (fun c46=>?_)
   ·rw[c46] at hvv8
    refine kskip 5 [] (by kernel_rfl) ?_
    refine ko [3,4,5,6,8,10,60] 1 (by simp;rfl) ?_
    refine tpN ?_
    cases hvv8
    exact⟨_,rfl,wk (by simp[wkI])⟩
   ·rw[c46] at hvv8
    refine ko [3,4,5,6,8,10,60] 6 (by simp;rfl) ?_
    refine tpN ?_
    cases hvv8
    exact⟨_,rfl,wk (by simp[wkI])⟩
end Go.Vl
