/- Plain functions that mirror functions of the given program. Conditions: none. -/
import Derived.Test.YtbnfogbfphakmaaGreatDoorL0x
import Derived.Test.YtbnfogbfphakmaaGreatDoorLg1
import Derived.Test.YtbnfogbfphakmaaGreatDoorVmLz
import Derived.Test.YtbnfogbfphakmaaGreatDoorLq
import Derived.Test.YtbnfogbfphakmaaGreatDoorTyL
set_option maxHeartbeats 1000000
set_option linter.unusedSimpArgs false
set_option linter.unusedVariables false
namespace Go.Vl
open Go
noncomputable def readers_Check (a0:AI) (a1:AJ):Option (Int):=
 (directory_Check a0).bind fun y1=>
 if(y1 != 0)=true then
  some y1
 else
 (access_Check a1).bind fun y2=>
 some y2
noncomputable def readers_Reader (a0:AI) (a1:Int):Option (Bool):=
 Option.bind (
  if(decide (0≤a1))=true then
   if(decide (a1 < ((a0.Kinds).length:Int)))=true then
    (idx a0.Kinds a1).bind fun x2=>
    some (x2 != 2)
   else
    some false
  else
   some false) fun v1=>
 some v1
noncomputable def readers_fine (a0:AI) (a1:AJ) (a2:Int) (a3:Int):Option (Bool):=
 Option.bind (
  (readers_Check a0 a1).bind fun y2=>
  if(y2==0)=true then
   (readers_Reader a0 a2).bind fun y3=>
   if y3=true then
    (access_Place a1 a3).bind fun y4=>
    some y4
   else
    some false
  else
   some false) fun v1=>
 some v1
noncomputable def directory_those_l0 (a0:List Bool) (s2:Int×(List Int)):Option (Lp (Int×(List Int)) (List Int)):=
 if(decide (s2.1 < ((a0).length:Int)))=true then
  (idx a0 s2.1).bind fun x3=>
  if x3=true then
   (ck ((s2.2).length+([s2.1]).length≤268435456)).bind fun _=>
   some (.go (IntKind.i64.wrap (s2.1+1),(s2.2++[s2.1])))
  else
   some (.go (IntKind.i64.wrap (s2.1+1),s2.2))
 else
  some (.out s2.2)
noncomputable def directory_those (a0:List Bool):Option ((List Int)):=
 (iter (directory_those_l0 a0) (0,[])).bind fun v1=>
 some v1
noncomputable def directory_Upward (a0:AI) (a1:Int) (a2:Int):Option ((List Int)):=
 (directory_known a0 a1).bind fun y1=>
 if(!y1)=true then
  some []
 else
 (directory_at a0 a2).bind fun y2=>
 (directory_table_upward y2 a1).bind fun y3=>
 (directory_those y3).bind fun y4=>
 some y4
noncomputable def sYIndex_int_l0 (a0:List Int) (a1:Int) (s2:Int):Option (Lp Int (Unit ⊕ Int)):=
 if(decide (s2 < ((a0).length:Int)))=true then
  (idx a0 s2).bind fun x3=>
  if(a1==x3)=true then
   some (.out (.inr s2))
  else
   some (.go (IntKind.i64.wrap (s2+1)))
 else
  some (.out (.inl ()))
noncomputable def sYIndex_int (a0:List Int) (a1:Int):Option (Int):=
 (iter (sYIndex_int_l0 a0 a1) 0).bind fun q5=>
 match q5 with
 | .inl v1=>
  some (-1)
 | .inr r4=>
  some r4
noncomputable def sYContains_int (a0:List Int) (a1:Int):Option (Bool):=
 (sYIndex_int a0 a1).bind fun y1=>
 some (decide (0≤y1))
noncomputable def readers_grant_l0 (y2:(List Int)) (y1:(List Int)) (s4:Int):Option (Lp Int (Unit ⊕ (Int×Bool))):=
 if(decide (s4 < ((y2).length:Int)))=true then
  (idx y2 s4).bind fun x5=>
  (sYContains_int y1 x5).bind fun y6=>
  if y6=true then
   some (.out (.inr (x5,true)))
  else
   some (.go (IntKind.i64.wrap (s4+1)))
 else
  some (.out (.inl ()))
noncomputable def readers_grant (a0:AI) (a1:AJ) (a2:Int) (a3:Int) (a4:Int):Option (Int×Bool):=
 (directory_Upward a0 a2 a4).bind fun y1=>
 (access_Granted a1 a3 a4).bind fun y2=>
 (iter (readers_grant_l0 y2 y1) 0).bind fun q8=>
 match q8 with
 | .inl v3=>
  some (0,false)
 | .inr r7=>
  some r7
noncomputable def readers_May (a0:AI) (a1:AJ) (a2:Int) (a3:Int) (a4:Int):Option (Bool):=
 (readers_fine a0 a1 a2 a3).bind fun y1=>
 if(!y1)=true then
  some false
 else
 (access_Linked a1 a3 a4).bind fun y2=>
 (readers_grant a0 a1 a2 a3 a4).bind fun y3=>
 (some (y2.2||y3.2)).bind fun v4=>
 some v4
noncomputable def exposure_check (a0:AI) (a1:AJ) (a2:Int):Option (Int):=
 (readers_Check a0 a1).bind fun y1=>
 if(y1 != 0)=true then
  some y1
 else
 (access_Content a2).bind fun y2=>
 if(!y2)=true then
  some 2
 else
  some 0
noncomputable def access_Times_own0_l0 (a0:AJ) (s4:Int×(List Int)):Option (Lp (Int×(List Int)) (List Int)):=
 if(decide (s4.1 < ((a0.Events).length:Int)))=true then
  (idx a0.Events s4.1).bind fun x5=>
  (ck ((s4.2).length+([x5.Time]).length≤268435456)).bind fun _=>
  some (.go (IntKind.i64.wrap (s4.1+1),(s4.2++[x5.Time])))
 else
  some (.out s4.2)
noncomputable def access_Times_own0 (a0:AJ):Option ((List Int)):=
 (access_Check a0).bind fun y1=>
 if(y1 != 0)=true then
  some []
 else
 (iter (access_Times_own0_l0 a0) (0,[])).bind fun v2=>
 (sYCompact_int_eat0_own0 v2).bind fun y3=>
 some y3
noncomputable def exposure_times_l0 (a0:AI) (s5:Int×(List Int)):Option (Lp (Int×(List Int)) (List Int)):=
 if(decide (s5.1 < ((a0.Events).length:Int)))=true then
  (idx a0.Events s5.1).bind fun x6=>
  (ck ((s5.2).length+([x6.Time]).length≤268435456)).bind fun _=>
  some (.go (IntKind.i64.wrap (s5.1+1),(s5.2++[x6.Time])))
 else
  some (.out s5.2)
noncomputable def exposure_times (a0:AI) (a1:AJ):Option ((List Int)):=
 (access_Times_own0 a1).bind fun y1=>
 (iter (exposure_times_l0 a0) (0,y1)).bind fun v2=>
 (sYSort_int_vec0 v2).bind fun y3=>
 (sYCompact_int_eat0_own0 y3).bind fun y4=>
 some y4
noncomputable def copies_at_l0 (a0:AJ) (a1:Int) (s3:Int×(List Int)):Option (Lp (Int×(List Int)) (List Int)):=
 if(decide (s3.1 < ((a0.Events).length:Int)))=true then
  (idx a0.Events s3.1).bind fun x4=>
  if(decide (x4.Time≤a1))=true then
   (copies_state_happen_vec0 s3.2 x4).bind fun y5=>
   some (.go (IntKind.i64.wrap (s3.1+1),y5))
  else
   some (.go (IntKind.i64.wrap (s3.1+1),s3.2))
 else
  some (.out s3.2)
noncomputable def copies_at (a0:AJ) (a1:Int):Option ((List Int)):=
 (ck (0≤a0.Places∧a0.Places≤268435456)).bind fun _=>
 (some (List.replicate (Int.toNat a0.Places) 0:List Int)).bind fun l1=>
 (iter (copies_at_l0 a0 a1) (0,l1)).bind fun v2=>
 some v2
noncomputable def copies_Where_l0 (y2:(List Int)) (a1:Int) (s4:Int×(List Int)):Option (Lp (Int×(List Int)) (List Int)):=
 if(decide (s4.1 < ((y2).length:Int)))=true then
  (idx y2 s4.1).bind fun x5=>
  (copies_bit a1).bind fun y6=>
  if((J9 .u64 x5 y6) != 0)=true then
   (ck ((s4.2).length+([s4.1]).length≤268435456)).bind fun _=>
   some (.go (IntKind.i64.wrap (s4.1+1),(s4.2++[s4.1])))
  else
   some (.go (IntKind.i64.wrap (s4.1+1),s4.2))
 else
  some (.out s4.2)
noncomputable def copies_Where (a0:AJ) (a1:Int) (a2:Int):Option ((List Int)):=
 Option.bind (
  (access_Check a0).bind fun y7=>
  if(y7 != 0)=true then
   some true
  else
  (access_Content a1).bind fun y8=>
  some (!y8)) fun v1=>
 if v1=true then
  some []
 else
 (copies_at a0 a2).bind fun y2=>
 (iter (copies_Where_l0 y2 a1) (0,[])).bind fun v3=>
 some v3
noncomputable def exposure_place_l0 (y1:(List Int)) (a1:AJ) (a4:Int) (a3:Int) (a0:AI) (s3:Int):Option (Lp Int (Unit ⊕ (Int×Bool))):=
 if(decide (s3 < ((y1).length:Int)))=true then
  (idx y1 s3).bind fun x4=>
  (access_Linked a1 x4 a4).bind fun y5=>
  Option.bind (
   if(a3==(-1))=true then
    if y5.2=true then
     some true
    else
    if(a3 != (-1))=true then
     (readers_May a0 a1 a3 x4 a4).bind fun y7=>
     some y7
    else
     some false
   else
   if(a3 != (-1))=true then
    (readers_May a0 a1 a3 x4 a4).bind fun y8=>
    some y8
   else
    some false) fun v6=>
  if v6=true then
   some (.out (.inr (x4,true)))
  else
   some (.go (IntKind.i64.wrap (s3+1)))
 else
  some (.out (.inl ()))
noncomputable def exposure_place (a0:AI) (a1:AJ) (a2:Int) (a3:Int) (a4:Int):Option (Int×Bool):=
 (copies_Where a1 a2 a4).bind fun y1=>
 (iter (exposure_place_l0 y1 a1 a4 a3 a0) 0).bind fun q10=>
 match q10 with
 | .inl v2=>
  some (0,false)
 | .inr r9=>
  some r9
noncomputable def exposure_since_l0 (y1:(List Int)) (a0:AI) (a1:AJ) (a2:Int) (a3:Int) (s3:Int):Option (Lp Int (Unit ⊕ (Int×Bool))):=
 if(decide (s3 < ((y1).length:Int)))=true then
  (idx y1 s3).bind fun x4=>
  (exposure_place a0 a1 a2 a3 x4).bind fun y5=>
  if y5.2=true then
   some (.out (.inr (x4,true)))
  else
   some (.go (IntKind.i64.wrap (s3+1)))
 else
  some (.out (.inl ()))
noncomputable def exposure_since (a0:AI) (a1:AJ) (a2:Int) (a3:Int):Option (Int×Bool):=
 (exposure_times a0 a1).bind fun y1=>
 (iter (exposure_since_l0 y1 a0 a1 a2 a3) 0).bind fun q7=>
 match q7 with
 | .inl v2=>
  some (0,false)
 | .inr r6=>
  some r6
noncomputable def exposure_Since (a0:AI) (a1:AJ) (a2:Int) (a3:Int):Option (Int×Bool):=
 (exposure_check a0 a1 a2).bind fun y1=>
 if(y1 != 0)=true then
  some (0,false)
 else
 (exposure_since a0 a1 a2 a3).bind fun y2=>
 some (y2.1,y2.2)
end Go.Vl
namespace Go.Vl
open Go Go.Proofs
theorem EQ {a0:AI} {a1:AJ} {r:Int} (h0:readers_Check a0 a1=some r):Ac Tryz.prog 62 [] [.agg (AY a0),.agg (AX a1)] (.d (.int .i64 r)) []:=by
 unfold readers_Check at h0
 refine AW (nt:=13) (rs:=[.tmp 4]) Tryz.func62 rfl Tryz.ntmps62 rfl (by simp) (by decide) rfl fun K=>?_
 refine kr [2,3] (by simp;rfl) ?_
 refine trq ?_
 refine kc ?_
 refine ko [3,6] 1 (by simp;rfl) ?_
 replace h0:=bnd h0;obtain⟨y1,hy1,h0⟩:=h0
 refine AM [3,7] [] (Dm hy1) rfl rfl rfl Tryz.call109 (by simp) (by simp;rfl) ?_
 refine ko [3,5] 1 (by simp;rfl) ?_
 refine tpN ?_
 refine kr [3,5,9] (by simp;rfl) ?_
 refine trc (b:=(y1 != 0)) (by simp) (fun c1=>?_) (fun c1=>?_)
 ·rw[if_pos c1] at h0
  refine kr [4] (by simp;rfl) ?_
  cases h0
  exact trr ⟨[],by simp,rfl,by simp⟩
 ·rw[if_neg (by rw[c1];decide)] at h0
  refine trk ?_
  refine kc ?_
  refine ko [11] 1 (by simp;rfl) ?_
  replace h0:=bnd h0;obtain⟨y2,hy2,h0⟩:=h0
  refine AM [12] [] (CQ hy2) rfl rfl rfl Tryz.call110 (by simp) (by simp;rfl) ?_
  refine ko [4] 1 (by simp;rfl) ?_
  refine tpN ?_
  cases h0
  exact trr ⟨[],by simp,rfl,by simp⟩
theorem Gu {a0:AI} {a1:Int} {r:Bool} (h0:readers_Reader a0 a1=some r):Ac Tryz.prog 152 [] [.agg (AY a0),.d (.int .i64 a1)] (.d (.bool r)) []:=by
 unfold readers_Reader at h0
 refine AW (nt:=22) (rs:=[.tmp 4]) Tryz.func152 rfl Tryz.ntmps152 rfl (by simp) (by decide) rfl fun K=>?_
 refine kr [1,2] (by simp;rfl) ?_
 replace h0:=bnd h0;obtain⟨v1,hvv1,h0⟩:=h0
 refine sjv (fun v1_:Bool=>({ nt:=22,env:=[(4,.d (.bool v1_))],box:=[],vec:=[]}:St)) (fun v1_=>v1=v1_) (fun v1_ e=>?_) ?_
 ·subst e
  cases h0
  exact trr ⟨[],by simp,rfl,by simp⟩
 ·refine kc1 ?_
  refine ko [1,2,7] 3 (by simp;rfl) ?_
  refine AG 7 (decide (0≤a1)) (by simp) (fun c5=>?_) (fun c5=>?_)
  ·rw[if_pos c5] at hvv1
   refine ko [1,2,14] 7 (by simp;rfl) ?_
   refine AG 14 (decide (a1 < ((a0.Kinds).length:Int))) (by simp) (fun c6=>?_) (fun c6=>?_)
   ·rw[if_pos c6] at hvv1
    replace hvv1:=bnd hvv1;obtain⟨x2,p3,hvv1⟩:=hvv1
    replace p3:=AT p3
    have p3':=p3;try simp at p3'
    refine ko [4] 8 (by simp[p3,p3'];rfl) ?_
    refine tpN ?_
    cases hvv1
    exact⟨_,rfl,wk (by simp[wkI])⟩
   ·rw[if_neg (by rw[c6];decide)] at hvv1
    refine AR 6 [] (by kernel_rfl) ?_
    refine ko [4] 2 (by simp;rfl) ?_
    refine tpN ?_
    cases hvv1
    exact⟨_,rfl,wk (by simp[wkI])⟩
  ·rw[if_neg (by rw[c5];decide)] at hvv1
   refine AR 5 [] (by kernel_rfl) ?_
   refine ko [1,2,14] 2 (by simp;rfl) ?_
   refine AR 6 [] (by kernel_rfl) ?_
   refine ko [4] 2 (by simp;rfl) ?_
   refine tpN ?_
   cases hvv1
   exact⟨_,rfl,wk (by simp[wkI])⟩
theorem IM {a0:AI} {a1:AJ} {a2:Int} {a3:Int} {r:Bool} (h0:readers_fine a0 a1 a2 a3=some r):Ac Tryz.prog 122 [] [.agg (AY a0),.agg (AX a1),.d (.int .i64 a2),.d (.int .i64 a3)] (.d (.bool r)) []:=by
 unfold readers_fine at h0
 refine AW (nt:=23) (rs:=[.tmp 8]) Tryz.func122 rfl Tryz.ntmps122 rfl (by simp) (by decide) rfl fun K=>?_
 refine kr [2,3,4,5] (by simp;rfl) ?_
 replace h0:=bnd h0;obtain⟨v1,hvv1,h0⟩:=h0
 refine sjv (fun v1_:Bool=>({ nt:=23,env:=[(8,.d (.bool v1_))],box:=[],vec:=[]}:St)) (fun v1_=>v1=v1_) (fun v1_ e=>?_) ?_
 ·subst e
  cases h0
  exact trr ⟨[],by simp,rfl,by simp⟩
 ·refine kc1 ?_
  refine ko [2,3,4,5,9,10] 2 (by simp;rfl) ?_
  replace hvv1:=bnd hvv1;obtain⟨y2,hy2,hvv1⟩:=hvv1
  refine AM [2,3,4,5,11] [] (EQ hy2) rfl rfl rfl Tryz.call62 (by simp) (by simp;rfl) ?_
  refine ko [2,3,4,5,13] 2 (by simp;rfl) ?_
  refine AG 13 (y2==0) (by simp) (fun c5=>?_) (fun c5=>?_)
  ·rw[if_pos c5] at hvv1
   refine ko [3,5,13,14,15] 2 (by simp;rfl) ?_
   replace hvv1:=bnd hvv1;obtain⟨y3,hy3,hvv1⟩:=hvv1
   refine AM [3,5,13,16] [] (Gu hy3) rfl rfl rfl Tryz.call152 (by simp) (by simp;rfl) ?_
   refine ko [3,5,18] 2 (by simp;rfl) ?_
   refine AG 18 y3 (by simp) (fun c6=>?_) (fun c6=>?_)
   ·rw[if_pos c6] at hvv1
    refine ko [18,19,20] 2 (by simp;rfl) ?_
    replace hvv1:=bnd hvv1;obtain⟨y4,hy4,hvv1⟩:=hvv1
    refine AM [18,21] [] (CP hy4) rfl rfl rfl Tryz.call146 (by simp) (by simp;rfl) ?_
    refine ko [8] 2 (by simp;rfl) ?_
    refine tpN ?_
    cases hvv1
    exact⟨_,rfl,wk (by simp[wkI])⟩
   ·rw[if_neg (by rw[c6];decide)] at hvv1
    refine AR 3 [] (by kernel_rfl) ?_
    refine ko [8] 2 (by simp;rfl) ?_
    refine tpN ?_
    cases hvv1
    exact⟨_,rfl,wk (by simp[wkI])⟩
  ·rw[if_neg (by rw[c5];decide)] at hvv1
   refine AR 3 [] (by kernel_rfl) ?_
   refine ko [3,5,18] 2 (by simp;rfl) ?_
   refine AR 3 [] (by kernel_rfl) ?_
   refine ko [8] 2 (by simp;rfl) ?_
   refine tpN ?_
   cases hvv1
   exact⟨_,rfl,wk (by simp[wkI])⟩
theorem GE {a0:List Bool} {r:(List Int)} (h0:directory_those a0=some r):Ac Tryz.prog 192 [] [.d (.slice (AB B2 a0))] (.d (.slice (AB (AH .i64) r))) []:=by
 unfold directory_those at h0
 refine AW (nt:=20) (rs:=[.tmp 2]) Tryz.func192 rfl Tryz.ntmps192 rfl (by simp) (by decide) rfl fun K=>?_
 refine kr [0] (by simp;rfl) ?_
 refine kr [0,3] (by simp;rfl) ?_
 refine trq ?_
 refine kr [3,6,7,8] (by simp;rfl) ?_
 refine Al (HM 3 17 3 1 (by simp) (by simp)) ?_
 replace h0:=bnd h0;obtain⟨e1,hI1,h0⟩:=h0
 refine tjv (fun v1:(List Int)=>({ nt:=20,env:=[(3,.vec 17)],box:=[],vec:=[(17,⟨3,1,AB (AH .i64) v1⟩)]}:St)) (fun v1=>v1=e1) (fun v1 hI1e _ W1=>?_) ?_
 ·subst hI1e
  refine Al W1 ?_
  refine kr [2] (by simp;rfl) ?_
  cases h0
  exact trr ⟨[17],by simp,rfl,by simp⟩
 ·refine trb (Ai (fun s2:Int×(List Int)=>({ nt:=20,env:=[(3,.vec 17),(6,.d (.slice (AB B2 a0))),(7,.d (.int .i64 ((a0).length:Int))),(8,.d (.int .i64 s2.1))],box:=[],vec:=[(17,⟨3,1,AB (AH .i64) s2.2⟩)]}:St)) hI1 (wk (by simp[wkI])) fun G1 s2 o1 h1 hg1 he1=>?_)
  unfold directory_those_l0 at h1
  refine kr [3,6,7,8,9] (by simp;rfl) ?_
  refine trq ?_
  refine trc (b:=(decide (s2.1 < ((a0).length:Int)))) (by simp) (fun c7=>?_) (fun c7=>?_)
  ·rw[if_pos c7] at h1
   refine trk ?_
   refine trq ?_
   refine trb ?_
   replace h1:=bnd h1;obtain⟨x3,p8,h1⟩:=h1
   replace p8:=AT p8
   have p8':=p8;try simp at p8'
   refine kr [3,4,5,6,7,8] (by simp[p8,p8'];rfl) ?_
   refine kr [3,4,6,7,8,13] (by simp;rfl) ?_
   refine trc (b:=x3) (by simp) (fun c8=>?_) (fun c8=>?_)
   ·rw[if_pos c8] at h1
    replace h1:=bnd h1;obtain⟨_,p10,h1⟩:=h1
    replace p10:=AZ p10
    have p10':=p10;try simp at p10'
    refine lr (by simp[p10,p10'];rfl) ?_
    refine lr (by simp;rfl) ?_
    exact⟨_,hg1 _ (Option.some.inj h1),wk (by simp[wkI])⟩
   ·rw[if_neg (by rw[c8];decide)] at h1
    refine trk ?_
    refine lr (by simp;rfl) ?_
    exact⟨_,hg1 _ (Option.some.inj h1),wk (by simp[wkI])⟩
  ·rw[if_neg (by rw[c7];decide)] at h1
   refine Af ?_
   exact⟨_,he1 _ (Option.some.inj h1),wk (by simp[wkI])⟩
theorem Fq {a0:AI} {a1:Int} {a2:Int} {r:(List Int)} (h0:directory_Upward a0 a1 a2=some r):Ac Tryz.prog 153 [] [.agg (AY a0),.d (.int .i64 a1),.d (.int .i64 a2)] (.d (.slice (AB (AH .i64) r))) []:=by
 unfold directory_Upward at h0
 refine AW (nt:=17) (rs:=[.tmp 6]) Tryz.func153 rfl Tryz.ntmps153 rfl (by simp) (by decide) rfl fun K=>?_
 refine kr [1,2,3] (by simp;rfl) ?_
 refine trq ?_
 refine kc ?_
 refine ko [1,2,3,7,8] 2 (by simp;rfl) ?_
 replace h0:=bnd h0;obtain⟨y1,hy1,h0⟩:=h0
 refine AM [1,2,3,9] [] (GD hy1) rfl rfl rfl Tryz.call191 (by simp) (by simp;rfl) ?_
 refine ko [1,2,3,10] 1 (by simp;rfl) ?_
 refine tpN ?_
 refine trc (b:=(!y1)) (by simp) (fun c1=>?_) (fun c1=>?_)
 ·rw[if_pos c1] at h0
  refine kr [6] (by simp;rfl) ?_
  cases h0
  exact trr ⟨[],by simp,rfl,by simp⟩
 ·rw[if_neg (by rw[c1];decide)] at h0
  refine trk ?_
  refine kc ?_
  refine ko [1,11,12] 2 (by simp;rfl) ?_
  replace h0:=bnd h0;obtain⟨y2,hy2,h0⟩:=h0
  refine AM [1,13] [] (IL hy2) rfl rfl rfl Tryz.call193 (by simp) (by simp;rfl) ?_
  refine ko [13,14] 1 (by simp;rfl) ?_
  replace h0:=bnd h0;obtain⟨y3,hy3,h0⟩:=h0
  refine AM [15] [] (Dp hy3) rfl rfl rfl Tryz.call194 (by simp) (by simp;rfl) ?_
  replace h0:=bnd h0;obtain⟨y4,hy4,h0⟩:=h0
  refine AM [16] [] (GE hy4) rfl rfl rfl Tryz.call192 (by simp) (by simp;rfl) ?_
  refine ko [6] 1 (by simp;rfl) ?_
  refine tpN ?_
  cases h0
  exact trr ⟨[],by simp,rfl,by simp⟩
theorem Jw {a0:List Int} {a1:Int} {r:Int} (h0:sYIndex_int a0 a1=some r):Ac Tryz.prog 196 [] [.d (.slice (AB (AH .i64) a0)),.d (.int .i64 a1)] (.d (.int .i64 r)) []:=by
 unfold sYIndex_int at h0
 refine AW (nt:=19) (rs:=[.tmp 4]) Tryz.func196 rfl Tryz.ntmps196 rfl (by simp) (by decide) rfl fun K=>?_
 refine kr [0,1] (by simp;rfl) ?_
 refine trq ?_
 refine kr [0,1,7,8] (by simp;rfl) ?_
 replace h0:=bnd h0;obtain⟨e1,hI1,h0⟩:=h0
 refine tjv (fun v1:Unit=>({ nt:=19,env:=[],box:=[],vec:=[]}:St)) (fun v1=>.inl v1=e1) (fun v1 hI1e _ W1=>?_) ?_
 ·subst hI1e
  dsimp only at h0
  refine Al W1 ?_
  refine kr [4] (by simp;rfl) ?_
  cases h0
  exact trr ⟨[],by simp,rfl,by simp⟩
 ·refine trb (Ai (fun s2:Int=>({ nt:=19,env:=[(0,.d (.slice (AB (AH .i64) a0))),(1,.d (.int .i64 a1)),(7,.d (.int .i64 ((a0).length:Int))),(8,.d (.int .i64 s2))],box:=[],vec:=[]}:St)) hI1 (wk (by simp[wkI])) fun G1 s2 o1 h1 hg1 he1=>?_)
  unfold sYIndex_int_l0 at h1
  refine kr [0,1,7,8,9] (by simp;rfl) ?_
  refine trq ?_
  refine trc (b:=(decide (s2 < ((a0).length:Int)))) (by simp) (fun c5=>?_) (fun c5=>?_)
  ·rw[if_pos c5] at h1
   refine trk ?_
   refine trq ?_
   refine trb ?_
   refine kr [0,1,5,7,8] (by simp;rfl) ?_
   replace h1:=bnd h1;obtain⟨x3,p3,h1⟩:=h1
   replace p3:=AT p3
   have p3':=p3;try simp at p3'
   refine kr [0,1,5,7,8,16] (by simp[p3,p3'];rfl) ?_
   refine trc (b:=(a1==x3)) (by simp) (fun c6=>?_) (fun c6=>?_)
   ·rw[if_pos c6] at h1
    refine kr [4] (by simp;rfl) ?_
    have k1:=he1 _ (Option.some.inj h1)
    subst k1
    dsimp only at h0
    cases h0
    exact trr ⟨[],by simp,rfl,by simp⟩
   ·rw[if_neg (by rw[c6];decide)] at h1
    refine trk ?_
    refine lr (by simp;rfl) ?_
    exact⟨_,hg1 _ (Option.some.inj h1),wk (by simp[wkI])⟩
  ·rw[if_neg (by rw[c5];decide)] at h1
   refine Af ?_
   exact⟨_,he1 _ (Option.some.inj h1),wk (by simp[wkI])⟩
theorem Gv {a0:List Int} {a1:Int} {r:Bool} (h0:sYContains_int a0 a1=some r):Ac Tryz.prog 155 [] [.d (.slice (AB (AH .i64) a0)),.d (.int .i64 a1)] (.d (.bool r)) []:=by
 unfold sYContains_int at h0
 refine AW (nt:=9) (rs:=[.tmp 4]) Tryz.func155 rfl Tryz.ntmps155 rfl (by simp) (by decide) rfl fun K=>?_
 refine kr [0,1] (by simp;rfl) ?_
 refine kc ?_
 refine ko [5,6] 2 (by simp;rfl) ?_
 replace h0:=bnd h0;obtain⟨y1,hy1,h0⟩:=h0
 refine AM [7] [] (Jw hy1) rfl rfl rfl Tryz.call196 (by simp) (by simp;rfl) ?_
 refine ko [4] 2 (by simp;rfl) ?_
 refine tpN ?_
 cases h0
 exact trr ⟨[],by simp,rfl,by simp⟩
theorem Hg {a0:AI} {a1:AJ} {a2:Int} {a3:Int} {a4:Int} {r:Int×Bool} (h0:readers_grant a0 a1 a2 a3 a4=some r):Ac Tryz.prog 123 [] [.agg (AY a0),.agg (AX a1),.d (.int .i64 a2),.d (.int .i64 a3),.d (.int .i64 a4)] (.tup [.d (.int .i64 r.1),.d (.bool r.2)]) []:=by
 unfold readers_grant at h0
 refine AW (nt:=33) (rs:=[.tmp 10,.tmp 11]) Tryz.func123 rfl Tryz.ntmps123 rfl (by simp) (by decide) rfl fun K=>?_
 refine kr [2,3,4,5,6] (by simp;rfl) ?_
 refine kc ?_
 refine ko [3,4,6,15,16,17] 3 (by simp;rfl) ?_
 replace h0:=bnd h0;obtain⟨y1,hy1,h0⟩:=h0
 refine AM [3,4,6,18] [] (Fq hy1) rfl rfl rfl Tryz.call153 (by simp) (by simp;rfl) ?_
 refine ko [3,4,6,12] 1 (by simp;rfl) ?_
 refine tpN ?_
 refine trq ?_
 refine kc ?_
 refine ko [12,19,20,21] 3 (by simp;rfl) ?_
 replace h0:=bnd h0;obtain⟨y2,hy2,h0⟩:=h0
 refine AM [12,22] [] (Gt hy2) rfl rfl rfl Tryz.call154 (by simp) (by simp;rfl) ?_
 refine ko [12,22,23,24] 2 (by simp;rfl) ?_
 refine tpN ?_
 replace h0:=bnd h0;obtain⟨e1,hI1,h0⟩:=h0
 refine tjv (fun v3:Unit=>({ nt:=33,env:=[],box:=[],vec:=[]}:St)) (fun v3=>.inl v3=e1) (fun v3 hI1e _ W1=>?_) ?_
 ·subst hI1e
  dsimp only at h0
  refine Al W1 ?_
  refine kr [10,11] (by simp;rfl) ?_
  cases h0
  exact trr ⟨[],by simp,rfl,by simp⟩
 ·refine trb (Ai (fun s4:Int=>({ nt:=33,env:=[(12,.d (.slice (AB (AH .i64) y1))),(22,.d (.slice (AB (AH .i64) y2))),(23,.d (.int .i64 ((y2).length:Int))),(24,.d (.int .i64 s4))],box:=[],vec:=[]}:St)) hI1 (wk (by simp[wkI])) fun G1 s4 o1 h1 hg1 he1=>?_)
  unfold readers_grant_l0 at h1
  refine kr [12,22,23,24,25] (by simp;rfl) ?_
  refine trq ?_
  refine trc (b:=(decide (s4 < ((y2).length:Int)))) (by simp) (fun c5=>?_) (fun c5=>?_)
  ·rw[if_pos c5] at h1
   refine trk ?_
   refine trq ?_
   refine trb ?_
   replace h1:=bnd h1;obtain⟨x5,p3,h1⟩:=h1
   replace p3:=AT p3
   have p3':=p3;try simp at p3'
   refine kr [12,14,22,23,24] (by simp[p3,p3'];rfl) ?_
   refine kc ?_
   refine ko [12,14,22,23,24,28,29] 2 (by simp;rfl) ?_
   replace h1:=bnd h1;obtain⟨y6,hy6,h1⟩:=h1
   refine AM [12,14,22,23,24,30] [] (Gv hy6) rfl rfl rfl Tryz.call155 (by simp) (by simp;rfl) ?_
   refine tpN ?_
   refine trc (b:=y6) (by simp) (fun c6=>?_) (fun c6=>?_)
   ·rw[if_pos c6] at h1
    refine kr [10,11] (by simp;rfl) ?_
    have k1:=he1 _ (Option.some.inj h1)
    subst k1
    dsimp only at h0
    cases h0
    exact trr ⟨[],by simp,rfl,by simp⟩
   ·rw[if_neg (by rw[c6];decide)] at h1
    refine trk ?_
    refine lr (by simp;rfl) ?_
    exact⟨_,hg1 _ (Option.some.inj h1),wk (by simp[wkI])⟩
  ·rw[if_neg (by rw[c5];decide)] at h1
   refine Af ?_
   exact⟨_,he1 _ (Option.some.inj h1),wk (by simp[wkI])⟩
theorem FR {a0:AI} {a1:AJ} {a2:Int} {a3:Int} {a4:Int} {r:Bool} (h0:readers_May a0 a1 a2 a3 a4=some r):Ac Tryz.prog 68 [] [.agg (AY a0),.agg (AX a1),.d (.int .i64 a2),.d (.int .i64 a3),.d (.int .i64 a4)] (.d (.bool r)) []:=by
 unfold readers_May at h0
 refine AW (nt:=41) (rs:=[.tmp 10]) Tryz.func68 rfl Tryz.ntmps68 rfl (by simp) (by decide) rfl fun K=>?_
 refine kr [2,3,4,5,6] (by simp;rfl) ?_
 refine trq ?_
 refine kc ?_
 refine ko [2,3,4,5,6,15,16,17,18] 4 (by simp;rfl) ?_
 replace h0:=bnd h0;obtain⟨y1,hy1,h0⟩:=h0
 refine AM [2,3,4,5,6,19] [] (IM hy1) rfl rfl rfl Tryz.call122 (by simp) (by simp;rfl) ?_
 refine ko [2,3,4,5,6,20] 1 (by simp;rfl) ?_
 refine tpN ?_
 refine trc (b:=(!y1)) (by simp) (fun c1=>?_) (fun c1=>?_)
 ·rw[if_pos c1] at h0
  refine kr [10] (by simp;rfl) ?_
  cases h0
  exact trr ⟨[],by simp,rfl,by simp⟩
 ·rw[if_neg (by rw[c1];decide)] at h0
  refine trk ?_
  refine kc ?_
  refine ko [2,3,4,5,6,22,23,24] 3 (by simp;rfl) ?_
  replace h0:=bnd h0;obtain⟨y2,hy2,h0⟩:=h0
  refine AM [2,3,4,5,6,25] [] (EP hy2) rfl rfl rfl Tryz.call67 (by simp) (by simp;rfl) ?_
  refine ko [2,3,4,5,6,12] 5 (by simp;rfl) ?_
  refine tpN ?_
  refine kc ?_
  refine ko [12,29,30,31,32,33] 5 (by simp;rfl) ?_
  replace h0:=bnd h0;obtain⟨y3,hy3,h0⟩:=h0
  refine AM [12,34] [] (Hg hy3) rfl rfl rfl Tryz.call123 (by simp) (by simp;rfl) ?_
  refine ko [12,14] 5 (by simp;rfl) ?_
  refine tpN ?_
  replace h0:=bnd h0;obtain⟨v4,hvv4,h0⟩:=h0
  refine sjv (fun v4_:Bool=>({ nt:=41,env:=[(10,.d (.bool v4_))],box:=[],vec:=[]}:St)) (fun v4_=>v4=v4_) (fun v4_ e=>?_) ?_
  ·subst e
   cases h0
   exact trr ⟨[],by simp,rfl,by simp⟩
  ·refine kc1 ?_
   refine ko [14,38] 2 (by simp;rfl) ?_
   refine AG 38 y2.2 (by simp) (fun c4=>?_) (fun c4=>?_)
   ·rw[c4] at hvv4
    refine ko [10] 3 (by simp;rfl) ?_
    refine tpN ?_
    cases hvv4
    exact⟨_,rfl,wk (by simp[wkI])⟩
   ·rw[c4] at hvv4
    refine ko [10] 3 (by simp;rfl) ?_
    refine tpN ?_
    cases hvv4
    exact⟨_,rfl,wk (by simp[wkI])⟩
theorem Gw {a0:AI} {a1:AJ} {a2:Int} {r:Int} (h0:exposure_check a0 a1 a2=some r):Ac Tryz.prog 27 [] [.agg (AY a0),.agg (AX a1),.d (.int .i64 a2)] (.d (.int .i64 r)) []:=by
 unfold exposure_check at h0
 refine AW (nt:=17) (rs:=[.tmp 6]) Tryz.func27 rfl Tryz.ntmps27 rfl (by simp) (by decide) rfl fun K=>?_
 refine kr [2,3,4] (by simp;rfl) ?_
 refine trq ?_
 refine kc ?_
 refine ko [2,8,9] 2 (by simp;rfl) ?_
 replace h0:=bnd h0;obtain⟨y1,hy1,h0⟩:=h0
 refine AM [2,10] [] (EQ hy1) rfl rfl rfl Tryz.call62 (by simp) (by simp;rfl) ?_
 refine ko [2,7] 1 (by simp;rfl) ?_
 refine tpN ?_
 refine kr [2,7,12] (by simp;rfl) ?_
 refine trc (b:=(y1 != 0)) (by simp) (fun c1=>?_) (fun c1=>?_)
 ·rw[if_pos c1] at h0
  refine kr [6] (by simp;rfl) ?_
  cases h0
  exact trr ⟨[],by simp,rfl,by simp⟩
 ·rw[if_neg (by rw[c1];decide)] at h0
  refine trk ?_
  refine trq ?_
  refine kc ?_
  refine ko [14] 1 (by simp;rfl) ?_
  replace h0:=bnd h0;obtain⟨y2,hy2,h0⟩:=h0
  refine AM [15] [] (Cj hy2) rfl rfl rfl Tryz.call63 (by simp) (by simp;rfl) ?_
  refine ko [16] 1 (by simp;rfl) ?_
  refine tpN ?_
  refine trc (b:=(!y2)) (by simp) (fun c2=>?_) (fun c2=>?_)
  ·rw[if_pos c2] at h0
   refine kr [6] (by simp;rfl) ?_
   cases h0
   exact trr ⟨[],by simp,rfl,by simp⟩
  ·rw[if_neg (by rw[c2];decide)] at h0
   refine trk ?_
   refine kr [6] (by simp;rfl) ?_
   cases h0
   exact trr ⟨[],by simp,rfl,by simp⟩
theorem FS {a0:AJ} {r:(List Int)} (h0:access_Times_own0 a0=some r):DI Tryz.prog 115 [] [] [.agg (AX a0)] (.vec (InV 0)) [] [⟨3,1,AB (AH .i64) r⟩]:=by
 unfold access_Times_own0 at h0
 refine Iv (nt:=24) (rs:=[.tmp 2]) Tryz.func115 rfl Tryz.ntmps115 rfl (by simp) (by decide) rfl fun K=>?_
 refine kr [1] (by simp;rfl) ?_
 refine trq ?_
 refine kc ?_
 refine ko [1,6] 1 (by simp;rfl) ?_
 replace h0:=bnd h0;obtain⟨y1,hy1,h0⟩:=h0
 refine AM [1,7] [] (CQ hy1) rfl rfl rfl Tryz.call110 (by simp) (by simp;rfl) ?_
 refine ko [1,8] 1 (by simp;rfl) ?_
 refine tpN ?_
 refine trc (b:=(y1 != 0)) (by simp) (fun c1=>?_) (fun c1=>?_)
 ·rw[if_pos c1] at h0
  refine kr [2] (by simp;rfl) ?_
  refine Al (HM 2 600002 3 1 (by simp) (by simp)) ?_
  cases h0
  exact trr ⟨[],[600002],by simp,by simp,by simp,by simp,by simp⟩
 ·rw[if_neg (by rw[c1];decide)] at h0
  refine trk ?_
  refine kr [1,3] (by simp;rfl) ?_
  refine trq ?_
  refine kr [3,10,11,12] (by simp;rfl) ?_
  refine Al (HM 3 20 3 1 (by simp) (by simp)) ?_
  replace h0:=bnd h0;obtain⟨e1,hI1,h0⟩:=h0
  refine tjv (fun v2:(List Int)=>({ nt:=24,env:=[(3,.vec 20)],box:=[],vec:=[(20,⟨3,1,AB (AH .i64) v2⟩)]}:St)) (fun v2=>v2=e1) (fun v2 hI1e _ W1=>?_) ?_
  ·subst hI1e
   refine Al W1 ?_
   refine kc ?_
   refine ko [22] 1 (by simp;rfl) ?_
   replace h0:=bnd h0;obtain⟨y3,hy3,h0⟩:=h0
   refine B7 [23] [] [20] [600092] (B8 hy3) rfl rfl rfl Tryz.call117 (by simp) (by simp;rfl) ?_
   refine ko [2] 1 (by simp;rfl) ?_
   refine tpN ?_
   cases h0
   exact trr ⟨[],[600092],by simp,by simp,by simp,by simp,by simp⟩
  ·refine trb (Ai (fun s4:Int×(List Int)=>({ nt:=24,env:=[(3,.vec 20),(10,.d (.slice (AB AK a0.Events))),(11,.d (.int .i64 ((a0.Events).length:Int))),(12,.d (.int .i64 s4.1))],box:=[],vec:=[(20,⟨3,1,AB (AH .i64) s4.2⟩)]}:St)) hI1 (wk (by simp[wkI])) fun G1 s4 o1 h1 hg1 he1=>?_)
   unfold access_Times_own0_l0 at h1
   refine kr [3,10,11,12,13] (by simp;rfl) ?_
   refine trq ?_
   refine trc (b:=(decide (s4.1 < ((a0.Events).length:Int)))) (by simp) (fun c5=>?_) (fun c5=>?_)
   ·rw[if_pos c5] at h1
    refine trk ?_
    refine trq ?_
    refine trb ?_
    replace h1:=bnd h1;obtain⟨x5,p8,h1⟩:=h1
    replace p8:=AT p8
    have p8':=p8;try simp at p8'
    refine kr [3,5,10,11,12] (by simp[p8,p8'];rfl) ?_
    replace h1:=bnd h1;obtain⟨_,p10,h1⟩:=h1
    replace p10:=AZ p10
    have p10':=p10;try simp at p10'
    refine lr (by simp[p10,p10'];rfl) ?_
    refine lr (by simp;rfl) ?_
    exact⟨_,hg1 _ (Option.some.inj h1),wk (by simp[wkI])⟩
   ·rw[if_neg (by rw[c5];decide)] at h1
    refine Af ?_
    exact⟨_,he1 _ (Option.some.inj h1),wk (by simp[wkI])⟩
theorem Gx {a0:AI} {a1:AJ} {r:(List Int)} (h0:exposure_times a0 a1=some r):Ac Tryz.prog 64 [] [.agg (AY a0),.agg (AX a1)] (.d (.slice (AB (AH .i64) r))) []:=by
 unfold exposure_times at h0
 refine AW (nt:=27) (rs:=[.tmp 4]) Tryz.func64 rfl Tryz.ntmps64 rfl (by simp) (by decide) rfl fun K=>?_
 refine kr [2,3] (by simp;rfl) ?_
 refine kc ?_
 refine ko [2,8] 1 (by simp;rfl) ?_
 replace h0:=bnd h0;obtain⟨y1,hy1,h0⟩:=h0
 refine B7 [2,9] [] [] [600036] (FS hy1) rfl rfl rfl Tryz.call115 (by simp) (by simp;rfl) ?_
 refine ko [2,5] 1 (by simp;rfl) ?_
 refine tpN ?_
 refine trq ?_
 refine kr [5,11,12,13] (by simp;rfl) ?_
 replace h0:=bnd h0;obtain⟨e1,hI1,h0⟩:=h0
 refine tjv (fun v2:(List Int)=>({ nt:=27,env:=[(5,.vec 600036)],box:=[],vec:=[(600036,⟨3,1,AB (AH .i64) v2⟩)]}:St)) (fun v2=>v2=e1) (fun v2 hI1e _ W1=>?_) ?_
 ·subst hI1e
  refine Al W1 ?_
  refine kc ?_
  refine ko [5,23] 1 (by simp;rfl) ?_
  replace h0:=bnd h0;obtain⟨y3,hy3,h0⟩:=h0
  refine NH [5] [] [600036] [(5,600036),(23,600036)] (Dh hy3) rfl rfl rfl Tryz.call116 (by simp) (by simp;rfl) ?_
  refine tpN ?_
  refine kc ?_
  refine ko [25] 1 (by simp;rfl) ?_
  replace h0:=bnd h0;obtain⟨y4,hy4,h0⟩:=h0
  refine B7 [26] [] [600036] [600104] (B8 hy4) rfl rfl rfl Tryz.call117 (by simp) (by simp;rfl) ?_
  refine ko [4] 1 (by simp;rfl) ?_
  refine tpN ?_
  cases h0
  exact trr ⟨[600104],by simp,rfl,by simp⟩
 ·refine trb (Ai (fun s5:Int×(List Int)=>({ nt:=27,env:=[(5,.vec 600036),(11,.d (.slice (AB AS a0.Events))),(12,.d (.int .i64 ((a0.Events).length:Int))),(13,.d (.int .i64 s5.1))],box:=[],vec:=[(600036,⟨3,1,AB (AH .i64) s5.2⟩)]}:St)) hI1 (wk (by simp[wkI])) fun G1 s5 o1 h1 hg1 he1=>?_)
  unfold exposure_times_l0 at h1
  refine kr [5,11,12,13,14] (by simp;rfl) ?_
  refine trq ?_
  refine trc (b:=(decide (s5.1 < ((a0.Events).length:Int)))) (by simp) (fun c3=>?_) (fun c3=>?_)
  ·rw[if_pos c3] at h1
   refine trk ?_
   refine trq ?_
   refine trb ?_
   replace h1:=bnd h1;obtain⟨x6,p7,h1⟩:=h1
   replace p7:=AT p7
   have p7':=p7;try simp at p7'
   refine kr [5,7,11,12,13] (by simp[p7,p7'];rfl) ?_
   replace h1:=bnd h1;obtain⟨_,p9,h1⟩:=h1
   replace p9:=AZ p9
   have p9':=p9;try simp at p9'
   refine lr (by simp[p9,p9'];rfl) ?_
   refine lr (by simp;rfl) ?_
   exact⟨_,hg1 _ (Option.some.inj h1),Wk.trans (Wl 21 600036) (wk (by simp[wkI]))⟩
  ·rw[if_neg (by rw[c3];decide)] at h1
   refine Af ?_
   exact⟨_,he1 _ (Option.some.inj h1),wk (by simp[wkI])⟩
theorem Le {a0:AJ} {a1:Int} {r:(List Int)} (h0:copies_at a0 a1=some r):Ac Tryz.prog 118 [] [.agg (AX a0),.d (.int .i64 a1)] (.d (.slice (AB (AH .u64) r))) []:=by
 unfold copies_at at h0
 refine AW (nt:=27) (rs:=[.tmp 4]) Tryz.func118 rfl Tryz.ntmps118 rfl (by simp) (by decide) rfl fun K=>?_
 refine kr [1,2] (by simp;rfl) ?_
 replace h0:=bnd h0;obtain⟨_,p1,h0⟩:=h0
 replace p1:=AZ p1
 have p1':=p1;try simp at p1'
 replace h0:=bnd h0;obtain⟨l1,p2,h0⟩:=h0
 replace p2:=Option.some.inj p2
 refine kr [1,2,5] (by simp[p1,(show List.replicate (Int.toNat a0.Places) ([.int .u64 0]:List D)=AB (AH .u64) l1 from by subst p2;simp[AB]),p1'];rfl) ?_
 refine trq ?_
 refine kr [1,5,12,13,14] (by simp;rfl) ?_
 replace h0:=bnd h0;obtain⟨e1,hI1,h0⟩:=h0
 refine tjv (fun v2:(List Int)=>({ nt:=27,env:=[(5,.vec 10)],box:=[],vec:=[(10,⟨193,1,AB (AH .u64) v2⟩)]}:St)) (fun v2=>v2=e1) (fun v2 hI1e _ W1=>?_) ?_
 ·subst hI1e
  refine Al W1 ?_
  refine kr [4] (by simp;rfl) ?_
  cases h0
  exact trr ⟨[10],by simp,rfl,by simp⟩
 ·refine trb (Ai (fun s3:Int×(List Int)=>({ nt:=27,env:=[(1,.d (.int .i64 a1)),(5,.vec 10),(12,.d (.slice (AB AK a0.Events))),(13,.d (.int .i64 ((a0.Events).length:Int))),(14,.d (.int .i64 s3.1))],box:=[],vec:=[(10,⟨193,1,AB (AH .u64) s3.2⟩)]}:St)) hI1 (wk (by simp[wkI])) fun G1 s3 o1 h1 hg1 he1=>?_)
  unfold copies_at_l0 at h1
  refine kr [1,5,12,13,14,15] (by simp;rfl) ?_
  refine trq ?_
  refine trc (b:=(decide (s3.1 < ((a0.Events).length:Int)))) (by simp) (fun c5=>?_) (fun c5=>?_)
  ·rw[if_pos c5] at h1
   refine trk ?_
   refine trq ?_
   refine trb ?_
   replace h1:=bnd h1;obtain⟨x4,p5,h1⟩:=h1
   replace p5:=AT p5
   have p5':=p5;try simp at p5'
   refine kr [1,5,7,12,13,14] (by simp[p5,p5'];rfl) ?_
   refine kr [1,5,7,12,13,14,21] (by simp;rfl) ?_
   refine trc (b:=(decide (x4.Time≤a1))) (by simp) (fun c6=>?_) (fun c6=>?_)
   ·rw[if_pos c6] at h1
    refine kc1 ?_
    refine ko [1,5,12,13,14,22,23] 2 (by simp;rfl) ?_
    replace h1:=bnd h1;obtain⟨y5,hy5,h1⟩:=h1
    refine NH [1,5,12,13,14] [] [10] [(5,10),(22,10)] (DT hy5) rfl rfl rfl Tryz.call150 (by simp) (by simp;rfl) ?_
    refine tpN ?_
    refine lr (by simp;rfl) ?_
    exact⟨_,hg1 _ (Option.some.inj h1),wk (by simp[wkI])⟩
   ·rw[if_neg (by rw[c6];decide)] at h1
    refine trk ?_
    refine lr (by simp;rfl) ?_
    exact⟨_,hg1 _ (Option.some.inj h1),wk (by simp[wkI])⟩
  ·rw[if_neg (by rw[c5];decide)] at h1
   refine Af ?_
   exact⟨_,he1 _ (Option.some.inj h1),wk (by simp[wkI])⟩
theorem IN {a0:AJ} {a1:Int} {a2:Int} {r:(List Int)} (h0:copies_Where a0 a1 a2=some r):Ac Tryz.prog 66 [] [.agg (AX a0),.d (.int .i64 a1),.d (.int .i64 a2)] (.d (.slice (AB (AH .i64) r))) []:=by
 unfold copies_Where at h0
 refine AW (nt:=38) (rs:=[.tmp 6]) Tryz.func66 rfl Tryz.ntmps66 rfl (by simp) (by decide) rfl fun K=>?_
 refine kr [1,2,3] (by simp;rfl) ?_
 refine trq ?_
 replace h0:=bnd h0;obtain⟨v1,hvv1,h0⟩:=h0
 refine sjv (fun v1_:Bool=>({ nt:=38,env:=[(1,.d (.int .i64 a1)),(2,.d (.int .i64 a2)),(3,.ptr 3 0),(17,.d (.bool v1_))],box:=[(3,[.d (.int .i64 a0.Places),.d (.slice (AB AK a0.Events))])],vec:=[]}:St)) (fun v1_=>v1=v1_) (fun v1_ e=>?_) ?_
 ·subst e
  refine trc (b:=v1) (by simp) (fun c3=>?_) (fun c3=>?_)
  ·rw[if_pos c3] at h0
   refine kr [6] (by simp;rfl) ?_
   cases h0
   exact trr ⟨[],by simp,rfl,by simp⟩
  ·rw[if_neg (by rw[c3];decide)] at h0
   refine trk ?_
   refine kr [1,2,3,7] (by simp;rfl) ?_
   refine trq ?_
   refine kc ?_
   refine ko [1,7,18,19] 2 (by simp;rfl) ?_
   replace h0:=bnd h0;obtain⟨y2,hy2,h0⟩:=h0
   refine AM [1,7,20] [] (Le hy2) rfl rfl rfl Tryz.call118 (by simp) (by simp;rfl) ?_
   refine ko [1,7,20,21,22] 2 (by simp;rfl) ?_
   refine tpN ?_
   refine Al (HM 7 35 3 1 (by simp) (by simp)) ?_
   replace h0:=bnd h0;obtain⟨e1,hI1,h0⟩:=h0
   refine tjv (fun v3:(List Int)=>({ nt:=38,env:=[(7,.vec 35)],box:=[],vec:=[(35,⟨3,1,AB (AH .i64) v3⟩)]}:St)) (fun v3=>v3=e1) (fun v3 hI1e _ W1=>?_) ?_
   ·subst hI1e
    refine Al W1 ?_
    refine kr [6] (by simp;rfl) ?_
    cases h0
    exact trr ⟨[35],by simp,rfl,by simp⟩
   ·refine trb (Ai (fun s4:Int×(List Int)=>({ nt:=38,env:=[(1,.d (.int .i64 a1)),(7,.vec 35),(20,.d (.slice (AB (AH .u64) y2))),(21,.d (.int .i64 ((y2).length:Int))),(22,.d (.int .i64 s4.1))],box:=[],vec:=[(35,⟨3,1,AB (AH .i64) s4.2⟩)]}:St)) hI1 (wk (by simp[wkI])) fun G1 s4 o1 h1 hg1 he1=>?_)
    unfold copies_Where_l0 at h1
    refine kr [1,7,20,21,22,23] (by simp;rfl) ?_
    refine trq ?_
    refine trc (b:=(decide (s4.1 < ((y2).length:Int)))) (by simp) (fun c10=>?_) (fun c10=>?_)
    ·rw[if_pos c10] at h1
     refine trk ?_
     refine trq ?_
     refine trb ?_
     replace h1:=bnd h1;obtain⟨x5,p8,h1⟩:=h1
     replace p8:=AT p8
     have p8':=p8;try simp at p8'
     refine kr [1,7,8,9,20,21,22] (by simp[p8,p8'];rfl) ?_
     refine kc ?_
     refine ko [1,7,8,20,21,22,27,28] 2 (by simp;rfl) ?_
     replace h1:=bnd h1;obtain⟨y6,hy6,h1⟩:=h1
     refine AM [1,7,8,20,21,22,27,29] [] (D6 hy6) rfl rfl rfl Tryz.call119 (by simp) (by simp;rfl) ?_
     refine ko [1,7,8,20,21,22,31] 2 (by simp;rfl) ?_
     refine tpN ?_
     refine trc (b:=((J9 .u64 x5 y6) != 0)) (by simp) (fun c11=>?_) (fun c11=>?_)
     ·rw[if_pos c11] at h1
      replace h1:=bnd h1;obtain⟨_,p10,h1⟩:=h1
      replace p10:=AZ p10
      have p10':=p10;try simp at p10'
      refine lr (by simp[p10,p10'];rfl) ?_
      refine lr (by simp;rfl) ?_
      exact⟨_,hg1 _ (Option.some.inj h1),wk (by simp[wkI])⟩
     ·rw[if_neg (by rw[c11];decide)] at h1
      refine trk ?_
      refine lr (by simp;rfl) ?_
      exact⟨_,hg1 _ (Option.some.inj h1),wk (by simp[wkI])⟩
    ·rw[if_neg (by rw[c10];decide)] at h1
     refine Af ?_
     exact⟨_,he1 _ (Option.some.inj h1),wk (by simp[wkI])⟩
 ·refine kc1 ?_
  refine ko [1,2,3,10] 1 (by simp;rfl) ?_
  replace hvv1:=bnd hvv1;obtain⟨y7,hy7,hvv1⟩:=hvv1
  refine AM [1,2,3,11] [] (CQ hy7) rfl rfl rfl Tryz.call110 (by simp) (by simp;rfl) ?_
  refine ko [1,2,3,13] 2 (by simp;rfl) ?_
  refine AG 13 (y7 != 0) (by simp) (fun c12=>?_) (fun c12=>?_)
  ·rw[if_pos c12] at hvv1
   refine AR 3 [] (by kernel_rfl) ?_
   refine ko [1,2,3,17] 1 (by simp;rfl) ?_
   refine tpN ?_
   cases hvv1
   exact⟨_,rfl,wk (by simp[wkI])⟩
  ·rw[if_neg (by rw[c12];decide)] at hvv1
   refine ko [1,2,3,13,14] 1 (by simp;rfl) ?_
   replace hvv1:=bnd hvv1;obtain⟨y8,hy8,hvv1⟩:=hvv1
   refine AM [1,2,3,13,15] [] (Cj hy8) rfl rfl rfl Tryz.call63 (by simp) (by simp;rfl) ?_
   refine ko [1,2,3,17] 2 (by simp;rfl) ?_
   refine tpN ?_
   cases hvv1
   exact⟨_,rfl,wk (by simp[wkI])⟩
theorem Gy {a0:AI} {a1:AJ} {a2:Int} {a3:Int} {a4:Int} {r:Int×Bool} (h0:exposure_place a0 a1 a2 a3 a4=some r):Ac Tryz.prog 32 [] [.agg (AY a0),.agg (AX a1),.d (.int .i64 a2),.d (.int .i64 a3),.d (.int .i64 a4)] (.tup [.d (.int .i64 r.1),.d (.bool r.2)]) []:=by
 unfold exposure_place at h0
 refine AW (nt:=51) (rs:=[.tmp 10,.tmp 11]) Tryz.func32 rfl Tryz.ntmps32 rfl (by simp) (by decide) rfl fun K=>?_
 refine kr [2,3,4,5,6] (by simp;rfl) ?_
 refine trq ?_
 refine kc ?_
 refine ko [3,4,5,6,16,17,18] 3 (by simp;rfl) ?_
 replace h0:=bnd h0;obtain⟨y1,hy1,h0⟩:=h0
 refine AM [3,4,5,6,19] [] (IN hy1) rfl rfl rfl Tryz.call66 (by simp) (by simp;rfl) ?_
 refine ko [3,4,5,6,19,20,21] 2 (by simp;rfl) ?_
 refine tpN ?_
 replace h0:=bnd h0;obtain⟨e1,hI1,h0⟩:=h0
 refine tjv (fun v2:Unit=>({ nt:=51,env:=[],box:=[],vec:=[]}:St)) (fun v2=>.inl v2=e1) (fun v2 hI1e _ W1=>?_) ?_
 ·subst hI1e
  dsimp only at h0
  refine Al W1 ?_
  refine kr [10,11] (by simp;rfl) ?_
  cases h0
  exact trr ⟨[],by simp,rfl,by simp⟩
 ·refine trb (Ai (fun s3:Int=>({ nt:=51,env:=[(3,.d (.int .i64 a3)),(4,.d (.int .i64 a4)),(5,.ptr 5 0),(6,.ptr 6 0),(19,.d (.slice (AB (AH .i64) y1))),(20,.d (.int .i64 ((y1).length:Int))),(21,.d (.int .i64 s3))],box:=[(5,[.d (.slice (AB (AH .i64) a0.Kinds)),.d (.slice (AB AS a0.Events))]),(6,[.d (.int .i64 a1.Places),.d (.slice (AB AK a1.Events))])],vec:=[]}:St)) hI1 (wk (by simp[wkI])) fun G1 s3 o1 h1 hg1 he1=>?_)
  unfold exposure_place_l0 at h1
  refine kr [3,4,5,6,19,20,21,22] (by simp;rfl) ?_
  refine trq ?_
  refine trc (b:=(decide (s3 < ((y1).length:Int)))) (by simp) (fun c13=>?_) (fun c13=>?_)
  ·rw[if_pos c13] at h1
   refine trk ?_
   refine trq ?_
   refine trb ?_
   replace h1:=bnd h1;obtain⟨x4,p3,h1⟩:=h1
   replace p3:=AT p3
   have p3':=p3;try simp at p3'
   refine kr [3,4,5,6,13,19,20,21] (by simp[p3,p3'];rfl) ?_
   refine kc ?_
   refine ko [3,4,5,6,13,19,20,21,26,27,28] 3 (by simp;rfl) ?_
   replace h1:=bnd h1;obtain⟨y5,hy5,h1⟩:=h1
   refine AM [3,4,5,6,13,19,20,21,29] [] (EP hy5) rfl rfl rfl Tryz.call67 (by simp) (by simp;rfl) ?_
   refine ko [3,4,5,6,13,15,19,20,21] 5 (by simp;rfl) ?_
   refine tpN ?_
   replace h1:=bnd h1;obtain⟨v6,hvv6,h1⟩:=h1
   refine sjv (fun v6_:Bool=>({ nt:=51,env:=[(3,.d (.int .i64 a3)),(4,.d (.int .i64 a4)),(5,.ptr 5 0),(6,.ptr 6 0),(13,.d (.int .i64 x4)),(19,.d (.slice (AB (AH .i64) y1))),(20,.d (.int .i64 ((y1).length:Int))),(21,.d (.int .i64 s3)),(48,.d (.bool v6_))],box:=[(5,[.d (.slice (AB (AH .i64) a0.Kinds)),.d (.slice (AB AS a0.Events))]),(6,[.d (.int .i64 a1.Places),.d (.slice (AB AK a1.Events))])],vec:=[]}:St)) (fun v6_=>v6=v6_) (fun v6_ e=>?_) ?_
   ·subst e
    refine trc (b:=v6) (by simp) (fun c22=>?_) (fun c22=>?_)
    ·rw[if_pos c22] at h1
     refine kr [10,11] (by simp;rfl) ?_
     have k1:=he1 _ (Option.some.inj h1)
     subst k1
     dsimp only at h0
     cases h0
     exact trr ⟨[],by simp,rfl,by simp⟩
    ·rw[if_neg (by rw[c22];decide)] at h1
     refine trk ?_
     refine lr (by simp;rfl) ?_
     exact⟨_,hg1 _ (Option.some.inj h1),wk (by simp[wkI])⟩
   ·refine kc1 ?_
    refine ko [3,4,5,6,13,15,19,20,21,34] 3 (by simp;rfl) ?_
    refine AG 34 (a3==(-1)) (by simp) (fun c23=>?_) (fun c23=>?_)
    ·rw[if_pos c23] at hvv6
     refine ko [3,4,5,6,13,19,20,21,35,37] 3 (by simp;rfl) ?_
     refine AG 37 y5.2 (by simp) (fun c24=>?_) (fun c24=>?_)
     ·rw[if_pos c24] at hvv6
      refine AR 10 [] (by kernel_rfl) ?_
      refine ko [3,4,5,6,13,19,20,21,35,48] 1 (by simp;rfl) ?_
      refine tpN ?_
      cases hvv6
      exact⟨_,rfl,wk (by simp[wkI])⟩
     ·rw[if_neg (by rw[c24];decide)] at hvv6
      refine ko [3,4,5,6,13,19,20,21,35,37,38,39,40] 3 (by simp;rfl) ?_
      refine AG 40 (a3 != (-1)) (by simp) (fun c25=>?_) (fun c25=>?_)
      ·rw[if_pos c25] at hvv6
       refine ko [3,4,5,6,13,19,20,21,35,37,38,39,40,41,42,43,44,45] 5 (by simp;rfl) ?_
       replace hvv6:=bnd hvv6;obtain⟨y7,hy7,hvv6⟩:=hvv6
       refine AM [3,4,5,6,13,19,20,21,35,37,38,39,40,41,42,43,44,45,46] [] (FR hy7) rfl rfl rfl Tryz.call68 (by simp) (by simp;rfl) ?_
       refine ko [3,4,5,6,13,19,20,21,35,38,39,40,41,42,43,44,45,46,47,48] 2 (by simp;rfl) ?_
       refine tpN ?_
       cases hvv6
       exact⟨_,rfl,wk (by simp[wkI])⟩
      ·rw[if_neg (by rw[c25];decide)] at hvv6
       refine AR 6 [] (by kernel_rfl) ?_
       refine ko [3,4,5,6,13,19,20,21,35,38,39,40,47,48] 2 (by simp;rfl) ?_
       refine tpN ?_
       cases hvv6
       exact⟨_,rfl,wk (by simp[wkI])⟩
    ·rw[if_neg (by rw[c23];decide)] at hvv6
     refine ko [3,4,5,6,13,19,20,21,35,37,38,39,40] 6 (by simp;rfl) ?_
     refine AG 40 (a3 != (-1)) (by simp) (fun c26=>?_) (fun c26=>?_)
     ·rw[if_pos c26] at hvv6
      refine ko [3,4,5,6,13,19,20,21,35,37,38,39,40,41,42,43,44,45] 5 (by simp;rfl) ?_
      replace hvv6:=bnd hvv6;obtain⟨y8,hy8,hvv6⟩:=hvv6
      refine AM [3,4,5,6,13,19,20,21,35,37,38,39,40,41,42,43,44,45,46] [] (FR hy8) rfl rfl rfl Tryz.call68 (by simp) (by simp;rfl) ?_
      refine ko [3,4,5,6,13,19,20,21,35,38,39,40,41,42,43,44,45,46,47,48] 2 (by simp;rfl) ?_
      refine tpN ?_
      cases hvv6
      exact⟨_,rfl,wk (by simp[wkI])⟩
     ·rw[if_neg (by rw[c26];decide)] at hvv6
      refine AR 6 [] (by kernel_rfl) ?_
      refine ko [3,4,5,6,13,19,20,21,35,38,39,40,47,48] 2 (by simp;rfl) ?_
      refine tpN ?_
      cases hvv6
      exact⟨_,rfl,wk (by simp[wkI])⟩
  ·rw[if_neg (by rw[c13];decide)] at h1
   refine Af ?_
   exact⟨_,he1 _ (Option.some.inj h1),wk (by simp[wkI])⟩
theorem Gz {a0:AI} {a1:AJ} {a2:Int} {a3:Int} {r:Int×Bool} (h0:exposure_since a0 a1 a2 a3=some r):Ac Tryz.prog 28 [] [.agg (AY a0),.agg (AX a1),.d (.int .i64 a2),.d (.int .i64 a3)] (.tup [.d (.int .i64 r.1),.d (.bool r.2)]) []:=by
 unfold exposure_since at h0
 refine AW (nt:=34) (rs:=[.tmp 8,.tmp 9]) Tryz.func28 rfl Tryz.ntmps28 rfl (by simp) (by decide) rfl fun K=>?_
 refine kr [2,3,4,5] (by simp;rfl) ?_
 refine trq ?_
 refine kc ?_
 refine ko [2,3,4,5,14,15] 2 (by simp;rfl) ?_
 replace h0:=bnd h0;obtain⟨y1,hy1,h0⟩:=h0
 refine AM [2,3,4,5,16] [] (Gx hy1) rfl rfl rfl Tryz.call64 (by simp) (by simp;rfl) ?_
 refine ko [2,3,4,5,16,17,18] 2 (by simp;rfl) ?_
 refine tpN ?_
 replace h0:=bnd h0;obtain⟨e1,hI1,h0⟩:=h0
 refine tjv (fun v2:Unit=>({ nt:=34,env:=[],box:=[],vec:=[]}:St)) (fun v2=>.inl v2=e1) (fun v2 hI1e _ W1=>?_) ?_
 ·subst hI1e
  dsimp only at h0
  refine Al W1 ?_
  refine kr [8,9] (by simp;rfl) ?_
  cases h0
  exact trr ⟨[],by simp,rfl,by simp⟩
 ·refine trb (Ai (fun s3:Int=>({ nt:=34,env:=[(2,.d (.int .i64 a2)),(3,.d (.int .i64 a3)),(4,.ptr 4 0),(5,.ptr 5 0),(16,.d (.slice (AB (AH .i64) y1))),(17,.d (.int .i64 ((y1).length:Int))),(18,.d (.int .i64 s3))],box:=[(4,[.d (.slice (AB (AH .i64) a0.Kinds)),.d (.slice (AB AS a0.Events))]),(5,[.d (.int .i64 a1.Places),.d (.slice (AB AK a1.Events))])],vec:=[]}:St)) hI1 (wk (by simp[wkI])) fun G1 s3 o1 h1 hg1 he1=>?_)
  unfold exposure_since_l0 at h1
  refine kr [2,3,4,5,16,17,18,19] (by simp;rfl) ?_
  refine trq ?_
  refine trc (b:=(decide (s3 < ((y1).length:Int)))) (by simp) (fun c5=>?_) (fun c5=>?_)
  ·rw[if_pos c5] at h1
   refine trk ?_
   refine trq ?_
   refine trb ?_
   replace h1:=bnd h1;obtain⟨x4,p3,h1⟩:=h1
   replace p3:=AT p3
   have p3':=p3;try simp at p3'
   refine kr [2,3,4,5,11,16,17,18] (by simp[p3,p3'];rfl) ?_
   refine kc ?_
   refine ko [2,3,4,5,11,16,17,18,23,24,25,26,27] 5 (by simp;rfl) ?_
   replace h1:=bnd h1;obtain⟨y5,hy5,h1⟩:=h1
   refine AM [2,3,4,5,11,16,17,18,28] [] (Gy hy5) rfl rfl rfl Tryz.call32 (by simp) (by simp;rfl) ?_
   refine ko [2,3,4,5,11,13,16,17,18] 5 (by simp;rfl) ?_
   refine tpN ?_
   refine kr [2,3,4,5,11,16,17,18,31] (by simp;rfl) ?_
   refine trc (b:=y5.2) (by simp) (fun c6=>?_) (fun c6=>?_)
   ·rw[if_pos c6] at h1
    refine kr [8,9] (by simp;rfl) ?_
    have k1:=he1 _ (Option.some.inj h1)
    subst k1
    dsimp only at h0
    cases h0
    exact trr ⟨[],by simp,rfl,by simp⟩
   ·rw[if_neg (by rw[c6];decide)] at h1
    refine trk ?_
    refine lr (by simp;rfl) ?_
    exact⟨_,hg1 _ (Option.some.inj h1),wk (by simp[wkI])⟩
  ·rw[if_neg (by rw[c5];decide)] at h1
   refine Af ?_
   exact⟨_,he1 _ (Option.some.inj h1),wk (by simp[wkI])⟩
theorem G0 {a0:AI} {a1:AJ} {a2:Int} {a3:Int} {r:Int×Bool} (h0:exposure_Since a0 a1 a2 a3=some r):Ac Tryz.prog 58 [] [.agg (AY a0),.agg (AX a1),.d (.int .i64 a2),.d (.int .i64 a3)] (.tup [.d (.int .i64 r.1),.d (.bool r.2)]) []:=by
 unfold exposure_Since at h0
 refine AW (nt:=22) (rs:=[.tmp 8,.tmp 9]) Tryz.func58 rfl Tryz.ntmps58 rfl (by simp) (by decide) rfl fun K=>?_
 refine kr [2,3,4,5] (by simp;rfl) ?_
 refine trq ?_
 refine kc ?_
 refine ko [2,3,4,5,10,11,12] 3 (by simp;rfl) ?_
 replace h0:=bnd h0;obtain⟨y1,hy1,h0⟩:=h0
 refine AM [2,3,4,5,13] [] (Gw hy1) rfl rfl rfl Tryz.call27 (by simp) (by simp;rfl) ?_
 refine ko [2,3,4,5,14] 1 (by simp;rfl) ?_
 refine tpN ?_
 refine trc (b:=(y1 != 0)) (by simp) (fun c1=>?_) (fun c1=>?_)
 ·rw[if_pos c1] at h0
  refine kr [8,9] (by simp;rfl) ?_
  cases h0
  exact trr ⟨[],by simp,rfl,by simp⟩
 ·rw[if_neg (by rw[c1];decide)] at h0
  refine trk ?_
  refine kc ?_
  refine ko [15,16,17,18] 4 (by simp;rfl) ?_
  replace h0:=bnd h0;obtain⟨y2,hy2,h0⟩:=h0
  refine AM [19] [] (Gz hy2) rfl rfl rfl Tryz.call28 (by simp) (by simp;rfl) ?_
  refine ko [8,9] 4 (by simp;rfl) ?_
  refine tpN ?_
  cases h0
  exact trr ⟨[],by simp,rfl,by simp⟩
end Go.Vl
