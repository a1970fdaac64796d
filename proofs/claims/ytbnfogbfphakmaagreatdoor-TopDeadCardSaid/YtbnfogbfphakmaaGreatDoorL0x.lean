/- Plain functions that mirror functions of the given program. Conditions: none. -/
import Derived.Test.YtbnfogbfphakmaaGreatDoorLs
import Derived.Test.YtbnfogbfphakmaaGreatDoorLso
import Derived.Test.YtbnfogbfphakmaaGreatDoorVmLz
import Derived.Test.YtbnfogbfphakmaaGreatDoorLq
import Derived.Test.YtbnfogbfphakmaaGreatDoorTyL
set_option maxHeartbeats 1000000
set_option linter.unusedSimpArgs false
set_option linter.unusedVariables false
namespace Go.Vl
open Go
noncomputable def directory_Check_1 (a0:Int):Option (Bool):=
 (some ((decide (a0 < 1))||(decide (3 < a0)))).bind fun v1=>
 some v1
noncomputable def directory_exists (a0:AI) (a1:Int):Option (Bool):=
 (some ((decide (0≤a1))&&(decide (a1 < ((a0.Kinds).length:Int))))).bind fun v1=>
 some v1
noncomputable def directory_group (a0:AI) (a1:Int):Option (Bool):=
 Option.bind (
  (directory_exists a0 a1).bind fun y2=>
  if y2=true then
   (idx a0.Kinds a1).bind fun x3=>
   some (x3==2)
  else
   some false) fun v1=>
 some v1
noncomputable def sYIndexFunc_int_at_directory_Check_1_l0 (a0:List Int) (s2:Int):Option (Lp Int (Unit ⊕ Int)):=
 if(decide (s2 < ((a0).length:Int)))=true then
  (idx a0 s2).bind fun x3=>
  (directory_Check_1 x3).bind fun y4=>
  if y4=true then
   some (.out (.inr s2))
  else
   some (.go (IntKind.i64.wrap (s2+1)))
 else
  some (.out (.inl ()))
noncomputable def sYIndexFunc_int_at_directory_Check_1 (a0:List Int):Option (Int):=
 (iter (sYIndexFunc_int_at_directory_Check_1_l0 a0) 0).bind fun q6=>
 match q6 with
 | .inl v1=>
  some (-1)
 | .inr r5=>
  some r5
noncomputable def sYContainsFunc_int_at_directory_Check_1 (a0:List Int):Option (Bool):=
 (sYIndexFunc_int_at_directory_Check_1 a0).bind fun y1=>
 some (decide (0≤y1))
noncomputable def directory_Check_l0 (a0:AI) (s3:Int×Int):Option (Lp (Int×Int) (Unit ⊕ Int)):=
 if(decide (s3.2 < ((a0.Events).length:Int)))=true then
  (idx a0.Events s3.2).bind fun x4=>
  Option.bind (
   if(x4.Kind != 1)=true then
    if(x4.Kind != 2)=true then
     some true
    else
    if(decide (x4.Time < s3.1))=true then
     some true
    else
    if(decide (1099511627776 < x4.Time))=true then
     some true
    else
    (directory_exists a0 x4.Principal).bind fun y6=>
    if(!y6)=true then
     some true
    else
    (directory_group a0 x4.Group).bind fun y7=>
    if(!y7)=true then
     some true
    else
     some (x4.Principal==x4.Group)
   else
   if(decide (x4.Time < s3.1))=true then
    some true
   else
   if(decide (1099511627776 < x4.Time))=true then
    some true
   else
   (directory_exists a0 x4.Principal).bind fun y8=>
   if(!y8)=true then
    some true
   else
   (directory_group a0 x4.Group).bind fun y9=>
   if(!y9)=true then
    some true
   else
    some (x4.Principal==x4.Group)) fun v5=>
  if v5=true then
   some (.out (.inr 30))
  else
   some (.go (x4.Time,IntKind.i64.wrap (s3.2+1)))
 else
  some (.out (.inl ()))
noncomputable def directory_Check (a0:AI):Option (Int):=
 Option.bind (
  if(decide (24 < ((a0.Kinds).length:Int)))=true then
   some true
  else
  if(decide (120 < ((a0.Events).length:Int)))=true then
   some true
  else
  (sYContainsFunc_int_at_directory_Check_1 a0.Kinds).bind fun y12=>
  some y12) fun v1=>
 if v1=true then
  some 30
 else
 (iter (directory_Check_l0 a0) (0,0)).bind fun q11=>
 match q11 with
 | .inl v2=>
  some 0
 | .inr r10=>
  some r10
noncomputable def access_among (a0:Int) (a1:Int) (a2:Int):Option (Bool):=
 (some ((decide (a1≤a0))&&(decide (a0≤a2)))).bind fun v1=>
 some v1
noncomputable def access_Content (a0:Int):Option (Bool):=
 (access_among a0 0 63).bind fun y1=>
 some y1
noncomputable def access_Place (a0:AJ) (a1:Int):Option (Bool):=
 (access_among a1 0 (IntKind.i64.wrap (a0.Places - 1))).bind fun y1=>
 some y1
noncomputable def access_right_j0 (a0:AJ) (a1:Ab) (v1:Bool×Int×Int×Int×Int):Option Bool:=
 Option.bind (
  if v1.1=true then
   (access_Place a0 a1.Place).bind fun y3=>
   if y3=true then
    some ((a1.Time==a1.Time)&&((a1.Kind==a1.Kind)&&((a1.Place==a1.Place)&&((a1.Principal==v1.2.1)&&((a1.Until==v1.2.2.1)&&((a1.Content==v1.2.2.2.1)&&(a1.From==v1.2.2.2.2)))))))
   else
    some false
  else
   some false) fun v2=>
 some v2
noncomputable def access_right_j2 (a1:Ab) (a0:AJ) (v7:Bool):Option Bool:=
 if v7=true then
  (access_Content a1.Content).bind fun y8=>
  access_right_j0 a0 a1 (y8,0,0,a1.Content,0)
 else
 if(a1.Kind==7)=true then
  Option.bind (
   (access_Place a0 a1.From).bind fun y10=>
   if y10=true then
    some (a1.From != a1.Place)
   else
    some false) fun v9=>
  access_right_j0 a0 a1 (v9,0,0,0,a1.From)
 else
  access_right_j0 a0 a1 (false,0,0,0,0)
noncomputable def access_right_j1 (a1:Ab) (a0:AJ) (v4:Bool):Option Bool:=
 if v4=true then
  (access_among a1.Principal 0 23).bind fun y5=>
  access_right_j0 a0 a1 (y5,a1.Principal,0,0,0)
 else
 if(a1.Kind==3)=true then
  (some ((decide (a1.Time < a1.Until))&&(decide (a1.Until≤1099511627776)))).bind fun v6=>
  access_right_j0 a0 a1 (v6,0,a1.Until,0,0)
 else
 if(a1.Kind==4)=true then
  access_right_j0 a0 a1 (true,0,0,0,0)
 else
 if(a1.Kind==5)=true then
  access_right_j2 a1 a0 (a1.Kind==5)
 else
  access_right_j2 a1 a0 (a1.Kind==6)
noncomputable def access_right (a0:AJ) (a1:Ab):Option (Bool):=
 if(a1.Kind==1)=true then
  access_right_j1 a1 a0 (a1.Kind==1)
 else
  access_right_j1 a1 a0 (a1.Kind==2)
noncomputable def access_Check_l0 (a0:AJ) (s3:Int×Int):Option (Lp (Int×Int) (Unit ⊕ Int)):=
 if(decide (s3.2 < ((a0.Events).length:Int)))=true then
  (idx a0.Events s3.2).bind fun x4=>
  Option.bind (
   if(decide (x4.Time < s3.1))=true then
    some true
   else
   if(decide (1099511627776 < x4.Time))=true then
    some true
   else
   (access_right a0 x4).bind fun y6=>
   some (!y6)) fun v5=>
  if v5=true then
   some (.out (.inr 34))
  else
   some (.go (x4.Time,IntKind.i64.wrap (s3.2+1)))
 else
  some (.out (.inl ()))
noncomputable def access_Check (a0:AJ):Option (Int):=
 Option.bind (
  (access_among a0.Places 1 16).bind fun y9=>
  if(!y9)=true then
   some true
  else
   some (decide (120 < ((a0.Events).length:Int)))) fun v1=>
 if v1=true then
  some 34
 else
 (iter (access_Check_l0 a0) (0,0)).bind fun q8=>
 match q8 with
 | .inl v2=>
  some 0
 | .inr r7=>
  some r7
noncomputable def access_known (a0:AJ) (a1:Int):Option (Bool):=
 Option.bind (
  (access_Check a0).bind fun y2=>
  if(y2==0)=true then
   (access_Place a0 a1).bind fun y3=>
   some y3
  else
   some false) fun v1=>
 some v1
noncomputable def directory_known (a0:AI) (a1:Int):Option (Bool):=
 Option.bind (
  (directory_Check a0).bind fun y2=>
  if(y2==0)=true then
   (directory_exists a0 a1).bind fun y3=>
   some y3
  else
   some false) fun v1=>
 some v1
noncomputable def access_grants_l0 (a0:AJ) (a2:Int) (a1:Int) (s2:Int×(List (Int×Int))):Option (Lp (Int×(List (Int×Int))) (List (Int×Int))):=
 if(decide (s2.1 < ((a0.Events).length:Int)))=true then
  (idx a0.Events s2.1).bind fun x3=>
  (some ((decide (a2 < x3.Time))||(x3.Place != a1))).bind fun v4=>
  if v4=true then
   some (.go (IntKind.i64.wrap (s2.1+1),s2.2))
  else
  if(x3.Kind==1)=true then
   some (.go (IntKind.i64.wrap (s2.1+1),(Qm inE s2.2 x3.Principal s2.1)))
  else
  if(x3.Kind==2)=true then
   some (.go (IntKind.i64.wrap (s2.1+1),(Qn inE s2.2 x3.Principal)))
  else
   some (.go (IntKind.i64.wrap (s2.1+1),s2.2))
 else
  some (.out s2.2)
noncomputable def access_grants (a0:AJ) (a1:Int) (a2:Int):Option ((List (Int×Int))):=
 (iter (access_grants_l0 a0 a2 a1) (0,[])).bind fun v1=>
 some v1
noncomputable def copies_bit (a0:Int):Option (Int):=
 (ck (¬a0 < 0)).bind fun _=>
 some (IntKind.u64.wrap (1 * 2 ^ (min (Int.toNat a0) IntKind.u64.bits)))
end Go.Vl
namespace Go.Vl
open Go Go.Proofs
theorem FO {a0:Int} {r:Bool} (h0:directory_Check_1 a0=some r):Ac Tryz.prog 141 [] [.d (.int .i64 a0)] (.d (.bool r)) []:=by
 unfold directory_Check_1 at h0
 refine AW (nt:=9) (rs:=[.tmp 2]) Tryz.func141 rfl Tryz.ntmps141 rfl (by simp) (by decide) rfl fun K=>?_
 refine kr [0] (by simp;rfl) ?_
 replace h0:=bnd h0;obtain⟨v1,hvv1,h0⟩:=h0
 refine sjv (fun v1_:Bool=>({ nt:=9,env:=[(2,.d (.bool v1_))],box:=[],vec:=[]}:St)) (fun v1_=>v1=v1_) (fun v1_ e=>?_) ?_
 ·subst e
  cases h0
  exact trr ⟨[],by simp,rfl,by simp⟩
 ·refine kc1 ?_
  refine ko [0,5] 3 (by simp;rfl) ?_
  refine AG 5 (decide (a0 < 1)) (by simp) (fun c3=>?_) (fun c3=>?_)
  ·rw[c3] at hvv1
   refine ko [2] 4 (by simp;rfl) ?_
   refine tpN ?_
   cases hvv1
   exact⟨_,rfl,wk (by simp[wkI])⟩
  ·rw[c3] at hvv1
   refine ko [2] 4 (by simp;rfl) ?_
   refine tpN ?_
   cases hvv1
   exact⟨_,rfl,wk (by simp[wkI])⟩
theorem BZ {a0:AI} {a1:Int} {r:Bool} (h0:directory_exists a0 a1=some r):Ac Tryz.prog 142 [] [.agg (AY a0),.d (.int .i64 a1)] (.d (.bool r)) []:=by
 unfold directory_exists at h0
 refine AW (nt:=14) (rs:=[.tmp 4]) Tryz.func142 rfl Tryz.ntmps142 rfl (by simp) (by decide) rfl fun K=>?_
 refine kr [1,2] (by simp;rfl) ?_
 replace h0:=bnd h0;obtain⟨v1,hvv1,h0⟩:=h0
 refine sjv (fun v1_:Bool=>({ nt:=14,env:=[(4,.d (.bool v1_))],box:=[],vec:=[]}:St)) (fun v1_=>v1=v1_) (fun v1_ e=>?_) ?_
 ·subst e
  cases h0
  exact trr ⟨[],by simp,rfl,by simp⟩
 ·refine kc1 ?_
  refine ko [1,2,7] 3 (by simp;rfl) ?_
  refine AG 7 (decide (0≤a1)) (by simp) (fun c3=>?_) (fun c3=>?_)
  ·rw[c3] at hvv1
   refine ko [4] 7 (by simp;rfl) ?_
   refine tpN ?_
   cases hvv1
   exact⟨_,rfl,wk (by simp[wkI])⟩
  ·rw[c3] at hvv1
   refine AR 5 [] (by kernel_rfl) ?_
   refine ko [4] 2 (by simp;rfl) ?_
   refine tpN ?_
   cases hvv1
   exact⟨_,rfl,wk (by simp[wkI])⟩
theorem Dl {a0:AI} {a1:Int} {r:Bool} (h0:directory_group a0 a1=some r):Ac Tryz.prog 143 [] [.agg (AY a0),.d (.int .i64 a1)] (.d (.bool r)) []:=by
 unfold directory_group at h0
 refine AW (nt:=16) (rs:=[.tmp 4]) Tryz.func143 rfl Tryz.ntmps143 rfl (by simp) (by decide) rfl fun K=>?_
 refine kr [1,2] (by simp;rfl) ?_
 replace h0:=bnd h0;obtain⟨v1,hvv1,h0⟩:=h0
 refine sjv (fun v1_:Bool=>({ nt:=16,env:=[(4,.d (.bool v1_))],box:=[],vec:=[]}:St)) (fun v1_=>v1=v1_) (fun v1_ e=>?_) ?_
 ·subst e
  cases h0
  exact trr ⟨[],by simp,rfl,by simp⟩
 ·refine kc1 ?_
  refine ko [1,2,5,6] 2 (by simp;rfl) ?_
  replace hvv1:=bnd hvv1;obtain⟨y2,hy2,hvv1⟩:=hvv1
  refine AM [1,2,7] [] (BZ hy2) rfl rfl rfl Tryz.call142 (by simp) (by simp;rfl) ?_
  refine ko [1,2,8] 1 (by simp;rfl) ?_
  refine AG 8 y2 (by simp) (fun c3=>?_) (fun c3=>?_)
  ·rw[if_pos c3] at hvv1
   replace hvv1:=bnd hvv1;obtain⟨x3,p3,hvv1⟩:=hvv1
   replace p3:=AT p3
   have p3':=p3;try simp at p3'
   refine ko [4] 8 (by simp[p3,p3'];rfl) ?_
   refine tpN ?_
   cases hvv1
   exact⟨_,rfl,wk (by simp[wkI])⟩
  ·rw[if_neg (by rw[c3];decide)] at hvv1
   refine AR 6 [] (by kernel_rfl) ?_
   refine ko [4] 2 (by simp;rfl) ?_
   refine tpN ?_
   cases hvv1
   exact⟨_,rfl,wk (by simp[wkI])⟩
theorem B4 {a0:List Int} {r:Int} (h0:sYIndexFunc_int_at_directory_Check_1 a0=some r):Ac Tryz.prog 48 [] [.d (.slice (AB (AH .i64) a0)),.fn 141 []] (.d (.int .i64 r)) []:=by
 unfold sYIndexFunc_int_at_directory_Check_1 at h0
 refine AW (nt:=19) (rs:=[.tmp 4]) Tryz.func48 rfl Tryz.ntmps48 rfl (by simp) (by decide) rfl fun K=>?_
 refine kr [0,1] (by simp;rfl) ?_
 refine trq ?_
 refine kr [0,1,7,8] (by simp;rfl) ?_
 replace h0:=bnd h0;obtain⟨e1,hI1,h0⟩:=h0
 refine tjv (fun v1:Unit=>({ nt:=19,env:=[],box:=[],vec:=[]}:St)) (fun v1=>.inl v1=e1) (fun v1 hI1e _ W1=>?_) ?_
 ·subst hI1e
  dsimp only at h0
  refine Al W1 ?_
  refine kr [4] (by simp;rfl) ?_
  cases h0
  exact trr ⟨[],by simp,rfl,by simp⟩
 ·refine trb (Ai (fun s2:Int=>({ nt:=19,env:=[(0,.d (.slice (AB (AH .i64) a0))),(1,.fn 141 []),(7,.d (.int .i64 ((a0).length:Int))),(8,.d (.int .i64 s2))],box:=[],vec:=[]}:St)) hI1 (wk (by simp[wkI])) fun G1 s2 o1 h1 hg1 he1=>?_)
  unfold sYIndexFunc_int_at_directory_Check_1_l0 at h1
  refine kr [0,1,7,8,9] (by simp;rfl) ?_
  refine trq ?_
  refine trc (b:=(decide (s2 < ((a0).length:Int)))) (by simp) (fun c5=>?_) (fun c5=>?_)
  ·rw[if_pos c5] at h1
   refine trk ?_
   refine trq ?_
   refine trb ?_
   refine kr [0,1,5,7,8] (by simp;rfl) ?_
   refine kc ?_
   replace h1:=bnd h1;obtain⟨x3,p3,h1⟩:=h1
   replace p3:=AT p3
   have p3':=p3;try simp at p3'
   refine ko [0,1,5,7,8,11,15] 5 (by simp[p3,p3'];rfl) ?_
   replace h1:=bnd h1;obtain⟨y4,hy4,h1⟩:=h1
   refine B7 [0,1,5,7,8,16] [] [] [] (FO hy4) rfl rfl rfl Tryz.call141 (by simp) (by simp;rfl) ?_
   refine tpN ?_
   refine trc (b:=y4) (by simp) (fun c6=>?_) (fun c6=>?_)
   ·rw[if_pos c6] at h1
    refine kr [4] (by simp;rfl) ?_
    have k1:=he1 _ (Option.some.inj h1)
    subst k1
    dsimp only at h0
    cases h0
    exact trr ⟨[],by simp,rfl,by simp⟩
   ·rw[if_neg (by rw[c6];decide)] at h1
    refine trk ?_
    refine lr (by simp;rfl) ?_
    exact⟨_,hg1 _ (Option.some.inj h1),wk (by simp[wkI])⟩
  ·rw[if_neg (by rw[c5];decide)] at h1
   refine Af ?_
   exact⟨_,he1 _ (Option.some.inj h1),wk (by simp[wkI])⟩
theorem Bi {a0:List Int} {r:Bool} (h0:sYContainsFunc_int_at_directory_Check_1 a0=some r):Ac Tryz.prog 74 [] [.d (.slice (AB (AH .i64) a0)),.fn 141 []] (.d (.bool r)) []:=by
 unfold sYContainsFunc_int_at_directory_Check_1 at h0
 refine AW (nt:=9) (rs:=[.tmp 4]) Tryz.func74 rfl Tryz.ntmps74 rfl (by simp) (by decide) rfl fun K=>?_
 refine kr [0,1] (by simp;rfl) ?_
 refine kc ?_
 refine ko [5,6] 2 (by simp;rfl) ?_
 replace h0:=bnd h0;obtain⟨y1,hy1,h0⟩:=h0
 refine AM [7] [] (B4 hy1) rfl rfl rfl Tryz.call48 (by simp) (by simp;rfl) ?_
 refine ko [4] 2 (by simp;rfl) ?_
 refine tpN ?_
 cases h0
 exact trr ⟨[],by simp,rfl,by simp⟩
theorem Dm {a0:AI} {r:Int} (h0:directory_Check a0=some r):Ac Tryz.prog 109 [] [.agg (AY a0)] (.d (.int .i64 r)) []:=by
 unfold directory_Check at h0
 refine AW (nt:=73) (rs:=[.tmp 2]) Tryz.func109 rfl Tryz.ntmps109 rfl (by simp) (by decide) rfl fun K=>?_
 refine kr [1] (by simp;rfl) ?_
 refine kr [1,3] (by simp;rfl) ?_
 refine trq ?_
 replace h0:=bnd h0;obtain⟨v1,hvv1,h0⟩:=h0
 refine sjv (fun v1_:Bool=>({ nt:=73,env:=[(1,.ptr 1 0),(22,.d (.bool v1_))],box:=[(1,[.d (.slice (AB (AH .i64) a0.Kinds)),.d (.slice (AB AS a0.Events))])],vec:=[]}:St)) (fun v1_=>v1=v1_) (fun v1_ e=>?_) ?_
 ·subst e
  refine trc (b:=v1) (by simp) (fun c5=>?_) (fun c5=>?_)
  ·rw[if_pos c5] at h0
   refine kr [2] (by simp;rfl) ?_
   cases h0
   exact trr ⟨[],by simp,rfl,by simp⟩
  ·rw[if_neg (by rw[c5];decide)] at h0
   refine trk ?_
   refine kr [1,4] (by simp;rfl) ?_
   refine trq ?_
   refine kr [1,4,24,25,26] (by simp;rfl) ?_
   replace h0:=bnd h0;obtain⟨e1,hI1,h0⟩:=h0
   refine tjv (fun v2:Unit=>({ nt:=73,env:=[],box:=[],vec:=[]}:St)) (fun v2=>.inl v2=e1) (fun v2 hI1e _ W1=>?_) ?_
   ·subst hI1e
    dsimp only at h0
    refine Al W1 ?_
    refine kr [2] (by simp;rfl) ?_
    cases h0
    exact trr ⟨[],by simp,rfl,by simp⟩
   ·refine trb (Ai (fun s3:Int×Int=>({ nt:=73,env:=[(1,.ptr 1 0),(4,.d (.int .i64 s3.1)),(24,.d (.slice (AB AS a0.Events))),(25,.d (.int .i64 ((a0.Events).length:Int))),(26,.d (.int .i64 s3.2))],box:=[(1,[.d (.slice (AB (AH .i64) a0.Kinds)),.d (.slice (AB AS a0.Events))])],vec:=[]}:St)) hI1 (wk (by simp[wkI])) fun G1 s3 o1 h1 hg1 he1=>?_)
    unfold directory_Check_l0 at h1
    refine kr [1,4,24,25,26,27] (by simp;rfl) ?_
    refine trq ?_
    refine trc (b:=(decide (s3.2 < ((a0.Events).length:Int)))) (by simp) (fun c30=>?_) (fun c30=>?_)
    ·rw[if_pos c30] at h1
     refine trk ?_
     refine trq ?_
     refine trb ?_
     replace h1:=bnd h1;obtain⟨x4,p3,h1⟩:=h1
     replace p3:=AT p3
     have p3':=p3;try simp at p3'
     refine kr [1,4,6,24,25,26] (by simp[p3,p3'];rfl) ?_
     refine trq ?_
     replace h1:=bnd h1;obtain⟨v5,hvv5,h1⟩:=h1
     refine sjv (fun v5_:Bool=>({ nt:=73,env:=[(1,.ptr 1 0),(6,.ptr 6 0),(24,.d (.slice (AB AS a0.Events))),(25,.d (.int .i64 ((a0.Events).length:Int))),(26,.d (.int .i64 s3.2)),(69,.d (.bool v5_))],box:=[(1,[.d (.slice (AB (AH .i64) a0.Kinds)),.d (.slice (AB AS a0.Events))]),(6,[.d (.int .i64 x4.Time),.d (.int .i64 x4.Kind),.d (.int .i64 x4.Principal),.d (.int .i64 x4.Group)])],vec:=[]}:St)) (fun v5_=>v5=v5_) (fun v5_ e=>?_) ?_
     ·subst e
      refine trc (b:=v5) (by simp) (fun c51=>?_) (fun c51=>?_)
      ·rw[if_pos c51] at h1
       refine kr [2] (by simp;rfl) ?_
       have k1:=he1 _ (Option.some.inj h1)
       subst k1
       dsimp only at h0
       cases h0
       exact trr ⟨[],by simp,rfl,by simp⟩
      ·rw[if_neg (by rw[c51];decide)] at h1
       refine trk ?_
       refine lr (by simp;rfl) ?_
       refine lr (by simp;rfl) ?_
       exact⟨_,hg1 _ (Option.some.inj h1),wk (by simp[wkI])⟩
     ·refine kc1 ?_
      refine ko [1,4,6,24,25,26,33] 4 (by simp;rfl) ?_
      refine AG 33 (x4.Kind != 1) (by simp) (fun c52=>?_) (fun c52=>?_)
      ·rw[if_pos c52] at hvv5
       refine ko [1,4,6,24,25,26,34,35,36,38] 5 (by simp;rfl) ?_
       refine AG 38 (x4.Kind != 2) (by simp) (fun c53=>?_) (fun c53=>?_)
       ·rw[if_pos c53] at hvv5
        refine AR 4 [] (by kernel_rfl) ?_
        refine ko [1,6,24,25,26,34,35,36,44] 2 (by simp;rfl) ?_
        refine AR 3 [] (by kernel_rfl) ?_
        refine ko [1,6,24,25,26,34,35,36,49] 2 (by simp;rfl) ?_
        refine AR 5 [] (by kernel_rfl) ?_
        refine ko [1,6,24,25,26,34,35,36,56] 2 (by simp;rfl) ?_
        refine AR 5 [] (by kernel_rfl) ?_
        refine ko [1,6,24,25,26,34,35,36,63] 2 (by simp;rfl) ?_
        refine AR 5 [] (by kernel_rfl) ?_
        refine ko [1,6,24,25,26,34,35,36,69] 1 (by simp;rfl) ?_
        refine tpN ?_
        cases hvv5
        exact⟨_,rfl,wk (by simp[wkI])⟩
       ·rw[if_neg (by rw[c53];decide)] at hvv5
        refine ko [1,6,24,25,26,34,35,36,39,40,41,42,44] 6 (by simp;rfl) ?_
        refine AG 44 (decide (x4.Time < s3.1)) (by simp) (fun c54=>?_) (fun c54=>?_)
        ·rw[if_pos c54] at hvv5
         refine AR 3 [] (by kernel_rfl) ?_
         refine ko [1,6,24,25,26,34,35,36,39,40,41,42,49] 2 (by simp;rfl) ?_
         refine AR 5 [] (by kernel_rfl) ?_
         refine ko [1,6,24,25,26,34,35,36,39,40,41,42,56] 2 (by simp;rfl) ?_
         refine AR 5 [] (by kernel_rfl) ?_
         refine ko [1,6,24,25,26,34,35,36,39,40,41,42,63] 2 (by simp;rfl) ?_
         refine AR 5 [] (by kernel_rfl) ?_
         refine ko [1,6,24,25,26,34,35,36,39,40,41,42,69] 1 (by simp;rfl) ?_
         refine tpN ?_
         cases hvv5
         exact⟨_,rfl,wk (by simp[wkI])⟩
        ·rw[if_neg (by rw[c54];decide)] at hvv5
         refine ko [1,6,24,25,26,34,35,36,39,40,41,42,45,46,47,49] 5 (by simp;rfl) ?_
         refine AG 49 (decide (1099511627776 < x4.Time)) (by simp) (fun c55=>?_) (fun c55=>?_)
         ·rw[if_pos c55] at hvv5
          refine AR 5 [] (by kernel_rfl) ?_
          refine ko [1,6,24,25,26,34,35,36,39,40,41,42,45,46,47,56] 2 (by simp;rfl) ?_
          refine AR 5 [] (by kernel_rfl) ?_
          refine ko [1,6,24,25,26,34,35,36,39,40,41,42,45,46,47,63] 2 (by simp;rfl) ?_
          refine AR 5 [] (by kernel_rfl) ?_
          refine ko [1,6,24,25,26,34,35,36,39,40,41,42,45,46,47,69] 1 (by simp;rfl) ?_
          refine tpN ?_
          cases hvv5
          exact⟨_,rfl,wk (by simp[wkI])⟩
         ·rw[if_neg (by rw[c55];decide)] at hvv5
          refine ko [1,6,24,25,26,34,35,36,39,40,41,42,45,46,47,49,50,51,52] 3 (by simp;rfl) ?_
          replace hvv5:=bnd hvv5;obtain⟨y6,hy6,hvv5⟩:=hvv5
          refine AM [1,6,24,25,26,34,35,36,39,40,41,42,45,46,47,49,50,51,52,53] [] (BZ hy6) rfl rfl rfl Tryz.call142 (by simp) (by simp;rfl) ?_
          refine ko [1,6,24,25,26,34,35,36,39,40,41,42,45,46,47,50,51,52,53,54,56] 3 (by simp;rfl) ?_
          refine AG 56 (!y6) (by simp) (fun c56=>?_) (fun c56=>?_)
          ·rw[if_pos c56] at hvv5
           refine AR 5 [] (by kernel_rfl) ?_
           refine ko [1,6,24,25,26,34,35,36,39,40,41,42,45,46,47,50,51,52,53,54,63] 2 (by simp;rfl) ?_
           refine AR 5 [] (by kernel_rfl) ?_
           refine ko [1,6,24,25,26,34,35,36,39,40,41,42,45,46,47,50,51,52,53,54,69] 1 (by simp;rfl) ?_
           refine tpN ?_
           cases hvv5
           exact⟨_,rfl,wk (by simp[wkI])⟩
          ·rw[if_neg (by rw[c56];decide)] at hvv5
           refine ko [1,6,24,25,26,34,35,36,39,40,41,42,45,46,47,50,51,52,53,54,56,57,58,59] 3 (by simp;rfl) ?_
           replace hvv5:=bnd hvv5;obtain⟨y7,hy7,hvv5⟩:=hvv5
           refine AM [1,6,24,25,26,34,35,36,39,40,41,42,45,46,47,50,51,52,53,54,56,57,58,59,60] [] (Dl hy7) rfl rfl rfl Tryz.call143 (by simp) (by simp;rfl) ?_
           refine ko [1,6,24,25,26,34,35,36,39,40,41,42,45,46,47,50,51,52,53,54,57,58,59,60,61,63] 3 (by simp;rfl) ?_
           refine AG 63 (!y7) (by simp) (fun c57=>?_) (fun c57=>?_)
           ·rw[if_pos c57] at hvv5
            refine AR 5 [] (by kernel_rfl) ?_
            refine ko [1,6,24,25,26,34,35,36,39,40,41,42,45,46,47,50,51,52,53,54,57,58,59,60,61,69] 1 (by simp;rfl) ?_
            refine tpN ?_
            cases hvv5
            exact⟨_,rfl,wk (by simp[wkI])⟩
           ·rw[if_neg (by rw[c57];decide)] at hvv5
            refine ko [1,6,24,25,26,34,35,36,39,40,41,42,45,46,47,50,51,52,53,54,57,58,59,60,61,64,65,66,67,68,69] 6 (by simp;rfl) ?_
            refine tpN ?_
            cases hvv5
            exact⟨_,rfl,wk (by simp[wkI])⟩
      ·rw[if_neg (by rw[c52];decide)] at hvv5
       refine AR 3 [] (by kernel_rfl) ?_
       refine ko [1,6,24,25,26,39,40,41,42,44] 8 (by simp;rfl) ?_
       refine AG 44 (decide (x4.Time < s3.1)) (by simp) (fun c58=>?_) (fun c58=>?_)
       ·rw[if_pos c58] at hvv5
        refine AR 3 [] (by kernel_rfl) ?_
        refine ko [1,6,24,25,26,39,40,41,42,49] 2 (by simp;rfl) ?_
        refine AR 5 [] (by kernel_rfl) ?_
        refine ko [1,6,24,25,26,39,40,41,42,56] 2 (by simp;rfl) ?_
        refine AR 5 [] (by kernel_rfl) ?_
        refine ko [1,6,24,25,26,39,40,41,42,63] 2 (by simp;rfl) ?_
        refine AR 5 [] (by kernel_rfl) ?_
        refine ko [1,6,24,25,26,39,40,41,42,69] 1 (by simp;rfl) ?_
        refine tpN ?_
        cases hvv5
        exact⟨_,rfl,wk (by simp[wkI])⟩
       ·rw[if_neg (by rw[c58];decide)] at hvv5
        refine ko [1,6,24,25,26,39,40,41,42,45,46,47,49] 5 (by simp;rfl) ?_
        refine AG 49 (decide (1099511627776 < x4.Time)) (by simp) (fun c59=>?_) (fun c59=>?_)
        ·rw[if_pos c59] at hvv5
         refine AR 5 [] (by kernel_rfl) ?_
         refine ko [1,6,24,25,26,39,40,41,42,45,46,47,56] 2 (by simp;rfl) ?_
         refine AR 5 [] (by kernel_rfl) ?_
         refine ko [1,6,24,25,26,39,40,41,42,45,46,47,63] 2 (by simp;rfl) ?_
         refine AR 5 [] (by kernel_rfl) ?_
         refine ko [1,6,24,25,26,39,40,41,42,45,46,47,69] 1 (by simp;rfl) ?_
         refine tpN ?_
         cases hvv5
         exact⟨_,rfl,wk (by simp[wkI])⟩
        ·rw[if_neg (by rw[c59];decide)] at hvv5
         refine ko [1,6,24,25,26,39,40,41,42,45,46,47,49,50,51,52] 3 (by simp;rfl) ?_
         replace hvv5:=bnd hvv5;obtain⟨y8,hy8,hvv5⟩:=hvv5
         refine AM [1,6,24,25,26,39,40,41,42,45,46,47,49,50,51,52,53] [] (BZ hy8) rfl rfl rfl Tryz.call142 (by simp) (by simp;rfl) ?_
         refine ko [1,6,24,25,26,39,40,41,42,45,46,47,50,51,52,53,54,56] 3 (by simp;rfl) ?_
         refine AG 56 (!y8) (by simp) (fun c60=>?_) (fun c60=>?_)
         ·rw[if_pos c60] at hvv5
          refine AR 5 [] (by kernel_rfl) ?_
          refine ko [1,6,24,25,26,39,40,41,42,45,46,47,50,51,52,53,54,63] 2 (by simp;rfl) ?_
          refine AR 5 [] (by kernel_rfl) ?_
          refine ko [1,6,24,25,26,39,40,41,42,45,46,47,50,51,52,53,54,69] 1 (by simp;rfl) ?_
          refine tpN ?_
          cases hvv5
          exact⟨_,rfl,wk (by simp[wkI])⟩
         ·rw[if_neg (by rw[c60];decide)] at hvv5
          refine ko [1,6,24,25,26,39,40,41,42,45,46,47,50,51,52,53,54,56,57,58,59] 3 (by simp;rfl) ?_
          replace hvv5:=bnd hvv5;obtain⟨y9,hy9,hvv5⟩:=hvv5
          refine AM [1,6,24,25,26,39,40,41,42,45,46,47,50,51,52,53,54,56,57,58,59,60] [] (Dl hy9) rfl rfl rfl Tryz.call143 (by simp) (by simp;rfl) ?_
          refine ko [1,6,24,25,26,39,40,41,42,45,46,47,50,51,52,53,54,57,58,59,60,61,63] 3 (by simp;rfl) ?_
          refine AG 63 (!y9) (by simp) (fun c61=>?_) (fun c61=>?_)
          ·rw[if_pos c61] at hvv5
           refine AR 5 [] (by kernel_rfl) ?_
           refine ko [1,6,24,25,26,39,40,41,42,45,46,47,50,51,52,53,54,57,58,59,60,61,69] 1 (by simp;rfl) ?_
           refine tpN ?_
           cases hvv5
           exact⟨_,rfl,wk (by simp[wkI])⟩
          ·rw[if_neg (by rw[c61];decide)] at hvv5
           refine ko [1,6,24,25,26,39,40,41,42,45,46,47,50,51,52,53,54,57,58,59,60,61,64,65,66,67,68,69] 6 (by simp;rfl) ?_
           refine tpN ?_
           cases hvv5
           exact⟨_,rfl,wk (by simp[wkI])⟩
    ·rw[if_neg (by rw[c30];decide)] at h1
     refine Af ?_
     exact⟨_,he1 _ (Option.some.inj h1),wk (by simp[wkI])⟩
 ·refine kc1 ?_
  refine ko [1,3,11] 5 (by simp;rfl) ?_
  refine AG 11 (decide (24 < ((a0.Kinds).length:Int))) (by simp) (fun c62=>?_) (fun c62=>?_)
  ·rw[if_pos c62] at hvv1
   refine AR 4 [] (by kernel_rfl) ?_
   refine ko [1,3,17] 2 (by simp;rfl) ?_
   refine AR 4 [] (by kernel_rfl) ?_
   refine ko [1,22] 1 (by simp;rfl) ?_
   refine tpN ?_
   cases hvv1
   exact⟨_,rfl,wk (by simp[wkI])⟩
  ·rw[if_neg (by rw[c62];decide)] at hvv1
   refine ko [1,3,17] 6 (by simp;rfl) ?_
   refine AG 17 (decide (120 < ((a0.Events).length:Int))) (by simp) (fun c63=>?_) (fun c63=>?_)
   ·rw[if_pos c63] at hvv1
    refine AR 4 [] (by kernel_rfl) ?_
    refine ko [1,22] 1 (by simp;rfl) ?_
    refine tpN ?_
    cases hvv1
    exact⟨_,rfl,wk (by simp[wkI])⟩
   ·rw[if_neg (by rw[c63];decide)] at hvv1
    refine ko [1,17,19,20] 3 (by simp;rfl) ?_
    replace hvv1:=bnd hvv1;obtain⟨y12,hy12,hvv1⟩:=hvv1
    refine AM [1,17,21] [] (Bi hy12) rfl rfl rfl Tryz.call74 (by simp) (by simp;rfl) ?_
    refine ko [1,22] 1 (by simp;rfl) ?_
    refine tpN ?_
    cases hvv1
    exact⟨_,rfl,wk (by simp[wkI])⟩
theorem CO {a0:Int} {a1:Int} {a2:Int} {r:Bool} (h0:access_among a0 a1 a2=some r):Ac Tryz.prog 114 [] [.d (.int .i64 a0),.d (.int .i64 a1),.d (.int .i64 a2)] (.d (.bool r)) []:=by
 unfold access_among at h0
 refine AW (nt:=15) (rs:=[.tmp 6]) Tryz.func114 rfl Tryz.ntmps114 rfl (by simp) (by decide) rfl fun K=>?_
 refine kr [0,1,2] (by simp;rfl) ?_
 replace h0:=bnd h0;obtain⟨v1,hvv1,h0⟩:=h0
 refine sjv (fun v1_:Bool=>({ nt:=15,env:=[(6,.d (.bool v1_))],box:=[],vec:=[]}:St)) (fun v1_=>v1=v1_) (fun v1_ e=>?_) ?_
 ·subst e
  cases h0
  exact trr ⟨[],by simp,rfl,by simp⟩
 ·refine kc1 ?_
  refine ko [0,2,10] 4 (by simp;rfl) ?_
  refine AG 10 (decide (a1≤a0)) (by simp) (fun c3=>?_) (fun c3=>?_)
  ·rw[c3] at hvv1
   refine ko [6] 5 (by simp;rfl) ?_
   refine tpN ?_
   cases hvv1
   exact⟨_,rfl,wk (by simp[wkI])⟩
  ·rw[c3] at hvv1
   refine AR 3 [] (by kernel_rfl) ?_
   refine ko [6] 2 (by simp;rfl) ?_
   refine tpN ?_
   cases hvv1
   exact⟨_,rfl,wk (by simp[wkI])⟩
theorem Cj {a0:Int} {r:Bool} (h0:access_Content a0=some r):Ac Tryz.prog 63 [] [.d (.int .i64 a0)] (.d (.bool r)) []:=by
 unfold access_Content at h0
 refine AW (nt:=5) (rs:=[.tmp 2]) Tryz.func63 rfl Tryz.ntmps63 rfl (by simp) (by decide) rfl fun K=>?_
 refine kr [0] (by simp;rfl) ?_
 refine kc ?_
 refine ko [3] 1 (by simp;rfl) ?_
 replace h0:=bnd h0;obtain⟨y1,hy1,h0⟩:=h0
 refine AM [4] [] (CO hy1) rfl rfl rfl Tryz.call114 (by simp) (by simp;rfl) ?_
 refine ko [2] 1 (by simp;rfl) ?_
 refine tpN ?_
 cases h0
 exact trr ⟨[],by simp,rfl,by simp⟩
theorem CP {a0:AJ} {a1:Int} {r:Bool} (h0:access_Place a0 a1=some r):Ac Tryz.prog 146 [] [.agg (AX a0),.d (.int .i64 a1)] (.d (.bool r)) []:=by
 unfold access_Place at h0
 refine AW (nt:=10) (rs:=[.tmp 4]) Tryz.func146 rfl Tryz.ntmps146 rfl (by simp) (by decide) rfl fun K=>?_
 refine kr [1,2] (by simp;rfl) ?_
 refine kc ?_
 refine ko [5,8] 4 (by simp;rfl) ?_
 replace h0:=bnd h0;obtain⟨y1,hy1,h0⟩:=h0
 refine AM [9] [] (CO hy1) rfl rfl rfl Tryz.call114 (by simp) (by simp;rfl) ?_
 refine ko [4] 1 (by simp;rfl) ?_
 refine tpN ?_
 cases h0
 exact trr ⟨[],by simp,rfl,by simp⟩
theorem IK {a0:AJ} {a1:Ab} {r:Bool} (h0:access_right a0 a1=some r):Ac Tryz.prog 144 [] [.agg (AX a0),.agg (Fv a1)] (.d (.bool r)) []:=by
 unfold access_right at h0
 refine AW (nt:=79) (rs:=[.tmp 4]) Tryz.func144 rfl Tryz.ntmps144 rfl (by simp) (by decide) rfl fun K=>?_
 refine kr [2,3] (by simp;rfl) ?_
 refine kr [2,3,5] (by simp;rfl) ?_
 refine kr [2,3,5,6] (by simp;rfl) ?_
 refine sjv (fun v1:Bool×Int×Int×Int×Int=>({ nt:=79,env:=[(2,.ptr 2 0),(3,.ptr 3 0),(5,.ptr 5 0),(6,.d (.bool v1.1))],box:=[(2,[.d (.int .i64 a0.Places),.d (.slice (AB AK a0.Events))]),(3,[.d (.int .i64 a1.Time),.d (.int .i64 a1.Kind),.d (.int .i64 a1.Place),.d (.int .i64 a1.Principal),.d (.int .i64 a1.Until),.d (.int .i64 a1.Content),.d (.int .i64 a1.From)]),(5,[.d (.int .i64 a1.Time),.d (.int .i64 a1.Kind),.d (.int .i64 a1.Place),.d (.int .i64 v1.2.1),.d (.int .i64 v1.2.2.1),.d (.int .i64 v1.2.2.2.1),.d (.int .i64 v1.2.2.2.2)])],vec:=[]}:St)) (fun v1=>access_right_j0 a0 a1 v1=some r) (fun v1 h0=>?_) ?_
 ·unfold access_right_j0 at h0
  replace h0:=bnd h0;obtain⟨v2,hvv2,h0⟩:=h0
  refine sjv (fun v2_:Bool=>({ nt:=79,env:=[(4,.d (.bool v2_))],box:=[],vec:=[]}:St)) (fun v2_=>v2=v2_) (fun v2_ e=>?_) ?_
  ·subst e
   cases h0
   exact trr ⟨[],by simp,rfl,by simp⟩
  ·refine kc1 ?_
   refine ko [2,3,5,68] 2 (by simp;rfl) ?_
   refine AG 68 v1.1 (by simp) (fun c18=>?_) (fun c18=>?_)
   ·rw[if_pos c18] at hvv2
    refine ko [3,5,68,69,71] 3 (by simp;rfl) ?_
    replace hvv2:=bnd hvv2;obtain⟨y3,hy3,hvv2⟩:=hvv2
    refine AM [3,5,68,72] [] (CP hy3) rfl rfl rfl Tryz.call146 (by simp) (by simp;rfl) ?_
    refine ko [3,5,74] 2 (by simp;rfl) ?_
    refine AG 74 y3 (by simp) (fun c19=>?_) (fun c19=>?_)
    ·rw[if_pos c19] at hvv2
     refine ko [4] 5 (by simp;rfl) ?_
     refine tpN ?_
     cases hvv2
     exact⟨_,rfl,wk (by simp[wkI])⟩
    ·rw[if_neg (by rw[c19];decide)] at hvv2
     refine AR 3 [] (by kernel_rfl) ?_
     refine ko [4] 2 (by simp;rfl) ?_
     refine tpN ?_
     cases hvv2
     exact⟨_,rfl,wk (by simp[wkI])⟩
   ·rw[if_neg (by rw[c18];decide)] at hvv2
    refine AR 4 [] (by kernel_rfl) ?_
    refine ko [3,5,74] 2 (by simp;rfl) ?_
    refine AR 3 [] (by kernel_rfl) ?_
    refine ko [4] 2 (by simp;rfl) ?_
    refine tpN ?_
    cases hvv2
    exact⟨_,rfl,wk (by simp[wkI])⟩
 ·refine kr [2,3,5,6,15] (by simp;rfl) ?_
  refine trb ?_
  refine sjv (fun v4:Bool=>({ nt:=79,env:=[(2,.ptr 2 0),(3,.ptr 3 0),(5,.ptr 5 0),(6,.d (.bool false)),(15,.d (.int .i64 a1.Kind)),(16,.d (.bool v4))],box:=[(2,[.d (.int .i64 a0.Places),.d (.slice (AB AK a0.Events))]),(3,[.d (.int .i64 a1.Time),.d (.int .i64 a1.Kind),.d (.int .i64 a1.Place),.d (.int .i64 a1.Principal),.d (.int .i64 a1.Until),.d (.int .i64 a1.Content),.d (.int .i64 a1.From)]),(5,[.d (.int .i64 a1.Time),.d (.int .i64 a1.Kind),.d (.int .i64 a1.Place),.d (.int .i64 0),.d (.int .i64 0),.d (.int .i64 0),.d (.int .i64 0)])],vec:=[]}:St)) (fun v4=>access_right_j1 a1 a0 v4=some r) (fun v4 h0=>?_) ?_
  ·unfold access_right_j1 at h0
   refine trc (b:=v4) (by simp) (fun c21=>?_) (fun c21=>?_)
   ·rw[if_pos c21] at h0
    refine kd1 [[],[0],[],[2],[3],[],[1,5],[4]] [6] [(5,[6])] none [] 8 fol (by decide +kernel) (by simp) ?_
    refine AN 0 2 rfl (by simp (maxSteps:=1000000);rfl) ?_
    refine AN 2 2 rfl (by simp (maxSteps:=1000000);rfl) ?_
    replace h0:=bnd h0;obtain⟨y5,hy5,h0⟩:=h0
    refine BL 4 [] (CO hy5) rfl rfl rfl rfl rfl Tryz.call114 (by simp) ?_
    refine AN 5 2 rfl (by simp (maxSteps:=1000000);rfl) ?_
    refine AN 7 1 rfl (by simp (maxSteps:=1000000);rfl) ?_
    refine BC rfl (tpN ?_)
    exact⟨_,h0,wk (by simp[wkI])⟩
   ·rw[if_neg (by rw[c21];decide)] at h0
    refine kr [2,3,5,6,15,25] (by simp;rfl) ?_
    refine trc (b:=(a1.Kind==3)) (by simp) (fun c22=>?_) (fun c22=>?_)
    ·rw[if_pos c22] at h0
     replace h0:=bnd h0;obtain⟨v6,hvv6,h0⟩:=h0
     refine tjv (fun v6_:Bool=>({ nt:=79,env:=[(2,.ptr 2 0),(3,.ptr 3 0),(5,.ptr 5 0),(6,.d (.bool v6_))],box:=[(2,[.d (.int .i64 a0.Places),.d (.slice (AB AK a0.Events))]),(3,[.d (.int .i64 a1.Time),.d (.int .i64 a1.Kind),.d (.int .i64 a1.Place),.d (.int .i64 a1.Principal),.d (.int .i64 a1.Until),.d (.int .i64 a1.Content),.d (.int .i64 a1.From)]),(5,[.d (.int .i64 a1.Time),.d (.int .i64 a1.Kind),.d (.int .i64 a1.Place),.d (.int .i64 0),.d (.int .i64 a1.Until),.d (.int .i64 0),.d (.int .i64 0)])],vec:=[]}:St)) (fun v6_=>v6=v6_) (fun v6_ e _ Wv6=>?_) ?_
     ·subst e
      exact⟨_,h0,Wk.trans (Wv6) (wk (by simp[wkI]))⟩
     ·refine kd1 [[],[0],[],[2],[],[4],[3,5],[6],[7],[7,8],[7,9],[7,10],[],[1,12],[11]] [13] [(5,[13])] none [] 15 fol (by decide +kernel) (by simp) ?_
      refine AN 0 2 rfl (by simp (maxSteps:=1000000);rfl) ?_
      refine AN 2 2 rfl (by simp (maxSteps:=1000000);rfl) ?_
      refine AN 4 2 rfl (by simp (maxSteps:=1000000);rfl) ?_
      refine AN 6 2 rfl (by simp (maxSteps:=1000000);rfl) ?_
      refine EM 7 34 (decide (a1.Time < a1.Until)) (by simp) (fun c31=>?_) (fun c31=>?_)
      ·rw[c31] at hvv6
       refine AN 8 2 rfl (by simp (maxSteps:=1000000);rfl) ?_
       refine AN 10 2 rfl (by simp (maxSteps:=1000000);rfl) ?_
       refine AN 12 2 rfl (by simp (maxSteps:=1000000);rfl) ?_
       refine AN 14 1 rfl (by simp (maxSteps:=1000000);rfl) ?_
       refine BC rfl (tpN ?_)
       cases hvv6
       exact⟨_,rfl,wk (by simp[wkI])⟩
      ·rw[c31] at hvv6
       refine DR 8 79 [some 35,some 36,some 37] rfl rfl (by decide) (by kernel_rfl) (by simp only[F8,List.map_cons,List.map_nil,List.cons_append,List.nil_append];rfl) ?_
       refine AN 11 2 rfl (by simp (maxSteps:=1000000);rfl) ?_
       refine AN 13 2 rfl (by simp (maxSteps:=1000000);rfl) ?_
       refine BC rfl (tpN ?_)
       cases hvv6
       exact⟨_,rfl,wk (by simp[wkI])⟩
    ·rw[if_neg (by rw[c22];decide)] at h0
     refine kr [2,3,5,6,15,40] (by simp;rfl) ?_
     refine trc (b:=(a1.Kind==4)) (by simp) (fun c32=>?_) (fun c32=>?_)
     ·rw[if_pos c32] at h0
      refine lr (by simp;rfl) ?_
      exact⟨_,h0,wk (by simp[wkI])⟩
     ·rw[if_neg (by rw[c32];decide)] at h0
      refine sjv (fun v7:Bool=>({ nt:=79,env:=[(2,.ptr 2 0),(3,.ptr 3 0),(5,.ptr 5 0),(6,.d (.bool false)),(15,.d (.int .i64 a1.Kind)),(42,.d (.bool v7))],box:=[(2,[.d (.int .i64 a0.Places),.d (.slice (AB AK a0.Events))]),(3,[.d (.int .i64 a1.Time),.d (.int .i64 a1.Kind),.d (.int .i64 a1.Place),.d (.int .i64 a1.Principal),.d (.int .i64 a1.Until),.d (.int .i64 a1.Content),.d (.int .i64 a1.From)]),(5,[.d (.int .i64 a1.Time),.d (.int .i64 a1.Kind),.d (.int .i64 a1.Place),.d (.int .i64 0),.d (.int .i64 0),.d (.int .i64 0),.d (.int .i64 0)])],vec:=[]}:St)) (fun v7=>access_right_j2 a1 a0 v7=some r) (fun v7 h0=>?_) ?_
      ·unfold access_right_j2 at h0
       refine trc (b:=v7) (by simp) (fun c34=>?_) (fun c34=>?_)
       ·rw[if_pos c34] at h0
        refine kd1 [[],[0],[],[2],[3],[],[1,5],[4]] [6] [(5,[6])] none [] 8 fol (by decide +kernel) (by simp) ?_
        refine AN 0 2 rfl (by simp (maxSteps:=1000000);rfl) ?_
        refine AN 2 2 rfl (by simp (maxSteps:=1000000);rfl) ?_
        replace h0:=bnd h0;obtain⟨y8,hy8,h0⟩:=h0
        refine BL 4 [] (Cj hy8) rfl rfl rfl rfl rfl Tryz.call63 (by simp) ?_
        refine AN 5 2 rfl (by simp (maxSteps:=1000000);rfl) ?_
        refine AN 7 1 rfl (by simp (maxSteps:=1000000);rfl) ?_
        refine BC rfl (tpN ?_)
        exact⟨_,h0,wk (by simp[wkI])⟩
       ·rw[if_neg (by rw[c34];decide)] at h0
        refine kr [2,3,5,6,51] (by simp;rfl) ?_
        refine trc (b:=(a1.Kind==7)) (by simp) (fun c35=>?_) (fun c35=>?_)
        ·rw[if_pos c35] at h0
         replace h0:=bnd h0;obtain⟨v9,hvv9,h0⟩:=h0
         refine tjv (fun v9_:Bool=>({ nt:=79,env:=[(2,.ptr 2 0),(3,.ptr 3 0),(5,.ptr 5 0),(6,.d (.bool v9_))],box:=[(2,[.d (.int .i64 a0.Places),.d (.slice (AB AK a0.Events))]),(3,[.d (.int .i64 a1.Time),.d (.int .i64 a1.Kind),.d (.int .i64 a1.Place),.d (.int .i64 a1.Principal),.d (.int .i64 a1.Until),.d (.int .i64 a1.Content),.d (.int .i64 a1.From)]),(5,[.d (.int .i64 a1.Time),.d (.int .i64 a1.Kind),.d (.int .i64 a1.Place),.d (.int .i64 0),.d (.int .i64 0),.d (.int .i64 0),.d (.int .i64 a1.From)])],vec:=[]}:St)) (fun v9_=>v9=v9_) (fun v9_ e _ Wv9=>?_) ?_
         ·subst e
          exact⟨_,h0,Wk.trans (Wv9) (wk (by simp[wkI]))⟩
         ·refine kd1 [[],[0],[],[],[3],[2,4],[5],[6],[6,7],[6],[6,9],[6,8,10],[6,11],[],[1,13],[12]] [14] [(5,[14])] none [] 16 fol (by decide +kernel) (by simp) ?_
          refine AN 0 2 rfl (by simp (maxSteps:=1000000);rfl) ?_
          refine AN 2 2 rfl (by simp (maxSteps:=1000000);rfl) ?_
          refine AN 4 1 rfl (by simp (maxSteps:=1000000);rfl) ?_
          replace hvv9:=bnd hvv9;obtain⟨y10,hy10,hvv9⟩:=hvv9
          refine BL 5 [] (CP hy10) rfl rfl rfl rfl rfl Tryz.call146 (by simp) ?_
          refine AN 6 1 rfl (by simp (maxSteps:=1000000);rfl) ?_
          refine EM 6 59 y10 (by simp) (fun c44=>?_) (fun c44=>?_)
          ·rw[if_pos c44] at hvv9
           refine AN 7 2 rfl (by simp (maxSteps:=1000000);rfl) ?_
           refine AN 9 2 rfl (by simp (maxSteps:=1000000);rfl) ?_
           refine AN 11 2 rfl (by simp (maxSteps:=1000000);rfl) ?_
           refine AN 13 2 rfl (by simp (maxSteps:=1000000);rfl) ?_
           refine AN 15 1 rfl (by simp (maxSteps:=1000000);rfl) ?_
           refine BC rfl (tpN ?_)
           cases hvv9
           exact⟨_,rfl,wk (by simp[wkI])⟩
          ·rw[if_neg (by rw[c44];decide)] at hvv9
           refine DR 7 79 [some 60,some 61,some 62,some 63,some 64] rfl rfl (by decide) (by kernel_rfl) (by simp only[F8,List.map_cons,List.map_nil,List.cons_append,List.nil_append];rfl) ?_
           refine AN 12 2 rfl (by simp (maxSteps:=1000000);rfl) ?_
           refine AN 14 2 rfl (by simp (maxSteps:=1000000);rfl) ?_
           refine BC rfl (tpN ?_)
           cases hvv9
           exact⟨_,rfl,wk (by simp[wkI])⟩
        ·rw[if_neg (by rw[c35];decide)] at h0
         refine trk ?_
         exact⟨_,h0,wk (by simp[wkI])⟩
      ·refine kr [2,3,5,6,15,42] (by simp;rfl) ?_
       refine trc (b:=(a1.Kind==5)) (by simp) (fun c45=>?_) (fun c45=>?_)
       ·rw[if_pos c45] at h0
        refine trk ?_
        exact⟨_,h0,wk (by simp[wkI])⟩
       ·rw[if_neg (by rw[c45];decide)] at h0
        refine lr (by simp;rfl) ?_
        exact⟨_,h0,wk (by simp[wkI])⟩
  ·refine kr [2,3,5,6,15,16] (by simp;rfl) ?_
   refine trc (b:=(a1.Kind==1)) (by simp) (fun c46=>?_) (fun c46=>?_)
   ·rw[if_pos c46] at h0
    refine trk ?_
    exact⟨_,h0,wk (by simp[wkI])⟩
   ·rw[if_neg (by rw[c46];decide)] at h0
    refine lr (by simp;rfl) ?_
    exact⟨_,h0,wk (by simp[wkI])⟩
theorem CQ {a0:AJ} {r:Int} (h0:access_Check a0=some r):Ac Tryz.prog 110 [] [.agg (AX a0)] (.d (.int .i64 r)) []:=by
 unfold access_Check at h0
 refine AW (nt:=41) (rs:=[.tmp 2]) Tryz.func110 rfl Tryz.ntmps110 rfl (by simp) (by decide) rfl fun K=>?_
 refine kr [1] (by simp;rfl) ?_
 refine trq ?_
 replace h0:=bnd h0;obtain⟨v1,hvv1,h0⟩:=h0
 refine sjv (fun v1_:Bool=>({ nt:=41,env:=[(1,.ptr 1 0),(15,.d (.bool v1_))],box:=[(1,[.d (.int .i64 a0.Places),.d (.slice (AB AK a0.Events))])],vec:=[]}:St)) (fun v1_=>v1=v1_) (fun v1_ e=>?_) ?_
 ·subst e
  refine trc (b:=v1) (by simp) (fun c3=>?_) (fun c3=>?_)
  ·rw[if_pos c3] at h0
   refine kr [2] (by simp;rfl) ?_
   cases h0
   exact trr ⟨[],by simp,rfl,by simp⟩
  ·rw[if_neg (by rw[c3];decide)] at h0
   refine trk ?_
   refine kr [1,3] (by simp;rfl) ?_
   refine trq ?_
   refine kr [1,3,17,18,19] (by simp;rfl) ?_
   replace h0:=bnd h0;obtain⟨e1,hI1,h0⟩:=h0
   refine tjv (fun v2:Unit=>({ nt:=41,env:=[],box:=[],vec:=[]}:St)) (fun v2=>.inl v2=e1) (fun v2 hI1e _ W1=>?_) ?_
   ·subst hI1e
    dsimp only at h0
    refine Al W1 ?_
    refine kr [2] (by simp;rfl) ?_
    cases h0
    exact trr ⟨[],by simp,rfl,by simp⟩
   ·refine trb (Ai (fun s3:Int×Int=>({ nt:=41,env:=[(1,.ptr 1 0),(3,.d (.int .i64 s3.1)),(17,.d (.slice (AB AK a0.Events))),(18,.d (.int .i64 ((a0.Events).length:Int))),(19,.d (.int .i64 s3.2))],box:=[(1,[.d (.int .i64 a0.Places),.d (.slice (AB AK a0.Events))])],vec:=[]}:St)) hI1 (wk (by simp[wkI])) fun G1 s3 o1 h1 hg1 he1=>?_)
    unfold access_Check_l0 at h1
    refine kr [1,3,17,18,19,20] (by simp;rfl) ?_
    refine trq ?_
    refine trc (b:=(decide (s3.2 < ((a0.Events).length:Int)))) (by simp) (fun c12=>?_) (fun c12=>?_)
    ·rw[if_pos c12] at h1
     refine trk ?_
     refine trq ?_
     refine trb ?_
     replace h1:=bnd h1;obtain⟨x4,p3,h1⟩:=h1
     replace p3:=AT p3
     have p3':=p3;try simp at p3'
     refine kr [1,3,5,17,18,19] (by simp[p3,p3'];rfl) ?_
     refine trq ?_
     replace h1:=bnd h1;obtain⟨v5,hvv5,h1⟩:=h1
     refine sjv (fun v5_:Bool=>({ nt:=41,env:=[(1,.ptr 1 0),(5,.ptr 5 0),(17,.d (.slice (AB AK a0.Events))),(18,.d (.int .i64 ((a0.Events).length:Int))),(19,.d (.int .i64 s3.2)),(37,.d (.bool v5_))],box:=[(1,[.d (.int .i64 a0.Places),.d (.slice (AB AK a0.Events))]),(5,[.d (.int .i64 x4.Time),.d (.int .i64 x4.Kind),.d (.int .i64 x4.Place),.d (.int .i64 x4.Principal),.d (.int .i64 x4.Until),.d (.int .i64 x4.Content),.d (.int .i64 x4.From)])],vec:=[]}:St)) (fun v5_=>v5=v5_) (fun v5_ e=>?_) ?_
     ·subst e
      refine trc (b:=v5) (by simp) (fun c17=>?_) (fun c17=>?_)
      ·rw[if_pos c17] at h1
       refine kr [2] (by simp;rfl) ?_
       have k1:=he1 _ (Option.some.inj h1)
       subst k1
       dsimp only at h0
       cases h0
       exact trr ⟨[],by simp,rfl,by simp⟩
      ·rw[if_neg (by rw[c17];decide)] at h1
       refine trk ?_
       refine lr (by simp;rfl) ?_
       refine lr (by simp;rfl) ?_
       exact⟨_,hg1 _ (Option.some.inj h1),wk (by simp[wkI])⟩
     ·refine kc1 ?_
      refine ko [1,5,17,18,19,27] 5 (by simp;rfl) ?_
      refine AG 27 (decide (x4.Time < s3.1)) (by simp) (fun c18=>?_) (fun c18=>?_)
      ·rw[if_pos c18] at hvv5
       refine AR 3 [] (by kernel_rfl) ?_
       refine ko [1,5,17,18,19,32] 2 (by simp;rfl) ?_
       refine AR 4 [] (by kernel_rfl) ?_
       refine ko [1,5,17,18,19,37] 1 (by simp;rfl) ?_
       refine tpN ?_
       cases hvv5
       exact⟨_,rfl,wk (by simp[wkI])⟩
      ·rw[if_neg (by rw[c18];decide)] at hvv5
       refine ko [1,5,17,18,19,28,29,30,32] 5 (by simp;rfl) ?_
       refine AG 32 (decide (1099511627776 < x4.Time)) (by simp) (fun c19=>?_) (fun c19=>?_)
       ·rw[if_pos c19] at hvv5
        refine AR 4 [] (by kernel_rfl) ?_
        refine ko [1,5,17,18,19,28,29,30,37] 1 (by simp;rfl) ?_
        refine tpN ?_
        cases hvv5
        exact⟨_,rfl,wk (by simp[wkI])⟩
       ·rw[if_neg (by rw[c19];decide)] at hvv5
        refine ko [1,5,17,18,19,28,29,30,32,33,34] 2 (by simp;rfl) ?_
        replace hvv5:=bnd hvv5;obtain⟨y6,hy6,hvv5⟩:=hvv5
        refine AM [1,5,17,18,19,28,29,30,32,33,34,35] [] (IK hy6) rfl rfl rfl Tryz.call144 (by simp) (by simp;rfl) ?_
        refine ko [1,5,17,18,19,28,29,30,33,34,35,36,37] 2 (by simp;rfl) ?_
        refine tpN ?_
        cases hvv5
        exact⟨_,rfl,wk (by simp[wkI])⟩
    ·rw[if_neg (by rw[c12];decide)] at h1
     refine Af ?_
     exact⟨_,he1 _ (Option.some.inj h1),wk (by simp[wkI])⟩
 ·refine kc1 ?_
  refine ko [1,7] 2 (by simp;rfl) ?_
  replace hvv1:=bnd hvv1;obtain⟨y9,hy9,hvv1⟩:=hvv1
  refine AM [1,8] [] (CO hy9) rfl rfl rfl Tryz.call114 (by simp) (by simp;rfl) ?_
  refine ko [1,10] 2 (by simp;rfl) ?_
  refine AG 10 (!y9) (by simp) (fun c20=>?_) (fun c20=>?_)
  ·rw[if_pos c20] at hvv1
   refine AR 4 [] (by kernel_rfl) ?_
   refine ko [1,15] 1 (by simp;rfl) ?_
   refine tpN ?_
   cases hvv1
   exact⟨_,rfl,wk (by simp[wkI])⟩
  ·rw[if_neg (by rw[c20];decide)] at hvv1
   refine ko [1,15] 5 (by simp;rfl) ?_
   refine tpN ?_
   cases hvv1
   exact⟨_,rfl,wk (by simp[wkI])⟩
theorem Er {a0:AJ} {a1:Int} {r:Bool} (h0:access_known a0 a1=some r):Ac Tryz.prog 120 [] [.agg (AX a0),.d (.int .i64 a1)] (.d (.bool r)) []:=by
 unfold access_known at h0
 refine AW (nt:=13) (rs:=[.tmp 4]) Tryz.func120 rfl Tryz.ntmps120 rfl (by simp) (by decide) rfl fun K=>?_
 refine kr [1,2] (by simp;rfl) ?_
 replace h0:=bnd h0;obtain⟨v1,hvv1,h0⟩:=h0
 refine sjv (fun v1_:Bool=>({ nt:=13,env:=[(4,.d (.bool v1_))],box:=[],vec:=[]}:St)) (fun v1_=>v1=v1_) (fun v1_ e=>?_) ?_
 ·subst e
  cases h0
  exact trr ⟨[],by simp,rfl,by simp⟩
 ·refine kc1 ?_
  refine ko [1,2,5] 1 (by simp;rfl) ?_
  replace hvv1:=bnd hvv1;obtain⟨y2,hy2,hvv1⟩:=hvv1
  refine AM [1,2,6] [] (CQ hy2) rfl rfl rfl Tryz.call110 (by simp) (by simp;rfl) ?_
  refine ko [1,2,8] 2 (by simp;rfl) ?_
  refine AG 8 (y2==0) (by simp) (fun c3=>?_) (fun c3=>?_)
  ·rw[if_pos c3] at hvv1
   refine ko [8,9,10] 2 (by simp;rfl) ?_
   replace hvv1:=bnd hvv1;obtain⟨y3,hy3,hvv1⟩:=hvv1
   refine AM [8,11] [] (CP hy3) rfl rfl rfl Tryz.call146 (by simp) (by simp;rfl) ?_
   refine ko [4] 2 (by simp;rfl) ?_
   refine tpN ?_
   cases hvv1
   exact⟨_,rfl,wk (by simp[wkI])⟩
  ·rw[if_neg (by rw[c3];decide)] at hvv1
   refine AR 3 [] (by kernel_rfl) ?_
   refine ko [4] 2 (by simp;rfl) ?_
   refine tpN ?_
   cases hvv1
   exact⟨_,rfl,wk (by simp[wkI])⟩
theorem GD {a0:AI} {a1:Int} {r:Bool} (h0:directory_known a0 a1=some r):Ac Tryz.prog 191 [] [.agg (AY a0),.d (.int .i64 a1)] (.d (.bool r)) []:=by
 unfold directory_known at h0
 refine AW (nt:=13) (rs:=[.tmp 4]) Tryz.func191 rfl Tryz.ntmps191 rfl (by simp) (by decide) rfl fun K=>?_
 refine kr [1,2] (by simp;rfl) ?_
 replace h0:=bnd h0;obtain⟨v1,hvv1,h0⟩:=h0
 refine sjv (fun v1_:Bool=>({ nt:=13,env:=[(4,.d (.bool v1_))],box:=[],vec:=[]}:St)) (fun v1_=>v1=v1_) (fun v1_ e=>?_) ?_
 ·subst e
  cases h0
  exact trr ⟨[],by simp,rfl,by simp⟩
 ·refine kc1 ?_
  refine ko [1,2,5] 1 (by simp;rfl) ?_
  replace hvv1:=bnd hvv1;obtain⟨y2,hy2,hvv1⟩:=hvv1
  refine AM [1,2,6] [] (Dm hy2) rfl rfl rfl Tryz.call109 (by simp) (by simp;rfl) ?_
  refine ko [1,2,8] 2 (by simp;rfl) ?_
  refine AG 8 (y2==0) (by simp) (fun c3=>?_) (fun c3=>?_)
  ·rw[if_pos c3] at hvv1
   refine ko [8,9,10] 2 (by simp;rfl) ?_
   replace hvv1:=bnd hvv1;obtain⟨y3,hy3,hvv1⟩:=hvv1
   refine AM [8,11] [] (BZ hy3) rfl rfl rfl Tryz.call142 (by simp) (by simp;rfl) ?_
   refine ko [4] 2 (by simp;rfl) ?_
   refine tpN ?_
   cases hvv1
   exact⟨_,rfl,wk (by simp[wkI])⟩
  ·rw[if_neg (by rw[c3];decide)] at hvv1
   refine AR 3 [] (by kernel_rfl) ?_
   refine ko [4] 2 (by simp;rfl) ?_
   refine tpN ?_
   cases hvv1
   exact⟨_,rfl,wk (by simp[wkI])⟩
theorem Ha {a0:AJ} {a1:Int} {a2:Int} {r:(List (Int×Int))} (h0:access_grants a0 a1 a2=some r):Ac Tryz.prog 195 [] [.agg (AX a0),.d (.int .i64 a1),.d (.int .i64 a2)] (.d (.mp (ES 256 1 false false) 2 (AB (C7 (AH .i64) (AH .i64)) r))) []:=by
 unfold access_grants at h0
 refine AW (nt:=47) (rs:=[.tmp 6]) Tryz.func195 rfl Tryz.ntmps195 rfl (by simp) (by decide) rfl fun K=>?_
 refine kr [1,2,3] (by simp;rfl) ?_
 refine kr [1,2,3,7] (by simp;rfl) ?_
 refine trq ?_
 refine kr [1,2,7,12,13,14] (by simp;rfl) ?_
 replace h0:=bnd h0;obtain⟨e1,hI1,h0⟩:=h0
 refine tjv (fun v1:(List (Int×Int))=>({ nt:=47,env:=[(7,.vec 10)],box:=[],vec:=[(10,⟨ES 256 1 false false,2,AB (C7 (AH .i64) (AH .i64)) v1⟩)]}:St)) (fun v1=>v1=e1) (fun v1 hI1e _ W1=>?_) ?_
 ·subst hI1e
  refine Al W1 ?_
  refine kr [6] (by simp;rfl) ?_
  cases h0
  exact trr ⟨[10],by simp,rfl,by simp⟩
 ·refine trb (Ai (fun s2:Int×(List (Int×Int))=>({ nt:=47,env:=[(1,.d (.int .i64 a1)),(2,.d (.int .i64 a2)),(7,.vec 10),(12,.d (.slice (AB AK a0.Events))),(13,.d (.int .i64 ((a0.Events).length:Int))),(14,.d (.int .i64 s2.1))],box:=[],vec:=[(10,⟨ES 256 1 false false,2,AB (C7 (AH .i64) (AH .i64)) s2.2⟩)]}:St)) hI1 (wk (by simp[wkI])) fun G1 s2 o1 h1 hg1 he1=>?_)
  unfold access_grants_l0 at h1
  refine kr [1,2,7,12,13,14,15] (by simp;rfl) ?_
  refine trq ?_
  refine trc (b:=(decide (s2.1 < ((a0.Events).length:Int)))) (by simp) (fun c11=>?_) (fun c11=>?_)
  ·rw[if_pos c11] at h1
   refine trk ?_
   refine trq ?_
   refine trb ?_
   replace h1:=bnd h1;obtain⟨x3,p3,h1⟩:=h1
   replace p3:=AT p3
   have p3':=p3;try simp at p3'
   refine kr [1,2,7,8,9,12,13,14] (by simp[p3,p3'];rfl) ?_
   refine trb ?_
   replace h1:=bnd h1;obtain⟨v4,hvv4,h1⟩:=h1
   refine sjv (fun v4_:Bool=>({ nt:=47,env:=[(1,.d (.int .i64 a1)),(2,.d (.int .i64 a2)),(7,.vec 10),(8,.d (.int .i64 s2.1)),(9,.ptr 9 0),(12,.d (.slice (AB AK a0.Events))),(13,.d (.int .i64 ((a0.Events).length:Int))),(14,.d (.int .i64 s2.1)),(19,.d (.bool v4_))],box:=[(9,[.d (.int .i64 x3.Time),.d (.int .i64 x3.Kind),.d (.int .i64 x3.Place),.d (.int .i64 x3.Principal),.d (.int .i64 x3.Until),.d (.int .i64 x3.Content),.d (.int .i64 x3.From)])],vec:=[(10,⟨ES 256 1 false false,2,AB (C7 (AH .i64) (AH .i64)) s2.2⟩)]}:St)) (fun v4_=>v4=v4_) (fun v4_ e=>?_) ?_
   ·subst e
    refine trc (b:=v4) (by simp) (fun c14=>?_) (fun c14=>?_)
    ·rw[if_pos c14] at h1
     refine trk ?_
     refine lr (by simp;rfl) ?_
     exact⟨_,hg1 _ (Option.some.inj h1),wk (by simp[wkI])⟩
    ·rw[if_neg (by rw[c14];decide)] at h1
     refine kr [1,2,7,8,9,12,13,14,30] (by simp;rfl) ?_
     refine trc (b:=(x3.Kind==1)) (by simp) (fun c15=>?_) (fun c15=>?_)
     ·rw[if_pos c15] at h1
      refine lr (by simp;rfl) ?_
      refine lr (by simp;rfl) ?_
      exact⟨_,hg1 _ (Option.some.inj h1),wk (by simp[wkI])⟩
     ·rw[if_neg (by rw[c15];decide)] at h1
      refine kr [1,2,7,9,12,13,14,38] (by simp;rfl) ?_
      refine trc (b:=(x3.Kind==2)) (by simp) (fun c16=>?_) (fun c16=>?_)
      ·rw[if_pos c16] at h1
       refine lr (by simp;rfl) ?_
       refine lr (by simp;rfl) ?_
       exact⟨_,hg1 _ (Option.some.inj h1),wk (by simp[wkI])⟩
      ·rw[if_neg (by rw[c16];decide)] at h1
       refine trk ?_
       refine lr (by simp;rfl) ?_
       exact⟨_,hg1 _ (Option.some.inj h1),wk (by simp[wkI])⟩
   ·refine kc1 ?_
    refine ko [1,2,7,8,9,12,13,14,24] 5 (by simp;rfl) ?_
    refine AG 24 (decide (a2 < x3.Time)) (by simp) (fun c17=>?_) (fun c17=>?_)
    ·rw[c17] at hvv4
     refine AR 4 [] (by kernel_rfl) ?_
     refine ko [1,2,7,8,9,12,13,14,19] 2 (by simp;rfl) ?_
     refine tpN ?_
     cases hvv4
     exact⟨_,rfl,wk (by simp[wkI])⟩
    ·rw[c17] at hvv4
     refine ko [1,2,7,8,9,12,13,14,19,25,26,27,28] 6 (by simp;rfl) ?_
     refine tpN ?_
     cases hvv4
     exact⟨_,rfl,wk (by simp[wkI])⟩
  ·rw[if_neg (by rw[c11];decide)] at h1
   refine Af ?_
   exact⟨_,he1 _ (Option.some.inj h1),wk (by simp[wkI])⟩
theorem D6 {a0:Int} {r:Int} (h0:copies_bit a0=some r):Ac Tryz.prog 119 [] [.d (.int .i64 a0)] (.d (.int .u64 r)) []:=by
 unfold copies_bit at h0
 refine AW (nt:=5) (rs:=[.tmp 2]) Tryz.func119 rfl Tryz.ntmps119 rfl (by simp) (by decide) rfl fun K=>?_
 refine kr [0] (by simp;rfl) ?_
 replace h0:=bnd h0;obtain⟨_,p1,h0⟩:=h0
 replace p1:=AZ p1
 have p1':=p1;try simp at p1'
 refine kr [2] (by simp[p1,p1'];rfl) ?_
 cases h0
 exact trr ⟨[],by simp,rfl,by simp⟩
end Go.Vl
