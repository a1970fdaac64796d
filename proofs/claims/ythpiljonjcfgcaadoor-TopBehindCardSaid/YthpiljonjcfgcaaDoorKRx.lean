/- Plain functions that mirror functions of the given program. Conditions: none. -/
import Derived.Test.YthpiljonjcfgcaaDoorKAx
import Derived.Test.YthpiljonjcfgcaaDoorKg2
import Derived.Test.YthpiljonjcfgcaaDoorVmSl
import Derived.Test.YthpiljonjcfgcaaDoorKq
import Derived.Test.YthpiljonjcfgcaaDoorTyK
set_option maxHeartbeats 1000000
set_option linter.unusedSimpArgs false
set_option linter.unusedVariables false
namespace Go.Vl
open Go
noncomputable def directory_Ascending_l0 (a0:List Int) (s2:Int):Option (Lp Int (Unit ⊕ Bool)):=
 if(decide (s2 < ((a0).length:Int)))=true then
  (idx a0 (IntKind.i64.wrap (s2 - 1))).bind fun x3=>
  (idx a0 s2).bind fun x4=>
  if(decide (x4≤x3))=true then
   some (.out (.inr false))
  else
   some (.go (IntKind.i64.wrap (s2+1)))
 else
  some (.out (.inl ()))
noncomputable def directory_Ascending (a0:List Int):Option (Bool):=
 (iter (directory_Ascending_l0 a0) 1).bind fun q6=>
 match q6 with
 | .inl v1=>
  some true
 | .inr r5=>
  some r5
noncomputable def rights_Closed_1_cb (a0:Int) (a1:api_Rights):Option (Bool×api_Rights):=
 (rights_credential a1 a0).bind fun y1=>
 some ((!y1),a1)
noncomputable def sYIndexFunc_int_at_rights_Closed_1_b_l0 (a0:List Int) (s2:Int×Int×Int×(List api_Grant)×(List api_Store)×(List api_Mint)):Option (Lp (Int×Int×Int×(List api_Grant)×(List api_Store)×(List api_Mint)) ((Int×Int×(List api_Grant)×(List api_Store)×(List api_Mint)) ⊕ (Int×api_Rights))):=
 if(decide (s2.1 < ((a0).length:Int)))=true then
  (idx a0 s2.1).bind fun x3=>
  (rights_Closed_1_cb x3 (⟨s2.2.1,s2.2.2.1,s2.2.2.2.1,s2.2.2.2.2.1,s2.2.2.2.2.2⟩:api_Rights)).bind fun y4=>
  if y4.1=true then
   some (.out (.inr (s2.1,y4.2)))
  else
   some (.go (IntKind.i64.wrap (s2.1+1),y4.2.Credentials,y4.2.Resources,y4.2.Grants,y4.2.Stores,y4.2.Mints))
 else
  some (.out (.inl (s2.2.1,s2.2.2.1,s2.2.2.2.1,s2.2.2.2.2.1,s2.2.2.2.2.2)))
noncomputable def sYIndexFunc_int_at_rights_Closed_1_b (a0:List Int) (b10:api_Rights):Option (Int×api_Rights):=
 (iter (sYIndexFunc_int_at_rights_Closed_1_b_l0 a0) (0,b10.Credentials,b10.Resources,b10.Grants,b10.Stores,b10.Mints)).bind fun q6=>
 match q6 with
 | .inl v1=>
  some ((-1),(⟨v1.1,v1.2.1,v1.2.2.1,v1.2.2.2.1,v1.2.2.2.2⟩:api_Rights))
 | .inr r5=>
  some r5
noncomputable def sYContainsFunc_int_at_rights_Closed_1_b (a0:List Int) (b10:api_Rights):Option (Bool×api_Rights):=
 (sYIndexFunc_int_at_rights_Closed_1_b a0 b10).bind fun y1=>
 some ((decide (0≤y1.1)),y1.2)
noncomputable def rights_Closed_l1 (y5:(List api_Link)) (v1:Bool×Int×Int×(List api_Grant)×(List api_Store)×(List api_Mint)) (x4:Int) (a1:List Int) (s7:Int):Option (Lp Int (Unit ⊕ Bool)):=
 if(decide (s7 < ((y5).length:Int)))=true then
  (idx y5 s7).bind fun x8=>
  (rights_follow (⟨v1.2.1,v1.2.2.1,v1.2.2.2.1,v1.2.2.2.2.1,v1.2.2.2.2.2⟩:api_Rights) x4 x8).bind fun y9=>
  (sYContains_int a1 y9.1).bind fun y10=>
  if(!y10)=true then
   some (.out (.inr false))
  else
   some (.go (IntKind.i64.wrap (s7+1)))
 else
  some (.out (.inl ()))
noncomputable def rights_Closed_l0 (a1:List Int) (v1:Bool×Int×Int×(List api_Grant)×(List api_Store)×(List api_Mint)) (s3:Int):Option (Lp Int (Unit ⊕ Bool)):=
 if(decide (s3 < ((a1).length:Int)))=true then
  (idx a1 s3).bind fun x4=>
  (rights_links (⟨v1.2.1,v1.2.2.1,v1.2.2.2.1,v1.2.2.2.2.1,v1.2.2.2.2.2⟩:api_Rights) x4).bind fun y5=>
  (iter (rights_Closed_l1 y5 v1 x4 a1) 0).bind fun q12=>
  match q12 with
  | .inl v6=>
   some (.go (IntKind.i64.wrap (s3+1)))
  | .inr r11=>
   some (.out (.inr r11))
 else
  some (.out (.inl ()))
noncomputable def rights_Closed (a0:api_Rights) (a1:List Int):Option (Bool):=
 Option.bind (
  (rights_Check a0).bind fun y15=>
  if(y15 != 0)=true then
   some (true,a0.Credentials,a0.Resources,a0.Grants,a0.Stores,a0.Mints)
  else
  if(((a1).length:Int)==0)=true then
   some (true,a0.Credentials,a0.Resources,a0.Grants,a0.Stores,a0.Mints)
  else
  (directory_Ascending a1).bind fun y16=>
  if(!y16)=true then
   some (true,a0.Credentials,a0.Resources,a0.Grants,a0.Stores,a0.Mints)
  else
  (sYContainsFunc_int_at_rights_Closed_1_b a1 a0).bind fun y17=>
  some (y17.1,y17.2.Credentials,y17.2.Resources,y17.2.Grants,y17.2.Stores,y17.2.Mints)) fun v1=>
 if v1.1=true then
  some false
 else
 (iter (rights_Closed_l0 a1 v1) 0).bind fun q14=>
 match q14 with
 | .inl v2=>
  some true
 | .inr r13=>
  some r13
noncomputable def rights_Bound_l0 (a0:api_Rights) (a1:List Int) (s4:Int×(List Int)):Option (Lp (Int×(List Int)) (List Int)):=
 if(decide (s4.1 < ((a0.Grants).length:Int)))=true then
  (idx a0.Grants s4.1).bind fun x5=>
  (sYContains_int a1 x5.Credential).bind fun y6=>
  if y6=true then
   (ck (0≤x5.Resource∧(Int.toNat x5.Resource) < (s4.2).length)).bind fun _=>
   (idx s4.2 x5.Resource).bind fun x7=>
   (ck (0≤x5.Resource∧(Int.toNat x5.Resource) < (s4.2).length)).bind fun _=>
   some (.go (IntKind.i64.wrap (s4.1+1),(s4.2.set (Int.toNat x5.Resource) (if x5.Right > x7 then x5.Right else x7))))
  else
   some (.go (IntKind.i64.wrap (s4.1+1),s4.2))
 else
  some (.out s4.2)
noncomputable def rights_Bound (a0:api_Rights) (a1:List Int):Option ((List Int)):=
 (rights_Closed a0 a1).bind fun y1=>
 if(!y1)=true then
  some []
 else
 (ck (0≤a0.Resources∧a0.Resources≤268435456)).bind fun _=>
 (some (List.replicate (Int.toNat a0.Resources) 0:List Int)).bind fun l2=>
 (iter (rights_Bound_l0 a0 a1) (0,l2)).bind fun v3=>
 some v3
noncomputable def rights_Power (a0:api_Rights) (a1:Int):Option ((List Int)):=
 (rights_Reach a0 a1).bind fun y1=>
 (rights_Bound a0 y1).bind fun y2=>
 some y2
end Go.Vl
namespace Go.Vl
open Go Go.Proofs
theorem directory_Ascending_ok {a0:List Int} {r:Bool} (h0:directory_Ascending a0=some r):FnOK Tryd.prog 28 [] [.d (.slice (rowsF (iRow .i64) a0))] (.d (.bool r)) []:=by
 unfold directory_Ascending at h0
 refine fn_ok (nt:=20) (rs:=[.tmp 2]) Tryd.func28 rfl Tryd.ntmps28 rfl (by simp) (by decide) rfl fun K=>?_
 refine kr [0] (by simp;rfl) ?_
 refine trq ?_
 refine kr [0,3] (by simp;rfl) ?_
 replace h0:=bnd h0;obtain⟨e1,hI1,h0⟩:=h0
 refine tjv (fun v1:Unit=>({ nt:=20,env:=[],box:=[],vec:=[]}:St)) (fun v1=>.inl v1=e1) (fun v1 hI1e _ W1=>?_) ?_
 ·subst hI1e
  dsimp only at h0
  refine tr_wk W1 ?_
  refine kr [2] (by simp;rfl) ?_
  cases h0
  exact trr ⟨[],by simp,rfl,by simp⟩
 ·refine trb (tr_iter (fun s2:Int=>({ nt:=20,env:=[(0,.d (.slice (rowsF (iRow .i64) a0))),(3,.d (.int .i64 s2))],box:=[],vec:=[]}:St)) hI1 (wk (by simp[wkI])) fun G1 s2 o1 h1 hg1 he1=>?_)
  unfold directory_Ascending_l0 at h1
  refine trq ?_
  refine kr [0,3,7] (by simp;rfl) ?_
  refine trc (b:=(decide (s2 < ((a0).length:Int)))) (by simp) (fun c5=>?_) (fun c5=>?_)
  ·rw[if_pos c5] at h1
   refine trk ?_
   refine trq ?_
   refine trb ?_
   refine kd [[],[],[1],[0,2],[3],[],[],[5,6],[7],[4,8]] [] [] none [] 10 fol (by decide +kernel) (by simp) ?_
   replace h1:=bnd h1;obtain⟨x3,p17,h1⟩:=h1
   replace p17:=idx_some p17
   have p17':=p17;try simp at p17'
   replace h1:=bnd h1;obtain⟨x4,p18,h1⟩:=h1
   replace p18:=idx_some p18
   have p18':=p18;try simp at p18'
   refine dr_go 0 2 rfl (by simp (maxSteps:=1000000) [p17,p18,p17',p18'];rfl) ?_
   refine dr_go 2 2 rfl (by simp (maxSteps:=1000000) [p17,p18,p17',p18'];rfl) ?_
   refine dr_go 4 2 rfl (by simp (maxSteps:=1000000) [p17,p18,p17',p18'];rfl) ?_
   refine dr_go 6 2 rfl (by simp (maxSteps:=1000000) [p17,p18,p17',p18'];rfl) ?_
   refine dr_go 8 2 rfl (by simp (maxSteps:=1000000) [p17,p18,p17',p18'];rfl) ?_
   refine dr_end rfl (tpN ?_)
   refine trc (b:=(decide (x4≤x3))) (by simp) (fun c6=>?_) (fun c6=>?_)
   ·rw[if_pos c6] at h1
    refine kr [2] (by simp;rfl) ?_
    have k1:=he1 _ (Option.some.inj h1)
    subst k1
    dsimp only at h0
    cases h0
    exact trr ⟨[],by simp,rfl,by simp⟩
   ·rw[if_neg (by rw[c6];decide)] at h1
    refine trk ?_
    refine lr (by simp;rfl) ?_
    exact⟨_,hg1 _ (Option.some.inj h1),wk (by simp[wkI])⟩
  ·rw[if_neg (by rw[c5];decide)] at h1
   refine tr_exit ?_
   exact⟨_,he1 _ (Option.some.inj h1),wk (by simp[wkI])⟩
theorem rights_Closed_1_cb_ok {a0:Int} {a1:api_Rights} {r:Bool×api_Rights} (h0:rights_Closed_1_cb a0 a1=some r):FnOK Tryd.prog 30 [api_Rights_av a1] [.d (.int .i64 a0),.ptr (InO 0) 0] (.d (.bool r.1)) [api_Rights_av r.2]:=by
 unfold rights_Closed_1_cb at h0
 refine fn_ok (nt:=8) (rs:=[.tmp 3]) Tryd.func30 rfl Tryd.ntmps30 rfl (by simp) (by decide) rfl fun K=>?_
 refine kr [0,1] (by simp;rfl) ?_
 refine kc ?_
 refine ko [4,5] 2 (by simp;rfl) ?_
 replace h0:=bnd h0;obtain⟨y1,hy1,h0⟩:=h0
 refine kcall [6] [] (rights_credential_ok hy1) rfl rfl rfl Tryd.call25 (by simp) (by simp;rfl) ?_
 refine ko [3] 2 (by simp;rfl) ?_
 refine tpN ?_
 cases h0
 exact trr ⟨[],by simp,rfl,by simp⟩
theorem sYIndexFunc_int_at_rights_Closed_1_b_ok {a0:List Int} {b10:api_Rights} {r:Int×api_Rights} (h0:sYIndexFunc_int_at_rights_Closed_1_b a0 b10=some r):FnOK Tryd.prog 44 [api_Rights_av b10] [.d (.slice (rowsF (iRow .i64) a0)),.fn 30 [.ptr (InO 0) 0]] (.d (.int .i64 r.1)) [api_Rights_av r.2]:=by
 unfold sYIndexFunc_int_at_rights_Closed_1_b at h0
 refine fn_ok (nt:=19) (rs:=[.tmp 4]) Tryd.func44 rfl Tryd.ntmps44 rfl (by simp) (by decide) rfl fun K=>?_
 refine kr [0,1] (by simp;rfl) ?_
 refine trq ?_
 refine kr [0,1,7,8] (by simp;rfl) ?_
 replace h0:=bnd h0;obtain⟨e1,hI1,h0⟩:=h0
 refine tjv (fun v1:Int×Int×(List api_Grant)×(List api_Store)×(List api_Mint)=>({ nt:=19,env:=[],box:=[(1000000,[.d (.int .i64 v1.1),.d (.int .i64 v1.2.1),.d (.slice (rowsF api_Grant_row v1.2.2.1)),.d (.slice (rowsF api_Store_row v1.2.2.2.1)),.d (.slice (rowsF api_Mint_row v1.2.2.2.2))])],vec:=[]}:St)) (fun v1=>.inl v1=e1) (fun v1 hI1e _ W1=>?_) ?_
 ·subst hI1e
  dsimp only at h0
  refine tr_wk W1 ?_
  refine kr [4] (by simp;rfl) ?_
  cases h0
  exact trr ⟨[],by simp,rfl,by simp⟩
 ·refine trb (tr_iter (fun s2:Int×Int×Int×(List api_Grant)×(List api_Store)×(List api_Mint)=>({ nt:=19,env:=[(0,.d (.slice (rowsF (iRow .i64) a0))),(1,.fn 30 [.ptr 1000000 0]),(7,.d (.int .i64 ((a0).length:Int))),(8,.d (.int .i64 s2.1))],box:=[(1000000,[.d (.int .i64 s2.2.1),.d (.int .i64 s2.2.2.1),.d (.slice (rowsF api_Grant_row s2.2.2.2.1)),.d (.slice (rowsF api_Store_row s2.2.2.2.2.1)),.d (.slice (rowsF api_Mint_row s2.2.2.2.2.2))])],vec:=[]}:St)) hI1 (wk (by simp[wkI])) fun G1 s2 o1 h1 hg1 he1=>?_)
  unfold sYIndexFunc_int_at_rights_Closed_1_b_l0 at h1
  refine kr [0,1,7,8,9] (by simp;rfl) ?_
  refine trq ?_
  refine trc (b:=(decide (s2.1 < ((a0).length:Int)))) (by simp) (fun c5=>?_) (fun c5=>?_)
  ·rw[if_pos c5] at h1
   refine trk ?_
   refine trq ?_
   refine trb ?_
   refine kr [0,1,5,7,8] (by simp;rfl) ?_
   refine kc ?_
   replace h1:=bnd h1;obtain⟨x3,p3,h1⟩:=h1
   replace p3:=idx_some p3
   have p3':=p3;try simp at p3'
   refine ko [0,1,5,7,8,11,15] 5 (by simp[p3,p3'];rfl) ?_
   replace h1:=bnd h1;obtain⟨y4,hy4,h1⟩:=h1
   refine kcallV [0,1,5,7,8,16] [1000000] [] [] (rights_Closed_1_cb_ok hy4) rfl rfl rfl Tryd.call30 (by simp) (by simp;rfl) ?_
   refine tpN ?_
   refine trc (b:=y4.1) (by simp) (fun c6=>?_) (fun c6=>?_)
   ·rw[if_pos c6] at h1
    refine kr [4] (by simp;rfl) ?_
    have k1:=he1 _ (Option.some.inj h1)
    subst k1
    dsimp only at h0
    cases h0
    exact trr ⟨[],by simp,rfl,by simp⟩
   ·rw[if_neg (by rw[c6];decide)] at h1
    refine trk ?_
    refine lr (by simp;rfl) ?_
    exact⟨_,hg1 _ (Option.some.inj h1),wk (by simp[wkI])⟩
  ·rw[if_neg (by rw[c5];decide)] at h1
   refine tr_exit ?_
   exact⟨_,he1 _ (Option.some.inj h1),wk (by simp[wkI])⟩
theorem sYContainsFunc_int_at_rights_Closed_1_b_ok {a0:List Int} {b10:api_Rights} {r:Bool×api_Rights} (h0:sYContainsFunc_int_at_rights_Closed_1_b a0 b10=some r):FnOK Tryd.prog 29 [api_Rights_av b10] [.d (.slice (rowsF (iRow .i64) a0)),.fn 30 [.ptr (InO 0) 0]] (.d (.bool r.1)) [api_Rights_av r.2]:=by
 unfold sYContainsFunc_int_at_rights_Closed_1_b at h0
 refine fn_ok (nt:=9) (rs:=[.tmp 4]) Tryd.func29 rfl Tryd.ntmps29 rfl (by simp) (by decide) rfl fun K=>?_
 refine kr [0,1] (by simp;rfl) ?_
 refine kc ?_
 refine ko [5,6] 2 (by simp;rfl) ?_
 replace h0:=bnd h0;obtain⟨y1,hy1,h0⟩:=h0
 refine kcall [7] [1000000] (sYIndexFunc_int_at_rights_Closed_1_b_ok hy1) rfl rfl rfl Tryd.call44 (by simp) (by simp;rfl) ?_
 refine ko [4] 2 (by simp;rfl) ?_
 refine tpN ?_
 cases h0
 exact trr ⟨[],by simp,rfl,by simp⟩
theorem rights_Closed_ok {a0:api_Rights} {a1:List Int} {r:Bool} (h0:rights_Closed a0 a1=some r):FnOK Tryd.prog 14 [] [.agg (api_Rights_av a0),.d (.slice (rowsF (iRow .i64) a1))] (.d (.bool r)) []:=by
 unfold rights_Closed at h0
 refine fn_ok (nt:=56) (rs:=[.tmp 4]) Tryd.func14 rfl Tryd.ntmps14 rfl (by simp) (by decide) rfl fun K=>?_
 refine kr [1,2] (by simp;rfl) ?_
 refine trq ?_
 replace h0:=bnd h0;obtain⟨v1,hvv1,h0⟩:=h0
 refine sjv (fun v1_:Bool×Int×Int×(List api_Grant)×(List api_Store)×(List api_Mint)=>({ nt:=56,env:=[(1,.d (.slice (rowsF (iRow .i64) a1))),(2,.ptr 2 0),(28,.d (.bool v1_.1))],box:=[(2,[.d (.int .i64 v1_.2.1),.d (.int .i64 v1_.2.2.1),.d (.slice (rowsF api_Grant_row v1_.2.2.2.1)),.d (.slice (rowsF api_Store_row v1_.2.2.2.2.1)),.d (.slice (rowsF api_Mint_row v1_.2.2.2.2.2))])],vec:=[]}:St)) (fun v1_=>v1=v1_) (fun v1_ e=>?_) ?_
 ·subst e
  refine trc (b:=v1.1) (by simp) (fun c7=>?_) (fun c7=>?_)
  ·rw[if_pos c7] at h0
   refine kr [4] (by simp;rfl) ?_
   cases h0
   exact trr ⟨[],by simp,rfl,by simp⟩
  ·rw[if_neg (by rw[c7];decide)] at h0
   refine trk ?_
   refine trq ?_
   refine kr [1,2,29,30,31] (by simp;rfl) ?_
   replace h0:=bnd h0;obtain⟨e1,hI1,h0⟩:=h0
   refine tjv (fun v2:Unit=>({ nt:=56,env:=[],box:=[],vec:=[]}:St)) (fun v2=>.inl v2=e1) (fun v2 hI1e _ W1=>?_) ?_
   ·subst hI1e
    dsimp only at h0
    refine tr_wk W1 ?_
    refine kr [4] (by simp;rfl) ?_
    cases h0
    exact trr ⟨[],by simp,rfl,by simp⟩
   ·refine trb (tr_iter (fun s3:Int=>({ nt:=56,env:=[(1,.d (.slice (rowsF (iRow .i64) a1))),(2,.ptr 2 0),(29,.d (.slice (rowsF (iRow .i64) a1))),(30,.d (.int .i64 ((a1).length:Int))),(31,.d (.int .i64 s3))],box:=[(2,[.d (.int .i64 v1.2.1),.d (.int .i64 v1.2.2.1),.d (.slice (rowsF api_Grant_row v1.2.2.2.1)),.d (.slice (rowsF api_Store_row v1.2.2.2.2.1)),.d (.slice (rowsF api_Mint_row v1.2.2.2.2.2))])],vec:=[]}:St)) hI1 (wk (by simp[wkI])) fun G1 s3 o1 h1 hg1 he1=>?_)
    unfold rights_Closed_l0 at h1
    refine kr [1,2,29,30,31,32] (by simp;rfl) ?_
    refine trq ?_
    refine trc (b:=(decide (s3 < ((a1).length:Int)))) (by simp) (fun c18=>?_) (fun c18=>?_)
    ·rw[if_pos c18] at h1
     refine trk ?_
     refine trq ?_
     refine trb ?_
     replace h1:=bnd h1;obtain⟨x4,p7,h1⟩:=h1
     replace p7:=idx_some p7
     have p7':=p7;try simp at p7'
     refine kr [1,2,6,29,30,31] (by simp[p7,p7'];rfl) ?_
     refine kc ?_
     refine ko [1,2,6,29,30,31,35,36] 2 (by simp;rfl) ?_
     replace h1:=bnd h1;obtain⟨y5,hy5,h1⟩:=h1
     refine kcall [1,2,6,29,30,31,37] [] (rights_links_ok hy5) rfl rfl rfl Tryd.call31 (by simp) (by simp;rfl) ?_
     refine ko [1,2,6,29,30,31,37,38,39] 2 (by simp;rfl) ?_
     refine tpN ?_
     replace h1:=bnd h1;obtain⟨e2,hI2,h1⟩:=h1
     refine tjv (fun v6:Unit=>({ nt:=56,env:=[(1,.d (.slice (rowsF (iRow .i64) a1))),(2,.ptr 2 0),(29,.d (.slice (rowsF (iRow .i64) a1))),(30,.d (.int .i64 ((a1).length:Int))),(31,.d (.int .i64 s3))],box:=[(2,[.d (.int .i64 v1.2.1),.d (.int .i64 v1.2.2.1),.d (.slice (rowsF api_Grant_row v1.2.2.2.1)),.d (.slice (rowsF api_Store_row v1.2.2.2.2.1)),.d (.slice (rowsF api_Mint_row v1.2.2.2.2.2))])],vec:=[]}:St)) (fun v6=>.inl v6=e2) (fun v6 hI2e _ W2=>?_) ?_
     ·subst hI2e
      dsimp only at h1
      refine tr_wk W2 ?_
      refine lr (by simp;rfl) ?_
      exact⟨_,hg1 _ (Option.some.inj h1),wk (by simp[wkI])⟩
     ·refine trb (tr_iter (fun s7:Int=>({ nt:=56,env:=[(1,.d (.slice (rowsF (iRow .i64) a1))),(2,.ptr 2 0),(6,.d (.int .i64 x4)),(29,.d (.slice (rowsF (iRow .i64) a1))),(30,.d (.int .i64 ((a1).length:Int))),(31,.d (.int .i64 s3)),(37,.d (.slice (rowsF api_Link_row y5))),(38,.d (.int .i64 ((y5).length:Int))),(39,.d (.int .i64 s7))],box:=[(2,[.d (.int .i64 v1.2.1),.d (.int .i64 v1.2.2.1),.d (.slice (rowsF api_Grant_row v1.2.2.2.1)),.d (.slice (rowsF api_Store_row v1.2.2.2.2.1)),.d (.slice (rowsF api_Mint_row v1.2.2.2.2.2))])],vec:=[]}:St)) hI2 (wk (by simp[wkI])) fun G2 s7 o2 h2 hg2 he2=>?_)
      unfold rights_Closed_l1 at h2
      refine kr [1,2,6,29,30,31,37,38,39,40] (by simp;rfl) ?_
      refine trq ?_
      refine trc (b:=(decide (s7 < ((y5).length:Int)))) (by simp) (fun c23=>?_) (fun c23=>?_)
      ·rw[if_pos c23] at h2
       refine trk ?_
       refine trq ?_
       refine trb ?_
       replace h2:=bnd h2;obtain⟨x8,p10,h2⟩:=h2
       replace p10:=idx_some p10
       have p10':=p10;try simp at p10'
       refine kr [1,2,6,8,29,30,31,37,38,39] (by simp[p10,p10'];rfl) ?_
       refine kc ?_
       refine ko [1,2,6,29,30,31,37,38,39,44,45,46] 3 (by simp;rfl) ?_
       replace h2:=bnd h2;obtain⟨y9,hy9,h2⟩:=h2
       refine kcall [1,2,6,29,30,31,37,38,39,47] [] (rights_follow_ok hy9) rfl rfl rfl Tryd.call27 (by simp) (by simp;rfl) ?_
       refine ko [1,2,6,9,29,30,31,37,38,39] 5 (by simp;rfl) ?_
       refine tpN ?_
       refine kc ?_
       refine ko [1,2,6,29,30,31,37,38,39,50,51] 2 (by simp;rfl) ?_
       replace h2:=bnd h2;obtain⟨y10,hy10,h2⟩:=h2
       refine kcall [1,2,6,29,30,31,37,38,39,52] [] (sYContains_int_ok hy10) rfl rfl rfl Tryd.call32 (by simp) (by simp;rfl) ?_
       refine ko [1,2,6,29,30,31,37,38,39,53] 1 (by simp;rfl) ?_
       refine tpN ?_
       refine trc (b:=(!y10)) (by simp) (fun c24=>?_) (fun c24=>?_)
       ·rw[if_pos c24] at h2
        refine kr [4] (by simp;rfl) ?_
        have k2:=he2 _ (Option.some.inj h2)
        subst k2
        dsimp only at h1
        have k1:=he1 _ (Option.some.inj h1)
        subst k1
        dsimp only at h0
        cases h0
        exact trr ⟨[],by simp,rfl,by simp⟩
       ·rw[if_neg (by rw[c24];decide)] at h2
        refine trk ?_
        refine lr (by simp;rfl) ?_
        exact⟨_,hg2 _ (Option.some.inj h2),wk (by simp[wkI])⟩
      ·rw[if_neg (by rw[c23];decide)] at h2
       refine tr_exit ?_
       exact⟨_,he2 _ (Option.some.inj h2),wk (by simp[wkI])⟩
    ·rw[if_neg (by rw[c18];decide)] at h1
     refine tr_exit ?_
     exact⟨_,he1 _ (Option.some.inj h1),wk (by simp[wkI])⟩
 ·refine kc1 ?_
  refine ko [1,2,11] 1 (by simp;rfl) ?_
  replace hvv1:=bnd hvv1;obtain⟨y15,hy15,hvv1⟩:=hvv1
  refine kcall [1,2,12] [] (rights_Check_ok hy15) rfl rfl rfl Tryd.call24 (by simp) (by simp;rfl) ?_
  refine ko [1,2,14] 2 (by simp;rfl) ?_
  refine tops_split 14 (y15 != 0) (by simp) (fun c25=>?_) (fun c25=>?_)
  ·rw[if_pos c25] at hvv1
   refine kskip 3 [] (by kernel_rfl) ?_
   refine ko [1,2,19] 2 (by simp;rfl) ?_
   refine kskip 3 [] (by kernel_rfl) ?_
   refine ko [1,2,24] 2 (by simp;rfl) ?_
   refine kskip 3 [] (by kernel_rfl) ?_
   refine ko [1,2,28] 1 (by simp;rfl) ?_
   refine tpN ?_
   cases hvv1
   exact⟨_,rfl,wk (by simp[wkI])⟩
  ·rw[if_neg (by rw[c25];decide)] at hvv1
   refine ko [1,2,19] 5 (by simp;rfl) ?_
   refine tops_split 19 (((a1).length:Int)==0) (by simp) (fun c26=>?_) (fun c26=>?_)
   ·rw[if_pos c26] at hvv1
    refine kskip 3 [] (by kernel_rfl) ?_
    refine ko [1,2,24] 2 (by simp;rfl) ?_
    refine kskip 3 [] (by kernel_rfl) ?_
    refine ko [1,2,28] 1 (by simp;rfl) ?_
    refine tpN ?_
    cases hvv1
    exact⟨_,rfl,wk (by simp[wkI])⟩
   ·rw[if_neg (by rw[c26];decide)] at hvv1
    refine ko [1,2,19,20] 1 (by simp;rfl) ?_
    replace hvv1:=bnd hvv1;obtain⟨y16,hy16,hvv1⟩:=hvv1
    refine kcall [1,2,19,21] [] (directory_Ascending_ok hy16) rfl rfl rfl Tryd.call28 (by simp) (by simp;rfl) ?_
    refine ko [1,2,24] 3 (by simp;rfl) ?_
    refine tops_split 24 (!y16) (by simp) (fun c27=>?_) (fun c27=>?_)
    ·rw[if_pos c27] at hvv1
     refine kskip 3 [] (by kernel_rfl) ?_
     refine ko [1,2,28] 1 (by simp;rfl) ?_
     refine tpN ?_
     cases hvv1
     exact⟨_,rfl,wk (by simp[wkI])⟩
    ·rw[if_neg (by rw[c27];decide)] at hvv1
     refine ko [1,2,24,25,26] 2 (by simp;rfl) ?_
     replace hvv1:=bnd hvv1;obtain⟨y17,hy17,hvv1⟩:=hvv1
     refine kcall [1,2,24,27] [2] (sYContainsFunc_int_at_rights_Closed_1_b_ok hy17) rfl rfl rfl Tryd.call29 (by simp) (by simp;rfl) ?_
     refine ko [1,2,28] 1 (by simp;rfl) ?_
     refine tpN ?_
     cases hvv1
     exact⟨_,rfl,wk (by simp[wkI])⟩
theorem rights_Bound_ok {a0:api_Rights} {a1:List Int} {r:(List Int)} (h0:rights_Bound a0 a1=some r):FnOK Tryd.prog 15 [] [.agg (api_Rights_av a0),.d (.slice (rowsF (iRow .i64) a1))] (.d (.slice (rowsF (iRow .i64) r))) []:=by
 unfold rights_Bound at h0
 refine fn_ok (nt:=40) (rs:=[.tmp 4]) Tryd.func15 rfl Tryd.ntmps15 rfl (by simp) (by decide) rfl fun K=>?_
 refine kr [1,2] (by simp;rfl) ?_
 refine trq ?_
 refine kc ?_
 refine ko [1,2,8,9] 2 (by simp;rfl) ?_
 replace h0:=bnd h0;obtain⟨y1,hy1,h0⟩:=h0
 refine kcall [1,2,10] [] (rights_Closed_ok hy1) rfl rfl rfl Tryd.call14 (by simp) (by simp;rfl) ?_
 refine ko [1,2,11] 1 (by simp;rfl) ?_
 refine tpN ?_
 refine trc (b:=(!y1)) (by simp) (fun c1=>?_) (fun c1=>?_)
 ·rw[if_pos c1] at h0
  refine kr [4] (by simp;rfl) ?_
  cases h0
  exact trr ⟨[],by simp,rfl,by simp⟩
 ·rw[if_neg (by rw[c1];decide)] at h0
  refine trk ?_
  replace h0:=bnd h0;obtain⟨_,p1,h0⟩:=h0
  replace p1:=ck_some p1
  have p1':=p1;try simp at p1'
  replace h0:=bnd h0;obtain⟨l2,p2,h0⟩:=h0
  replace p2:=Option.some.inj p2
  refine kr [1,2,5] (by simp[p1,(show List.replicate (Int.toNat a0.Resources) ([.int .i64 0]:List D)=rowsF (iRow .i64) l2 from by subst p2;simp[rowsF]),p1'];rfl) ?_
  refine trq ?_
  refine kr [1,5,16,17,18] (by simp;rfl) ?_
  replace h0:=bnd h0;obtain⟨e1,hI1,h0⟩:=h0
  refine tjv (fun v3:(List Int)=>({ nt:=40,env:=[(5,.vec 14)],box:=[],vec:=[(14,⟨3,1,rowsF (iRow .i64) v3⟩)]}:St)) (fun v3=>v3=e1) (fun v3 hI1e _ W1=>?_) ?_
  ·subst hI1e
   refine tr_wk W1 ?_
   refine kr [4] (by simp;rfl) ?_
   cases h0
   exact trr ⟨[14],by simp,rfl,by simp⟩
  ·refine trb (tr_iter (fun s4:Int×(List Int)=>({ nt:=40,env:=[(1,.d (.slice (rowsF (iRow .i64) a1))),(5,.vec 14),(16,.d (.slice (rowsF api_Grant_row a0.Grants))),(17,.d (.int .i64 ((a0.Grants).length:Int))),(18,.d (.int .i64 s4.1))],box:=[],vec:=[(14,⟨3,1,rowsF (iRow .i64) s4.2⟩)]}:St)) hI1 (wk (by simp[wkI])) fun G1 s4 o1 h1 hg1 he1=>?_)
   unfold rights_Bound_l0 at h1
   refine kr [1,5,16,17,18,19] (by simp;rfl) ?_
   refine trq ?_
   refine trc (b:=(decide (s4.1 < ((a0.Grants).length:Int)))) (by simp) (fun c6=>?_) (fun c6=>?_)
   ·rw[if_pos c6] at h1
    refine trk ?_
    refine trq ?_
    refine trb ?_
    replace h1:=bnd h1;obtain⟨x5,p29,h1⟩:=h1
    replace p29:=idx_some p29
    have p29':=p29;try simp at p29'
    refine kr [1,5,7,16,17,18] (by simp[p29,p29'];rfl) ?_
    refine kc ?_
    refine ko [1,5,7,16,17,18,22,24] 3 (by simp;rfl) ?_
    replace h1:=bnd h1;obtain⟨y6,hy6,h1⟩:=h1
    refine kcall [1,5,7,16,17,18,25] [] (sYContains_int_ok hy6) rfl rfl rfl Tryd.call32 (by simp) (by simp;rfl) ?_
    refine tpN ?_
    refine trc (b:=y6) (by simp) (fun c7=>?_) (fun c7=>?_)
    ·rw[if_pos c7] at h1
     refine kd1 [[],[],[1],[],[],[4],[3,5],[6],[],[8],[7,9],[0,2,10],[0,1,2,3,4,5,6,7,8,9,10,11]] [] [] none [] 12 fol (by decide +kernel) (by simp) ?_
     replace h1:=bnd h1;obtain⟨_,p39,h1⟩:=h1
     replace p39:=ck_some p39
     have p39':=p39;try simp at p39'
     have p39o:x5.Resource < (((s4.2)).length:Int):=by omega
     replace h1:=bnd h1;obtain⟨x7,p40,h1⟩:=h1
     replace p40:=idx_some p40
     have p40':=p40;try simp at p40'
     replace h1:=bnd h1;obtain⟨_,p41,h1⟩:=h1
     replace p41:=ck_some p41
     have p41':=p41;try simp at p41'
     have p41o:x5.Resource < (((s4.2)).length:Int):=by omega
     refine dr_go 0 2 rfl (by simp (maxSteps:=1000000) [-getElem?_pos,List.getElem?_cons_zero,List.getElem?_cons_succ,p39,p39o,p40,p41,p41o,p39',p40',p41'];rfl) ?_
     refine dr_go 2 2 rfl (by simp (maxSteps:=1000000) [-getElem?_pos,List.getElem?_cons_zero,List.getElem?_cons_succ,p39,p39o,p40,p41,p41o,p39',p40',p41'];rfl) ?_
     refine dr_go 4 2 rfl (by simp (maxSteps:=1000000) [-getElem?_pos,List.getElem?_cons_zero,List.getElem?_cons_succ,p39,p39o,p40,p41,p41o,p39',p40',p41'];rfl) ?_
     refine dr_go 6 2 rfl (by simp (maxSteps:=1000000) [-getElem?_pos,List.getElem?_cons_zero,List.getElem?_cons_succ,p39,p39o,p40,p41,p41o,p39',p40',p41'];rfl) ?_
     refine dr_go 8 2 rfl (by simp (maxSteps:=1000000) [-getElem?_pos,List.getElem?_cons_zero,List.getElem?_cons_succ,p39,p39o,p40,p41,p41o,p39',p40',p41'];rfl) ?_
     refine dr_go 10 2 rfl (by simp (maxSteps:=1000000) [-getElem?_pos,List.getElem?_cons_zero,List.getElem?_cons_succ,p39,p39o,p40,p41,p41o,p39',p40',p41'];rfl) ?_
     refine dr_end rfl ?_
     refine ko [1,5,16,17,18] 1 (by simp[-getElem?_pos,List.getElem?_cons_zero,List.getElem?_cons_succ,p40,(List.getElem?_eq_some_iff.1 p40.2).1,p40'];rfl) ?_
     refine tpN ?_
     refine lr (by simp;rfl) ?_
     exact⟨_,hg1 _ (Option.some.inj h1),wk (by simp[wkI])⟩
    ·rw[if_neg (by rw[c7];decide)] at h1
     refine trk ?_
     refine lr (by simp;rfl) ?_
     exact⟨_,hg1 _ (Option.some.inj h1),wk (by simp[wkI])⟩
   ·rw[if_neg (by rw[c6];decide)] at h1
    refine tr_exit ?_
    exact⟨_,he1 _ (Option.some.inj h1),wk (by simp[wkI])⟩
theorem rights_Power_ok {a0:api_Rights} {a1:Int} {r:(List Int)} (h0:rights_Power a0 a1=some r):FnOK Tryd.prog 9 [] [.agg (api_Rights_av a0),.d (.int .i64 a1)] (.d (.slice (rowsF (iRow .i64) r))) []:=by
 unfold rights_Power at h0
 refine fn_ok (nt:=10) (rs:=[.tmp 4]) Tryd.func9 rfl Tryd.ntmps9 rfl (by simp) (by decide) rfl fun K=>?_
 refine kr [1,2] (by simp;rfl) ?_
 refine kd [[],[],[],[1,2],[0,3],[4]] [] [] none [] 6 fol (by decide +kernel) (by simp) ?_
 refine dr_go 0 2 rfl (by simp (maxSteps:=1000000);rfl) ?_
 refine dr_go 2 1 rfl (by simp (maxSteps:=1000000);rfl) ?_
 replace h0:=bnd h0;obtain⟨y1,hy1,h0⟩:=h0
 refine dr_call 3 [] (rights_Reach_ok hy1) rfl rfl rfl rfl rfl Tryd.call21 (by simp) ?_
 replace h0:=bnd h0;obtain⟨y2,hy2,h0⟩:=h0
 refine dr_call 4 [] (rights_Bound_ok hy2) rfl rfl rfl rfl rfl Tryd.call15 (by simp) ?_
 refine dr_go 5 1 rfl (by simp (maxSteps:=1000000);rfl) ?_
 refine dr_end rfl (tpN ?_)
 cases h0
 exact trr ⟨[],by simp,rfl,by simp⟩
end Go.Vl
