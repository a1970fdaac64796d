/- Plain functions that mirror functions of the given program. Conditions: none. -/
import Derived.Test.YtbnfogbfphakmaaGreatDoorLs
import Derived.Test.YtbnfogbfphakmaaGreatDoorLso
import Derived.Test.YtbnfogbfphakmaaGreatDoorVmLz
import Derived.Test.YtbnfogbfphakmaaGreatDoorLq
import Derived.Test.YtbnfogbfphakmaaGreatDoorTyL
set_option maxHeartbeats 1000000
set_option linter.unusedSimpArgs false
set_option linter.unusedVariables false
namespace Go.Vl
open Go
noncomputable def cluster_among (a0:Int) (a1:Int) (a2:Int):Option (Bool):=
 (some ((decide (a1≤a0))&&(decide (a0≤a2)))).bind fun v1=>
 some v1
noncomputable def cluster_Check_2 (a0:Int):Option (Bool):=
 (cluster_among a0 0 3).bind fun y1=>
 some (!y1)
noncomputable def sYIndexFunc_int_at_cluster_Check_2_l0 (a0:List Int) (s2:Int):Option (Lp Int (Unit ⊕ Int)):=
 if(decide (s2 < ((a0).length:Int)))=true then
  (idx a0 s2).bind fun x3=>
  (cluster_Check_2 x3).bind fun y4=>
  if y4=true then
   some (.out (.inr s2))
  else
   some (.go (IntKind.i64.wrap (s2+1)))
 else
  some (.out (.inl ()))
noncomputable def sYIndexFunc_int_at_cluster_Check_2 (a0:List Int):Option (Int):=
 (iter (sYIndexFunc_int_at_cluster_Check_2_l0 a0) 0).bind fun q6=>
 match q6 with
 | .inl v1=>
  some (-1)
 | .inr r5=>
  some r5
noncomputable def sYContainsFunc_int_at_cluster_Check_2 (a0:List Int):Option (Bool):=
 (sYIndexFunc_int_at_cluster_Check_2 a0).bind fun y1=>
 some (decide (0≤y1))
noncomputable def cluster_Check_1_cb (a0:Int) (a1:AA):Option (Bool×AA):=
 (cluster_among a0 0 (IntKind.i64.wrap (((a1.Sets).length:Int) - 1))).bind fun y1=>
 some ((!y1),a1)
noncomputable def sYIndexFunc_int_at_cluster_Check_1_b_l0 (a0:List Int) (s2:Int×Bool×(List Int)×(List AC)×(List Int)):Option (Lp (Int×Bool×(List Int)×(List AC)×(List Int)) ((Bool×(List Int)×(List AC)×(List Int)) ⊕ (Int×AA))):=
 if(decide (s2.1 < ((a0).length:Int)))=true then
  (idx a0 s2.1).bind fun x3=>
  (cluster_Check_1_cb x3 (⟨s2.2.1,s2.2.2.1,s2.2.2.2.1,s2.2.2.2.2⟩:AA)).bind fun y4=>
  if y4.1=true then
   some (.out (.inr (s2.1,y4.2)))
  else
   some (.go (IntKind.i64.wrap (s2.1+1),y4.2.Fence,y4.2.Sets,y4.2.Replicas,y4.2.Snapshots))
 else
  some (.out (.inl (s2.2.1,s2.2.2.1,s2.2.2.2.1,s2.2.2.2.2)))
noncomputable def sYIndexFunc_int_at_cluster_Check_1_b (a0:List Int) (b10:AA):Option (Int×AA):=
 (iter (sYIndexFunc_int_at_cluster_Check_1_b_l0 a0) (0,b10.Fence,b10.Sets,b10.Replicas,b10.Snapshots)).bind fun q6=>
 match q6 with
 | .inl v1=>
  some ((-1),(⟨v1.1,v1.2.1,v1.2.2.1,v1.2.2.2⟩:AA))
 | .inr r5=>
  some r5
noncomputable def sYContainsFunc_int_at_cluster_Check_1_b (a0:List Int) (b10:AA):Option (Bool×AA):=
 (sYIndexFunc_int_at_cluster_Check_1_b a0 b10).bind fun y1=>
 some ((decide (0≤y1.1)),y1.2)
end Go.Vl
namespace Go.Vl
open Go Go.Proofs
theorem Au {a0:Int} {a1:Int} {a2:Int} {r:Bool} (h0:cluster_among a0 a1 a2=some r):Ac Tryz.prog 73 [] [.d (.int .i64 a0),.d (.int .i64 a1),.d (.int .i64 a2)] (.d (.bool r)) []:=by
 unfold cluster_among at h0
 refine AW (nt:=15) (rs:=[.tmp 6]) Tryz.func73 rfl Tryz.ntmps73 rfl (by simp) (by decide) rfl fun K=>?_
 refine kr [0,1,2] (by simp;rfl) ?_
 replace h0:=bnd h0;obtain⟨v1,hvv1,h0⟩:=h0
 refine sjv (fun v1_:Bool=>({ nt:=15,env:=[(6,.d (.bool v1_))],box:=[],vec:=[]}:St)) (fun v1_=>v1=v1_) (fun v1_ e=>?_) ?_
 ·subst e
  cases h0
  exact trr ⟨[],by simp,rfl,by simp⟩
 ·refine kc1 ?_
  refine ko [0,2,10] 4 (by simp;rfl) ?_
  refine AG 10 (decide (a1≤a0)) (by simp) (fun c3=>?_) (fun c3=>?_)
  ·rw[c3] at hvv1
   refine ko [6] 5 (by simp;rfl) ?_
   refine tpN ?_
   cases hvv1
   exact⟨_,rfl,wk (by simp[wkI])⟩
  ·rw[c3] at hvv1
   refine AR 3 [] (by kernel_rfl) ?_
   refine ko [6] 2 (by simp;rfl) ?_
   refine tpN ?_
   cases hvv1
   exact⟨_,rfl,wk (by simp[wkI])⟩
theorem GA {a0:Int} {r:Bool} (h0:cluster_Check_2 a0=some r):Ac Tryz.prog 75 [] [.d (.int .i64 a0)] (.d (.bool r)) []:=by
 unfold cluster_Check_2 at h0
 refine AW (nt:=6) (rs:=[.tmp 2]) Tryz.func75 rfl Tryz.ntmps75 rfl (by simp) (by decide) rfl fun K=>?_
 refine kr [0] (by simp;rfl) ?_
 refine kc ?_
 refine ko [3] 1 (by simp;rfl) ?_
 replace h0:=bnd h0;obtain⟨y1,hy1,h0⟩:=h0
 refine AM [4] [] (Au hy1) rfl rfl rfl Tryz.call73 (by simp) (by simp;rfl) ?_
 refine ko [2] 2 (by simp;rfl) ?_
 refine tpN ?_
 cases h0
 exact trr ⟨[],by simp,rfl,by simp⟩
theorem CH {a0:List Int} {r:Int} (h0:sYIndexFunc_int_at_cluster_Check_2 a0=some r):Ac Tryz.prog 48 [] [.d (.slice (AB (AH .i64) a0)),.fn 75 []] (.d (.int .i64 r)) []:=by
 unfold sYIndexFunc_int_at_cluster_Check_2 at h0
 refine AW (nt:=19) (rs:=[.tmp 4]) Tryz.func48 rfl Tryz.ntmps48 rfl (by simp) (by decide) rfl fun K=>?_
 refine kr [0,1] (by simp;rfl) ?_
 refine trq ?_
 refine kr [0,1,7,8] (by simp;rfl) ?_
 replace h0:=bnd h0;obtain⟨e1,hI1,h0⟩:=h0
 refine tjv (fun v1:Unit=>({ nt:=19,env:=[],box:=[],vec:=[]}:St)) (fun v1=>.inl v1=e1) (fun v1 hI1e _ W1=>?_) ?_
 ·subst hI1e
  dsimp only at h0
  refine Al W1 ?_
  refine kr [4] (by simp;rfl) ?_
  cases h0
  exact trr ⟨[],by simp,rfl,by simp⟩
 ·refine trb (Ai (fun s2:Int=>({ nt:=19,env:=[(0,.d (.slice (AB (AH .i64) a0))),(1,.fn 75 []),(7,.d (.int .i64 ((a0).length:Int))),(8,.d (.int .i64 s2))],box:=[],vec:=[]}:St)) hI1 (wk (by simp[wkI])) fun G1 s2 o1 h1 hg1 he1=>?_)
  unfold sYIndexFunc_int_at_cluster_Check_2_l0 at h1
  refine kr [0,1,7,8,9] (by simp;rfl) ?_
  refine trq ?_
  refine trc (b:=(decide (s2 < ((a0).length:Int)))) (by simp) (fun c5=>?_) (fun c5=>?_)
  ·rw[if_pos c5] at h1
   refine trk ?_
   refine trq ?_
   refine trb ?_
   refine kr [0,1,5,7,8] (by simp;rfl) ?_
   refine kc ?_
   replace h1:=bnd h1;obtain⟨x3,p3,h1⟩:=h1
   replace p3:=AT p3
   have p3':=p3;try simp at p3'
   refine ko [0,1,5,7,8,11,15] 5 (by simp[p3,p3'];rfl) ?_
   replace h1:=bnd h1;obtain⟨y4,hy4,h1⟩:=h1
   refine B7 [0,1,5,7,8,16] [] [] [] (GA hy4) rfl rfl rfl Tryz.call75 (by simp) (by simp;rfl) ?_
   refine tpN ?_
   refine trc (b:=y4) (by simp) (fun c6=>?_) (fun c6=>?_)
   ·rw[if_pos c6] at h1
    refine kr [4] (by simp;rfl) ?_
    have k1:=he1 _ (Option.some.inj h1)
    subst k1
    dsimp only at h0
    cases h0
    exact trr ⟨[],by simp,rfl,by simp⟩
   ·rw[if_neg (by rw[c6];decide)] at h1
    refine trk ?_
    refine lr (by simp;rfl) ?_
    exact⟨_,hg1 _ (Option.some.inj h1),wk (by simp[wkI])⟩
  ·rw[if_neg (by rw[c5];decide)] at h1
   refine Af ?_
   exact⟨_,he1 _ (Option.some.inj h1),wk (by simp[wkI])⟩
theorem Br {a0:List Int} {r:Bool} (h0:sYContainsFunc_int_at_cluster_Check_2 a0=some r):Ac Tryz.prog 74 [] [.d (.slice (AB (AH .i64) a0)),.fn 75 []] (.d (.bool r)) []:=by
 unfold sYContainsFunc_int_at_cluster_Check_2 at h0
 refine AW (nt:=9) (rs:=[.tmp 4]) Tryz.func74 rfl Tryz.ntmps74 rfl (by simp) (by decide) rfl fun K=>?_
 refine kr [0,1] (by simp;rfl) ?_
 refine kc ?_
 refine ko [5,6] 2 (by simp;rfl) ?_
 replace h0:=bnd h0;obtain⟨y1,hy1,h0⟩:=h0
 refine AM [7] [] (CH hy1) rfl rfl rfl Tryz.call48 (by simp) (by simp;rfl) ?_
 refine ko [4] 2 (by simp;rfl) ?_
 refine tpN ?_
 cases h0
 exact trr ⟨[],by simp,rfl,by simp⟩
theorem Cr {a0:Int} {a1:AA} {r:Bool×AA} (h0:cluster_Check_1_cb a0 a1=some r):Ac Tryz.prog 72 [AF a1] [.d (.int .i64 a0),.ptr (InO 0) 0] (.d (.bool r.1)) [AF r.2]:=by
 unfold cluster_Check_1_cb at h0
 refine AW (nt:=11) (rs:=[.tmp 3]) Tryz.func72 rfl Tryz.ntmps72 rfl (by simp) (by decide) rfl fun K=>?_
 refine kr [0,1] (by simp;rfl) ?_
 refine kc ?_
 refine ko [4,8] 5 (by simp;rfl) ?_
 replace h0:=bnd h0;obtain⟨y1,hy1,h0⟩:=h0
 refine AM [9] [] (Au hy1) rfl rfl rfl Tryz.call73 (by simp) (by simp;rfl) ?_
 refine ko [3] 2 (by simp;rfl) ?_
 refine tpN ?_
 cases h0
 exact trr ⟨[],by simp,rfl,by simp⟩
theorem B3 {a0:List Int} {b10:AA} {r:Int×AA} (h0:sYIndexFunc_int_at_cluster_Check_1_b a0 b10=some r):Ac Tryz.prog 48 [AF b10] [.d (.slice (AB (AH .i64) a0)),.fn 72 [.ptr (InO 0) 0]] (.d (.int .i64 r.1)) [AF r.2]:=by
 unfold sYIndexFunc_int_at_cluster_Check_1_b at h0
 refine AW (nt:=19) (rs:=[.tmp 4]) Tryz.func48 rfl Tryz.ntmps48 rfl (by simp) (by decide) rfl fun K=>?_
 refine kr [0,1] (by simp;rfl) ?_
 refine trq ?_
 refine kr [0,1,7,8] (by simp;rfl) ?_
 replace h0:=bnd h0;obtain⟨e1,hI1,h0⟩:=h0
 refine tjv (fun v1:Bool×(List Int)×(List AC)×(List Int)=>({ nt:=19,env:=[],box:=[(1000000,[.d (.bool v1.1),.d (.slice (AB (AH .i64) v1.2.1)),.d (.slice (AB AE v1.2.2.1)),.d (.slice (AB (AH .i64) v1.2.2.2))])],vec:=[]}:St)) (fun v1=>.inl v1=e1) (fun v1 hI1e _ W1=>?_) ?_
 ·subst hI1e
  dsimp only at h0
  refine Al W1 ?_
  refine kr [4] (by simp;rfl) ?_
  cases h0
  exact trr ⟨[],by simp,rfl,by simp⟩
 ·refine trb (Ai (fun s2:Int×Bool×(List Int)×(List AC)×(List Int)=>({ nt:=19,env:=[(0,.d (.slice (AB (AH .i64) a0))),(1,.fn 72 [.ptr 1000000 0]),(7,.d (.int .i64 ((a0).length:Int))),(8,.d (.int .i64 s2.1))],box:=[(1000000,[.d (.bool s2.2.1),.d (.slice (AB (AH .i64) s2.2.2.1)),.d (.slice (AB AE s2.2.2.2.1)),.d (.slice (AB (AH .i64) s2.2.2.2.2))])],vec:=[]}:St)) hI1 (wk (by simp[wkI])) fun G1 s2 o1 h1 hg1 he1=>?_)
  unfold sYIndexFunc_int_at_cluster_Check_1_b_l0 at h1
  refine kr [0,1,7,8,9] (by simp;rfl) ?_
  refine trq ?_
  refine trc (b:=(decide (s2.1 < ((a0).length:Int)))) (by simp) (fun c5=>?_) (fun c5=>?_)
  ·rw[if_pos c5] at h1
   refine trk ?_
   refine trq ?_
   refine trb ?_
   refine kr [0,1,5,7,8] (by simp;rfl) ?_
   refine kc ?_
   replace h1:=bnd h1;obtain⟨x3,p3,h1⟩:=h1
   replace p3:=AT p3
   have p3':=p3;try simp at p3'
   refine ko [0,1,5,7,8,11,15] 5 (by simp[p3,p3'];rfl) ?_
   replace h1:=bnd h1;obtain⟨y4,hy4,h1⟩:=h1
   refine B7 [0,1,5,7,8,16] [1000000] [] [] (Cr hy4) rfl rfl rfl Tryz.call72 (by simp) (by simp;rfl) ?_
   refine tpN ?_
   refine trc (b:=y4.1) (by simp) (fun c6=>?_) (fun c6=>?_)
   ·rw[if_pos c6] at h1
    refine kr [4] (by simp;rfl) ?_
    have k1:=he1 _ (Option.some.inj h1)
    subst k1
    dsimp only at h0
    cases h0
    exact trr ⟨[],by simp,rfl,by simp⟩
   ·rw[if_neg (by rw[c6];decide)] at h1
    refine trk ?_
    refine lr (by simp;rfl) ?_
    exact⟨_,hg1 _ (Option.some.inj h1),wk (by simp[wkI])⟩
  ·rw[if_neg (by rw[c5];decide)] at h1
   refine Af ?_
   exact⟨_,he1 _ (Option.some.inj h1),wk (by simp[wkI])⟩
theorem Bh {a0:List Int} {b10:AA} {r:Bool×AA} (h0:sYContainsFunc_int_at_cluster_Check_1_b a0 b10=some r):Ac Tryz.prog 74 [AF b10] [.d (.slice (AB (AH .i64) a0)),.fn 72 [.ptr (InO 0) 0]] (.d (.bool r.1)) [AF r.2]:=by
 unfold sYContainsFunc_int_at_cluster_Check_1_b at h0
 refine AW (nt:=9) (rs:=[.tmp 4]) Tryz.func74 rfl Tryz.ntmps74 rfl (by simp) (by decide) rfl fun K=>?_
 refine kr [0,1] (by simp;rfl) ?_
 refine kc ?_
 refine ko [5,6] 2 (by simp;rfl) ?_
 replace h0:=bnd h0;obtain⟨y1,hy1,h0⟩:=h0
 refine AM [7] [1000000] (B3 hy1) rfl rfl rfl Tryz.call48 (by simp) (by simp;rfl) ?_
 refine ko [4] 2 (by simp;rfl) ?_
 refine tpN ?_
 cases h0
 exact trr ⟨[],by simp,rfl,by simp⟩
end Go.Vl
namespace Go.Vl
open Go Go.Proofs
noncomputable def cluster_Check_3_cb (a0:AC) (a1:AA):Option (Bool×AA):=
 (cluster_Check_1_cb a0.Generation a1).bind fun y1=>
 some (y1.1,y1.2)
noncomputable def sYIndexFunc_api_Replica_at_cluster_Check_3_l0 (a0:List AC) (s2:Int×Bool×(List Int)×(List AC)×(List Int)):Option (Lp (Int×Bool×(List Int)×(List AC)×(List Int)) ((Bool×(List Int)×(List AC)×(List Int)) ⊕ (Int×AA))):=
 if(decide (s2.1 < ((a0).length:Int)))=true then
  (idx a0 s2.1).bind fun x3=>
  (cluster_Check_3_cb x3 (⟨s2.2.1,s2.2.2.1,s2.2.2.2.1,s2.2.2.2.2⟩:AA)).bind fun y4=>
  if y4.1=true then
   some (.out (.inr (s2.1,y4.2)))
  else
   some (.go (IntKind.i64.wrap (s2.1+1),y4.2.Fence,y4.2.Sets,y4.2.Replicas,y4.2.Snapshots))
 else
  some (.out (.inl (s2.2.1,s2.2.2.1,s2.2.2.2.1,s2.2.2.2.2)))
noncomputable def sYIndexFunc_api_Replica_at_cluster_Check_3 (a0:List AC) (b10:AA):Option (Int×AA):=
 (iter (sYIndexFunc_api_Replica_at_cluster_Check_3_l0 a0) (0,b10.Fence,b10.Sets,b10.Replicas,b10.Snapshots)).bind fun q6=>
 match q6 with
 | .inl v1=>
  some ((-1),(⟨v1.1,v1.2.1,v1.2.2.1,v1.2.2.2⟩:AA))
 | .inr r5=>
  some r5
noncomputable def sYContainsFunc_api_Replica_at_cluster_Check_3 (a0:List AC) (b10:AA):Option (Bool×AA):=
 (sYIndexFunc_api_Replica_at_cluster_Check_3 a0 b10).bind fun y1=>
 some ((decide (0≤y1.1)),y1.2)
noncomputable def cluster_Check (a0:AA):Option Int:=
 Option.bind (
  (cluster_among ((a0.Replicas).length:Int) 1 5).bind fun y1=>
  if(!y1)=true then
   some true
  else
  (cluster_among ((a0.Sets).length:Int) 1 121).bind fun y2=>
  if(!y2)=true then
   some true
  else
   some (decide (120 < ((a0.Snapshots).length:Int)))) fun v1=>
 if v1=true then
  some 39
 else
 Option.bind (
  (sYContainsFunc_int_at_cluster_Check_2 a0.Sets).bind fun y3=>
  if y3=true then
   some (true,a0)
  else
  (sYContainsFunc_int_at_cluster_Check_1_b a0.Snapshots a0).bind fun y4=>
  some (y4.1,y4.2)) fun v2=>
 if v2.1=true then
  some 39
 else
 (sYContainsFunc_api_Replica_at_cluster_Check_3 v2.2.Replicas v2.2).bind fun y5=>
 if y5.1=true then
  some 39
 else
  some 0
theorem Ey {a0:AC} {a1:AA} {r:Bool×AA} (h0:cluster_Check_3_cb a0 a1=some r):Ac Tryz.prog 77 [AF a1,[.fn 72 [.ptr (InO 0) 0]]] [.agg (Cg a0),.ptr (InO 1) 0] (.d (.bool r.1)) [AF r.2,[.fn 72 [.ptr (InO 0) 0]]]:=by
 unfold cluster_Check_3_cb at h0
 refine AW (nt:=8) (rs:=[.tmp 3]) Tryz.func77 rfl Tryz.ntmps77 rfl (by simp) (by decide) rfl fun K=>?_
 refine kr [1,2] (by simp;rfl) ?_
 refine kc ?_
 refine ko [4,6] 3 (by simp;rfl) ?_
 replace h0:=bnd h0;obtain⟨y1,hy1,h0⟩:=h0
 refine B7 [7] [1000000] [] [] (Cr hy1) rfl rfl rfl Tryz.call72 (by simp) (by simp;rfl) ?_
 refine ko [3] 1 (by simp;rfl) ?_
 refine tpN ?_
 cases h0
 exact trr ⟨[],by simp,rfl,by simp⟩
theorem BX {a0:List AC} {b10:AA} {r:Int×AA} (h0:sYIndexFunc_api_Replica_at_cluster_Check_3 a0 b10=some r):Ac Tryz.prog 50 [AF b10,[.fn 72 [.ptr (InO 0) 0]]] [.d (.slice (AB AE a0)),.fn 77 [.ptr (InO 1) 0]] (.d (.int .i64 r.1)) [AF r.2,[.fn 72 [.ptr (InO 0) 0]]]:=by
 unfold sYIndexFunc_api_Replica_at_cluster_Check_3 at h0
 refine AW (nt:=19) (rs:=[.tmp 4]) Tryz.func50 rfl Tryz.ntmps50 rfl (by simp) (by decide) rfl fun K=>?_
 refine kr [0,1] (by simp;rfl) ?_
 refine trq ?_
 refine kr [0,1,7,8] (by simp;rfl) ?_
 replace h0:=bnd h0;obtain⟨e1,hI1,h0⟩:=h0
 refine tjv (fun v1:Bool×(List Int)×(List AC)×(List Int)=>({ nt:=19,env:=[],box:=[(1000000,[.d (.bool v1.1),.d (.slice (AB (AH .i64) v1.2.1)),.d (.slice (AB AE v1.2.2.1)),.d (.slice (AB (AH .i64) v1.2.2.2))]),(1000001,[.fn 72 [.ptr 1000000 0]])],vec:=[]}:St)) (fun v1=>.inl v1=e1) (fun v1 hI1e _ W1=>?_) ?_
 ·subst hI1e
  dsimp only at h0
  refine Al W1 ?_
  refine kr [4] (by simp;rfl) ?_
  cases h0
  exact trr ⟨[],by simp,rfl,by simp⟩
 ·refine trb (Ai (fun s2:Int×Bool×(List Int)×(List AC)×(List Int)=>({ nt:=19,env:=[(0,.d (.slice (AB AE a0))),(1,.fn 77 [.ptr 1000001 0]),(7,.d (.int .i64 ((a0).length:Int))),(8,.d (.int .i64 s2.1))],box:=[(1000000,[.d (.bool s2.2.1),.d (.slice (AB (AH .i64) s2.2.2.1)),.d (.slice (AB AE s2.2.2.2.1)),.d (.slice (AB (AH .i64) s2.2.2.2.2))]),(1000001,[.fn 72 [.ptr 1000000 0]])],vec:=[]}:St)) hI1 (wk (by simp[wkI])) fun G1 s2 o1 h1 hg1 he1=>?_)
  unfold sYIndexFunc_api_Replica_at_cluster_Check_3_l0 at h1
  refine kr [0,1,7,8,9] (by simp;rfl) ?_
  refine trq ?_
  refine trc (b:=(decide (s2.1 < ((a0).length:Int)))) (by simp) (fun c5=>?_) (fun c5=>?_)
  ·rw[if_pos c5] at h1
   refine trk ?_
   refine trq ?_
   refine trb ?_
   refine kr [0,1,5,7,8] (by simp;rfl) ?_
   refine kc ?_
   replace h1:=bnd h1;obtain⟨x3,p3,h1⟩:=h1
   replace p3:=AT p3
   have p3':=p3;try simp at p3'
   refine ko [0,1,5,7,8,11,15] 5 (by simp[p3,p3'];rfl) ?_
   replace h1:=bnd h1;obtain⟨y4,hy4,h1⟩:=h1
   refine B7 [0,1,5,7,8,16] [1000000,1000001] [] [] (Ey hy4) rfl rfl rfl Tryz.call77 (by simp) (by simp;rfl) ?_
   refine tpN ?_
   refine trc (b:=y4.1) (by simp) (fun c6=>?_) (fun c6=>?_)
   ·rw[if_pos c6] at h1
    refine kr [4] (by simp;rfl) ?_
    have k1:=he1 _ (Option.some.inj h1)
    subst k1
    dsimp only at h0
    cases h0
    exact trr ⟨[],by simp,rfl,by simp⟩
   ·rw[if_neg (by rw[c6];decide)] at h1
    refine trk ?_
    refine lr (by simp;rfl) ?_
    exact⟨_,hg1 _ (Option.some.inj h1),wk (by simp[wkI])⟩
  ·rw[if_neg (by rw[c5];decide)] at h1
   refine Af ?_
   exact⟨_,he1 _ (Option.some.inj h1),wk (by simp[wkI])⟩
theorem BO {a0:List AC} {b10:AA} {r:Bool×AA} (h0:sYContainsFunc_api_Replica_at_cluster_Check_3 a0 b10=some r):Ac Tryz.prog 76 [AF b10,[.fn 72 [.ptr (InO 0) 0]]] [.d (.slice (AB AE a0)),.fn 77 [.ptr (InO 1) 0]] (.d (.bool r.1)) [AF r.2,[.fn 72 [.ptr (InO 0) 0]]]:=by
 unfold sYContainsFunc_api_Replica_at_cluster_Check_3 at h0
 refine AW (nt:=9) (rs:=[.tmp 4]) Tryz.func76 rfl Tryz.ntmps76 rfl (by simp) (by decide) rfl fun K=>?_
 refine kr [0,1] (by simp;rfl) ?_
 refine kc ?_
 refine ko [5,6] 2 (by simp;rfl) ?_
 replace h0:=bnd h0;obtain⟨y1,hy1,h0⟩:=h0
 refine AM [7] [1000000,1000001] (BX hy1) rfl rfl rfl Tryz.call50 (by simp) (by simp;rfl) ?_
 refine ko [4] 2 (by simp;rfl) ?_
 refine tpN ?_
 cases h0
 exact trr ⟨[],by simp,rfl,by simp⟩
theorem Am {a0:AA} {r:Int} (h0:cluster_Check a0=some r):Ac Tryz.prog 36 [] [.agg (AF a0)] (.d (.int .i64 r)) []:=by
 unfold cluster_Check at h0
 refine AW (nt:=39) (rs:=[.tmp 2]) Tryz.func36 rfl Tryz.ntmps36 rfl (by simp) (by decide) rfl fun K=>?_
 refine kr [1,2] (by simp;rfl) ?_
 refine kr [1,3] (by simp;rfl) ?_
 refine trq ?_
 refine trb ?_
 replace h0:=bnd h0;obtain⟨v1,hvv1,h0⟩:=h0
 refine sjv (fun v1_:Bool=>({ nt:=39,env:=[(1,.ptr 1 0),(3,.ptr 3 0),(5,.d (.bool v1_))],box:=[(1,[.d (.bool a0.Fence),.d (.slice (AB (AH .i64) a0.Sets)),.d (.slice (AB AE a0.Replicas)),.d (.slice (AB (AH .i64) a0.Snapshots))]),(3,[.fn 72 [.ptr 1 0]])],vec:=[]}:St)) (fun v1_=>v1=v1_) (fun v1_ e=>?_) ?_
 ·subst e
  refine trc (b:=v1) (by simp) (fun c3=>?_) (fun c3=>?_)
  ·rw[if_pos c3] at h0
   refine kr [2] (by simp;rfl) ?_
   cases h0
   exact trr ⟨[],by simp,rfl,by simp⟩
  ·rw[if_neg (by rw[c3];decide)] at h0
   replace h0:=bnd h0;obtain⟨v2,hvv2,h0⟩:=h0
   refine sjv (fun v2_:Bool×AA=>({ nt:=39,env:=[(1,.ptr 1 0),(3,.ptr 3 0),(24,.d (.bool v2_.1))],box:=[(1,[.d (.bool v2_.2.Fence),.d (.slice (AB (AH .i64) v2_.2.Sets)),.d (.slice (AB AE v2_.2.Replicas)),.d (.slice (AB (AH .i64) v2_.2.Snapshots))]),(3,[.fn 72 [.ptr 1 0]])],vec:=[]}:St)) (fun v2_=>v2=v2_) (fun v2_ e=>?_) ?_
   ·subst e
    refine trc (b:=v2.1) (by simp) (fun c4=>?_) (fun c4=>?_)
    ·rw[if_pos c4] at h0
     refine kr [2] (by simp;rfl) ?_
     cases h0
     exact trr ⟨[],by simp,rfl,by simp⟩
    ·rw[if_neg (by rw[c4];decide)] at h0
     refine kc ?_
     refine ko [1,3,36,37] 3 (by simp;rfl) ?_
     replace h0:=bnd h0;obtain⟨y5,hy5,h0⟩:=h0
     refine AM [38] [1,3] (BO hy5) rfl rfl rfl Tryz.call76 (by simp) (by simp;rfl) ?_
     refine ko [34] 1 (by simp;rfl) ?_
     refine tpN ?_
     refine trc (b:=y5.1) (by simp) (fun c5=>?_) (fun c5=>?_)
     ·rw[if_pos c5] at h0
      refine kr [2] (by simp;rfl) ?_
      cases h0
      exact trr ⟨[],by simp,rfl,by simp⟩
     ·rw[if_neg (by rw[c5];decide)] at h0
      refine trk ?_
      refine kr [2] (by simp;rfl) ?_
      cases h0
      exact trr ⟨[],by simp,rfl,by simp⟩
   ·refine kc1 ?_
    refine ko [1,3,26] 2 (by simp;rfl) ?_
    replace hvv2:=bnd hvv2;obtain⟨y3,hy3,hvv2⟩:=hvv2
    refine AM [1,3,27] [] (Br hy3) rfl rfl rfl Tryz.call74 (by simp) (by simp;rfl) ?_
    refine ko [1,3,28] 1 (by simp;rfl) ?_
    refine AG 28 y3 (by simp) (fun c6=>?_) (fun c6=>?_)
    ·rw[if_pos c6] at hvv2
     refine AR 4 [] (by kernel_rfl) ?_
     refine ko [1,3,24] 2 (by simp;rfl) ?_
     refine tpN ?_
     cases hvv2
     exact⟨_,rfl,wk (by simp[wkI])⟩
    ·rw[if_neg (by rw[c6];decide)] at hvv2
     refine ko [1,3,28,30,31] 3 (by simp;rfl) ?_
     replace hvv2:=bnd hvv2;obtain⟨y4,hy4,hvv2⟩:=hvv2
     refine AM [1,3,28,32] [1] (Bh hy4) rfl rfl rfl Tryz.call74 (by simp) (by simp;rfl) ?_
     refine ko [1,3,24] 2 (by simp;rfl) ?_
     refine tpN ?_
     cases hvv2
     exact⟨_,rfl,wk (by simp[wkI])⟩
 ·refine kc1 ?_
  refine ko [1,3,8] 3 (by simp;rfl) ?_
  replace hvv1:=bnd hvv1;obtain⟨y1,hy1,hvv1⟩:=hvv1
  refine AM [1,3,9] [] (Au hy1) rfl rfl rfl Tryz.call73 (by simp) (by simp;rfl) ?_
  refine ko [1,3,11] 2 (by simp;rfl) ?_
  refine AG 11 (!y1) (by simp) (fun c1=>?_) (fun c1=>?_)
  ·rw[if_pos c1] at hvv1
   refine AR 5 [] (by kernel_rfl) ?_
   refine ko [1,3,18] 2 (by simp;rfl) ?_
   refine AR 4 [] (by kernel_rfl) ?_
   refine ko [1,3,5] 2 (by simp;rfl) ?_
   refine tpN ?_
   cases hvv1
   exact⟨_,rfl,wk (by simp[wkI])⟩
  ·rw[if_neg (by rw[c1];decide)] at hvv1
   refine ko [1,3,11,14] 3 (by simp;rfl) ?_
   replace hvv1:=bnd hvv1;obtain⟨y2,hy2,hvv1⟩:=hvv1
   refine AM [1,3,11,15] [] (Au hy2) rfl rfl rfl Tryz.call73 (by simp) (by simp;rfl) ?_
   refine ko [1,3,18] 3 (by simp;rfl) ?_
   refine AG 18 (!y2) (by simp) (fun c2=>?_) (fun c2=>?_)
   ·rw[if_pos c2] at hvv1
    refine AR 4 [] (by kernel_rfl) ?_
    refine ko [1,3,5] 2 (by simp;rfl) ?_
    refine tpN ?_
    cases hvv1
    exact⟨_,rfl,wk (by simp[wkI])⟩
   ·rw[if_neg (by rw[c2];decide)] at hvv1
    refine ko [1,3,5] 6 (by simp;rfl) ?_
    refine tpN ?_
    cases hvv1
    exact⟨_,rfl,wk (by simp[wkI])⟩
end Go.Vl
