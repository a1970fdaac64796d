/- Plain laws of clusters and probes. Conditions: none. -/
import Derived.Test.YtbnfogbfphakmaaGreatDoorLDx
import Derived.Test.YtbnfogbfphakmaaGreatDoorPlG
set_option linter.unusedSimpArgs false
set_option linter.unusedVariables false
namespace Go.Vl
open Go Go.Proofs
def C1 (m:zT):Prop:=0≤m.at_∧m.L.length≤1000000
def CY (m:zT) (n:Int):Int:=if(m.L.length:Int)≤m.at_ then 0 else((m.L[m.at_.toNat]?.getD 0) % 65536) % n
def C2 (m:zT):zT:=if(m.L.length:Int)≤m.at_ then m else⟨m.L,m.at_+1⟩
theorem Bp {m:zT} (h:C1 m):C1 (C2 m):=by
 unfold C2;split
 ·exact h
 ·exact⟨by have:=h.1;simp <;> omega,h.2⟩
theorem Cd (m:zT) {n:Int} (hn:0 < n):0≤CY m n∧CY m n < n:=by
 unfold CY;split
 ·omega
 ·exact⟨Int.emod_nonneg _ (by omega),Int.emod_lt_of_pos _ hn⟩
theorem DC {m:zT} (h:C1 m) {n:Int} (hn:0 < n):zT_Next m n=some (CY m n,C2 m):=by
 obtain⟨h1,h2⟩:=h
 unfold zT_Next CY C2
 by_cases hb:(m.L.length:Int)≤m.at_
 ·rw[if_pos (by simpa using hb),if_pos hb,if_pos hb]
 ·rw[if_neg (by simpa using hb),if_neg hb,if_neg hb,Bo h1 (by omega),List.getElem?_eq_getElem (show m.at_.toNat < m.L.length by omega)]
  simp only[Option.bind_some,Cn (show n≠0 by omega),Option.getD_some,We]
  rw[Int.tmod_eq_emod_of_nonneg (Int.emod_nonneg _ (by omega)),w64 (by omega) (by omega)]
theorem IF {m:zT} (h:C1 m) {a b:Int} (hab:a≤b) (ha: -1000000≤a) (hb:b≤1000000):zT_Between m a b=some (a+CY m (b - a+1),C2 m):=by
 have:=Cd m (n:=b - a+1) (by omega)
 unfold zT_Between
 rw[w64 (x:=b - a) (by omega) (by omega),w64 (x:=b - a+1) (by omega) (by omega),DC h (by omega)]
 simp only[Option.bind_some]
 rw[w64 (by omega) (by omega)]
theorem Mr {m:zT} (h:C1 m) {l:List Int} (hl:0 < l.length):∃x∈l,mYPick m l=some (x,C2 m):=by
 have hb:=Cd m (n:=(l.length:Int)) (by omega)
 unfold mYPick
 rw[DC h (by omega)]
 simp only[Option.bind_some]
 refine⟨l[(CY m (l.length:Int)).toNat]'(by omega),List.getElem_mem _,?_⟩
 rw[Bo hb.1 (by omega)]
 rfl
theorem Kv {σ ε:Type} {body:σ→Option (Lp σ ε)} (S:Nat→σ) (n:Nat) (p:Nat→Bool) (out:Nat→ε) (e:ε) (hgo:∀i,i < n→body (S i)=some (if p i=true then .out (out i) else .go (S (i+1)))) (hend:body (S n)=some (.out e)):
  iter body (S 0)=some (((List.range n).find? p).elim e out):=by
 have key:∀m i,i+m=n→iter body (S i)=some (((List.range' i m).find? p).elim e out):=by
  intro m
  induction m with
  |zero=>
   intro i h
   have:i=n:=by omega
   subst this
   exact Cf hend
  |succ m ih=>
   intro i h
   rw[List.range'_succ,List.find?_cons]
   have hb:=hgo i (by omega)
   cases hp:p i with
   |true=>rw[hp,if_pos rfl] at hb;exact Cf hb
   |false=>rw[hp,if_neg (by decide)] at hb;rw[Ga hb];exact ih (i+1) (by omega)
 rw[List.range_eq_range']
 exact key n 0 (by omega)
theorem Bd {σ ε:Type} {body:σ→Option (Lp σ ε)} (S:Nat→σ) (n:Nat) (e:ε) (hgo:∀i,i < n→body (S i)=some (.go (S (i+1)))) (hend:body (S n)=some (.out e)):iter body (S 0)=some e:=by
 have h:=Kv S n (fun _=>false) (fun _=>e) e (fun i hi=>by rw[hgo i hi];rfl) hend
 rw[h]
 have:(List.range n).find? (fun _=>false)=none:=List.find?_eq_none.2 (fun x _=>by simp)
 rw[this];rfl
structure VC (c:AA):Prop where
 r:1≤c.Replicas.length∧c.Replicas.length≤5
 s:1≤c.Sets.length∧c.Sets.length≤121
 n:c.Snapshots.length≤120
 bits:∀x∈c.Sets,0≤x∧x≤3
 gen:∀x∈c.Replicas,0≤x.Generation∧x.Generation < c.Sets.length
 snap:∀x∈c.Snapshots,0≤x∧x < c.Sets.length
theorem Sg (x a b:Int):cluster_among x a b=some (decide (a≤x)&&decide (x≤b)):=rfl
theorem WV (x a b:Int):ref36_in x a b=some (decide (a≤x)&&decide (x≤b)):=rfl
theorem Cl {x a b:Int} (h:a≤x∧x≤b):cluster_among x a b=some true:=by rw[Sg,decide_eq_true h.1,decide_eq_true h.2];rfl
theorem GH {x a b:Int} (h:a≤x∧x≤b):ref36_in x a b=some true:=by rw[WV,decide_eq_true h.1,decide_eq_true h.2];rfl
theorem CC {c:AA} (h:VC c):cluster_Check c=some 0:=by
 obtain⟨hr,hs,hn,hb,hg,hp⟩:=h
 have e1:sYContainsFunc_int_at_cluster_Check_2 c.Sets=some false:=by
  unfold sYContainsFunc_int_at_cluster_Check_2 sYIndexFunc_int_at_cluster_Check_2
  have:=Bd (body:=sYIndexFunc_int_at_cluster_Check_2_l0 c.Sets) (fun i=>(i:Int)) c.Sets.length (.inl ()) (fun i hi=>by
   have hm:=hb _ (List.getElem_mem hi)
   unfold sYIndexFunc_int_at_cluster_Check_2_l0 cluster_Check_2
   rw[if_pos (by simpa using hi),Cy hi,w64 (by omega) (by omega)]
   simp only[Option.bind_some]
   rw[Cl hm]
   simp) (by unfold sYIndexFunc_int_at_cluster_Check_2_l0;rw[if_neg (by simp)])
  rw[show iter (sYIndexFunc_int_at_cluster_Check_2_l0 c.Sets) 0=_ from this]
  rfl
 have e2:sYContainsFunc_int_at_cluster_Check_1_b c.Snapshots c=some (false,c):=by
  unfold sYContainsFunc_int_at_cluster_Check_1_b sYIndexFunc_int_at_cluster_Check_1_b
  have:=Bd (body:=sYIndexFunc_int_at_cluster_Check_1_b_l0 c.Snapshots) (fun i=>((i:Int),c.Fence,c.Sets,c.Replicas,c.Snapshots)) c.Snapshots.length (.inl (c.Fence,c.Sets,c.Replicas,c.Snapshots)) (fun i hi=>by
   have hm:=hp _ (List.getElem_mem hi)
   unfold sYIndexFunc_int_at_cluster_Check_1_b_l0 cluster_Check_1_cb
   rw[if_pos (by simpa using hi),Cy hi,w64 (x:=(i:Int)+1) (by omega) (by omega)]
   simp only[Option.bind_some]
   rw[w64 (x:=(c.Sets.length:Int) - 1) (by omega) (by omega),Cl ⟨hm.1,by omega⟩]
   simp) (by unfold sYIndexFunc_int_at_cluster_Check_1_b_l0;rw[if_neg (by simp)])
  rw[show iter (sYIndexFunc_int_at_cluster_Check_1_b_l0 c.Snapshots) (0,c.Fence,c.Sets,c.Replicas,c.Snapshots)=_ from this]
  rfl
 have e3:sYContainsFunc_api_Replica_at_cluster_Check_3 c.Replicas c=some (false,c):=by
  unfold sYContainsFunc_api_Replica_at_cluster_Check_3 sYIndexFunc_api_Replica_at_cluster_Check_3
  have:=Bd (body:=sYIndexFunc_api_Replica_at_cluster_Check_3_l0 c.Replicas) (fun i=>((i:Int),c.Fence,c.Sets,c.Replicas,c.Snapshots)) c.Replicas.length (.inl (c.Fence,c.Sets,c.Replicas,c.Snapshots)) (fun i hi=>by
   have hm:=hg _ (List.getElem_mem hi)
   unfold sYIndexFunc_api_Replica_at_cluster_Check_3_l0 cluster_Check_3_cb cluster_Check_1_cb
   rw[if_pos (by simpa using hi),Cy hi,w64 (x:=(i:Int)+1) (by omega) (by omega)]
   simp only[Option.bind_some]
   rw[w64 (x:=(c.Sets.length:Int) - 1) (by omega) (by omega),Cl ⟨hm.1,by omega⟩]
   simp) (by unfold sYIndexFunc_api_Replica_at_cluster_Check_3_l0;rw[if_neg (by simp)])
  rw[show iter (sYIndexFunc_api_Replica_at_cluster_Check_3_l0 c.Replicas) (0,c.Fence,c.Sets,c.Replicas,c.Snapshots)=_ from this]
  rfl
 unfold cluster_Check
 rw[Cl (by omega)]
 simp only[Option.bind_some]
 rw[if_neg (by decide),Cl (by omega)]
 simp only[Option.bind_some]
 rw[if_neg (by decide),decide_eq_false (by omega)]
 simp only[Option.bind_some]
 rw[if_neg (by decide),e1]
 simp only[Option.bind_some]
 rw[if_neg (by decide),e2]
 simp only[Option.bind_some]
 rw[if_neg (by decide),e3]
 rfl
theorem G6 {c:AA} (h:VC c):ref36_Valid c=some true:=by
 obtain⟨hr,hs,hn,hb,hg,hp⟩:=h
 have e1:iter (ref36_Valid_l0 c) 0=some (.inl ()):=Bd (body:=ref36_Valid_l0 c) (fun i=>(i:Int)) c.Sets.length (.inl ()) (fun i hi=>by
  have hm:=hb _ (List.getElem_mem hi)
  unfold ref36_Valid_l0
  rw[if_pos (by simpa using hi),Cy hi,w64 (by omega) (by omega)]
  simp only[Option.bind_some]
  rw[GH hm]
  simp) (by unfold ref36_Valid_l0;rw[if_neg (by simp)])
 have e2:iter (ref36_Valid_l1 c) 0=some (.inl ()):=Bd (body:=ref36_Valid_l1 c) (fun i=>(i:Int)) c.Replicas.length (.inl ()) (fun i hi=>by
  have hm:=hg _ (List.getElem_mem hi)
  unfold ref36_Valid_l1
  rw[if_pos (by simpa using hi),Cy hi,w64 (x:=(i:Int)+1) (by omega) (by omega)]
  simp only[Option.bind_some]
  rw[w64 (x:=(c.Sets.length:Int) - 1) (by omega) (by omega),GH ⟨hm.1,by omega⟩]
  simp) (by unfold ref36_Valid_l1;rw[if_neg (by simp)])
 have e3:iter (ref36_Valid_l2 c) 0=some (.inl ()):=Bd (body:=ref36_Valid_l2 c) (fun i=>(i:Int)) c.Snapshots.length (.inl ()) (fun i hi=>by
  have hm:=hp _ (List.getElem_mem hi)
  unfold ref36_Valid_l2
  rw[if_pos (by simpa using hi),Cy hi,w64 (x:=(i:Int)+1) (by omega) (by omega)]
  simp only[Option.bind_some]
  rw[w64 (x:=(c.Sets.length:Int) - 1) (by omega) (by omega),GH ⟨hm.1,by omega⟩]
  simp) (by unfold ref36_Valid_l2;rw[if_neg (by simp)])
 unfold ref36_Valid
 rw[GH (by omega)]
 simp only[Option.bind_some]
 rw[if_neg (by decide),GH (by omega)]
 simp only[Option.bind_some]
 rw[if_neg (by decide),decide_eq_false (by omega)]
 simp only[Option.bind_some]
 rw[if_neg (by decide),e1]
 simp only[Option.bind_some]
 rw[e2]
 simp only[Option.bind_some]
 rw[e3]
 rfl
theorem VC.fence {c:AA} (h:VC c) (b:Bool):VC ⟨b,c.Sets,c.Replicas,c.Snapshots⟩:=⟨h.r,h.s,h.n,h.bits,h.gen,h.snap⟩
theorem VC.pub {c:AA} (h:VC c) {x:Int} (hx:0≤x∧x≤3) (hl:c.Sets.length≤120):VC ⟨c.Fence,c.Sets++[x],c.Replicas,c.Snapshots⟩:=by
 refine⟨h.r,by simp;omega,h.n,fun y hy=>?_,fun y hy=>?_,fun y hy=>?_⟩
 ·rcases List.mem_append.1 hy with hy |hy
  ·exact h.bits y hy
  ·simp at hy;omega
 ·have:=h.gen y hy;simp;omega
 ·have:=h.snap y hy;simp;omega
theorem VC.put {c:AA} (h:VC c) {r:Nat} {x:AC} (hx:0≤x.Generation∧x.Generation < c.Sets.length):VC ⟨c.Fence,c.Sets,c.Replicas.set r x,c.Snapshots⟩:=by
 refine⟨by simpa using h.r,h.s,h.n,h.bits,fun y hy=>?_,h.snap⟩
 rcases List.mem_or_eq_of_mem_set hy with hy |rfl
 ·exact h.gen y hy
 ·exact hx
theorem VC.shot {c:AA} (h:VC c) {g:Int} (hg:0≤g∧g < c.Sets.length) (hl:c.Snapshots.length < 120):VC ⟨c.Fence,c.Sets,c.Replicas,c.Snapshots++[g]⟩:=by
 refine⟨h.r,h.s,by simp;omega,h.bits,h.gen,fun y hy=>?_⟩
 rcases List.mem_append.1 hy with hy |hy
 ·exact h.snap y hy
 ·simp at hy;subst hy;exact hg
theorem O0 {c:AA} (h:VC c):ref36_Copy_own1_2_3 c=some c:=by
 obtain⟨hr,hs,hn,_⟩:=h
 unfold ref36_Copy_own1_2_3
 rw[Cn (by omega),Cn (by omega),Cn (by omega)]
 rfl
theorem WC {c:AA} (h:VC c) {b:Int} (hb:0≤b∧b≤3) (hl:c.Sets.length≤120):ref36_Apply c ⟨1,0,0,b⟩=some (⟨c.Fence,c.Sets++[b],c.Replicas,c.Snapshots⟩,0):=by
 unfold ref36_Apply
 rw[G6 h]
 simp only[Option.bind_some]
 rw[if_neg (by decide),O0 h]
 simp only[Option.bind_some]
 rw[if_pos (by decide),if_neg (by simp),GH hb]
 simp only[Option.bind_some]
 rw[if_neg (by decide),if_neg (by simp;omega),Cn (by simp;omega)]
 rfl
theorem WE {c:AA} (h:VC c) {r:Int} (hr:0≤r∧r < c.Replicas.length):ref36_Apply c ⟨2,r,0,0⟩=some (⟨c.Fence,c.Sets,c.Replicas.set r.toNat ⟨(c.Sets.length:Int) - 1,true⟩,c.Snapshots⟩,0):=by
 have h1:=h.r;have h2:=h.s
 unfold ref36_Apply
 rw[G6 h]
 simp only[Option.bind_some]
 rw[if_neg (by decide),O0 h]
 simp only[Option.bind_some]
 rw[if_neg (by simp),if_pos (by simp)]
 unfold ref36_Apply_j1
 rw[if_pos (by simp)]
 unfold ref36_Apply_j0
 simp only
 rw[if_neg (by simp),GH (by omega)]
 simp only[Option.bind_some]
 rw[if_neg (by decide),w64 (x:=(c.Replicas.length:Int) - 1) (by omega) (by omega),GH (by omega)]
 simp only[Option.bind_some]
 rw[if_neg (by decide),if_neg (by decide)]
 simp only[Option.bind_some]
 rw[if_neg (by decide),Cn (by omega)]
 simp only[Option.bind_some]
 rw[if_pos (by decide),Bo hr.1 (by omega),w64 (by omega) (by omega)]
 rfl
theorem WF {c:AA} (h:VC c) {r:Int} (hr:0≤r∧r < c.Replicas.length) (hl:c.Snapshots.length < 120):ref36_Apply c ⟨3,r,0,0⟩=some (⟨c.Fence,c.Sets,c.Replicas,c.Snapshots++[(c.Replicas[r.toNat]'(by omega)).Generation]⟩,0):=by
 have h1:=h.r;have h2:=h.s
 unfold ref36_Apply
 rw[G6 h]
 simp only[Option.bind_some]
 rw[if_neg (by decide),O0 h]
 simp only[Option.bind_some]
 rw[if_neg (by simp),if_neg (by simp)]
 unfold ref36_Apply_j1
 rw[if_pos (by simp)]
 unfold ref36_Apply_j0
 simp only
 rw[if_neg (by simp),GH (by omega)]
 simp only[Option.bind_some]
 rw[if_neg (by decide),w64 (x:=(c.Replicas.length:Int) - 1) (by omega) (by omega),GH (by omega)]
 simp only[Option.bind_some]
 rw[if_neg (by decide),if_neg (by decide)]
 simp only[Option.bind_some]
 rw[if_neg (by decide),Cn (by omega)]
 simp only[Option.bind_some]
 rw[if_neg (by decide),if_pos (by decide),if_neg (by simp;omega),Bo hr.1 (by omega)]
 simp only[Option.bind_some]
 rw[Cn (by simp;omega)]
 rfl
theorem WG {c:AA} (h:VC c) {r s:Int} (hr:0≤r∧r < c.Replicas.length) (hs:0≤s∧s≤c.Snapshots.length):∃q,ref36_Apply c ⟨4,r,s,0⟩=some q∧(q.2=0→VC q.1∧q.1.Sets=c.Sets∧q.1.Snapshots=c.Snapshots):=by
 have h1:=h.r;have h2:=h.s;have h3:=h.n
 unfold ref36_Apply
 rw[G6 h]
 simp only[Option.bind_some]
 rw[if_neg (by decide),O0 h]
 simp only[Option.bind_some]
 rw[if_neg (by simp),if_neg (by simp)]
 unfold ref36_Apply_j1
 rw[if_neg (by simp),if_pos (by simp)]
 unfold ref36_Apply_j0
 simp only
 rw[if_neg (by simp),GH (by omega)]
 simp only[Option.bind_some]
 rw[if_neg (by decide),w64 (x:=(c.Replicas.length:Int) - 1) (by omega) (by omega),GH (by omega)]
 simp only[Option.bind_some]
 rw[if_neg (by decide),if_pos (by decide),w64 (x:=(c.Snapshots.length:Int) - 1) (by omega) (by omega)]
 by_cases hlt:s < c.Snapshots.length
 ·rw[GH (by omega)]
  simp only[Option.bind_some]
  rw[if_neg (by decide),Cn (by omega)]
  simp only[Option.bind_some]
  rw[if_neg (by decide),if_neg (by decide),Cn (by omega)]
  simp only[Option.bind_some]
  rw[Bo hs.1 (by omega)]
  simp only[Option.bind_some]
  rw[Bo hr.1 (by omega)]
  simp only[Option.bind_some]
  exact⟨_,rfl,fun _=>⟨h.put (h.snap _ (List.getElem_mem _)),rfl,rfl⟩⟩
 ·rw[WV,decide_eq_true hs.1,decide_eq_false (by omega)]
  simp only[Option.bind_some]
  rw[if_pos (by decide)]
  exact⟨_,rfl,fun h=>by cases h⟩
theorem Ms {m:zT} (hm:C1 m):∃(c:AA) (m':zT),mYCluster m=some (c,m')∧C1 m'∧VC c∧c.Sets.length≤12∧c.Snapshots.length≤12:=by
 have hb:=Cd m (n:=3 - 1+1) (by omega)
 unfold mYCluster
 rw[IF hm (by omega) (by omega) (by omega)]
 simp only[Option.bind_some]
 have h1:=Bp hm
 generalize CY m (3 - 1+1)=v at *
 generalize C2 m=m1 at *
 obtain⟨b,hbm,hb2⟩:=Mr h1 (l:=[1,1,3,2]) (by decide)
 rw[hb2]
 simp only[Option.bind_some]
 have hbb:0≤b∧b≤3:=by simp at hbm;omega
 have h2:=Bp h1
 generalize C2 m1=m2 at *
 rw[DC h2 (by omega)]
 simp only[Option.bind_some]
 have h3:=Bp h2
 generalize CY m2 2=f at *
 generalize C2 m2=m3 at *
 have enew:ref36_New (1+v) b (f==1)=some (⟨f==1,[b],List.replicate (1+v).toNat ⟨0,true⟩,[]⟩,0):=by
  unfold ref36_New
  rw[GH (by omega)]
  simp only[Option.bind_some]
  rw[if_neg (by decide),GH hbb]
  simp only[Option.bind_some]
  rw[if_neg (by decide)]
  have:=Bd (body:=ref36_New_l0 (1+v)) (fun i=>((i:Int),List.replicate i (⟨0,true⟩:AC))) (1+v).toNat (List.replicate (1+v).toNat ⟨0,true⟩) (fun i hi=>by
   unfold ref36_New_l0
   rw[if_pos (by simp;omega),Cn (by simp;omega)]
   simp only[Option.bind_some]
   rw[w64 (by omega) (by omega),List.replicate_succ']
   rfl) (by unfold ref36_New_l0;rw[if_neg (by simp;omega)])
  rw[show iter (ref36_New_l0 (1+v)) (0,[])=_ from this]
  rfl
 rw[enew]
 simp only[Option.bind_some]
 have hk:=Cd m3 (n:=12) (by omega)
 rw[DC h3 (by omega)]
 simp only[Option.bind_some]
 have h4:=Bp h3
 generalize CY m3 12=k at *
 generalize C2 m3=m4 at *
 have v0:VC ⟨f==1,[b],List.replicate (1+v).toNat ⟨0,true⟩,[]⟩:=⟨by simp;omega,by simp,by simp,by simpa using hbb,fun x hx=>by
  have:=List.eq_of_mem_replicate hx
  subst this
  simp,by simp⟩
 have key:∃e,iter mYCluster_l0 (k,m4.L,m4.at_,(f==1),[b],List.replicate (1+v).toNat ⟨0,true⟩,[])=some e∧C1 ⟨e.1,e.2.1⟩∧VC ⟨e.2.2.1,e.2.2.2.1,e.2.2.2.2.1,e.2.2.2.2.2⟩∧e.2.2.2.1.length≤12∧e.2.2.2.2.2.length≤12:=by
  refine IW (body:=mYCluster_l0) (fun s=>0≤s.1∧s.1≤11∧C1 ⟨s.2.1,s.2.2.1⟩∧VC ⟨s.2.2.2.1,s.2.2.2.2.1,s.2.2.2.2.2.1,s.2.2.2.2.2.2⟩∧(s.2.2.2.2.1.length:Int)+s.1≤12∧(s.2.2.2.2.2.2.length:Int)+s.1≤12) (fun s=>s.1.toNat) _ ?_ ⟨hk.1,by simp only;omega,h4,v0,by simp;omega,by simp;omega⟩
  rintro⟨k,tl,ta,F,S,R,N⟩ ⟨i1,i2,i3,i4,i5,i6⟩
  simp only at i1 i2 i3 i4 i5 i6
  unfold mYCluster_l0
  simp only
  by_cases hlt:0 < k
  ·left
   rw[if_pos (by simpa using hlt),w64 (by omega) (by omega)]
   have hR:=i4.r
   simp only at hR
   -- the event
   have hev:∃x t',mYEvent ⟨tl,ta⟩ ⟨F,S,R,N⟩=some (x,t')∧C1 t'∧∃q,ref36_Apply ⟨F,S,R,N⟩ x=some q∧(q.2=0→VC q.1∧q.1.Sets.length≤S.length+1∧q.1.Snapshots.length≤N.length+1):=by
    have hb:=Cd (⟨tl,ta⟩:zT) (n:=4 - 1+1) (by omega)
    unfold mYEvent
    rw[IF i3 (by omega) (by omega) (by omega)]
    simp only[Option.bind_some]
    have j1:=Bp i3
    generalize CY (⟨tl,ta⟩:zT) (4 - 1+1)=v at *
    generalize C2 (⟨tl,ta⟩:zT)=t1 at *
    by_cases k1:v=0
    ·subst k1
     rw[if_pos (by decide)]
     obtain⟨b,hbm,hb2⟩:=Mr j1 (l:=[1,2,2,3,0]) (by decide)
     rw[hb2]
     simp only[Option.bind_some]
     have hbb:0≤b∧b≤3:=by simp at hbm;omega
     refine⟨_,_,rfl,Bp j1,_,WC i4 hbb (by simp only;omega),fun _=>⟨i4.pub hbb (by simp only;omega),by simp,by simp⟩⟩
    ·rw[if_neg (by simp;omega)]
     have hr:=Cd t1 (n:=(R.length:Int)) (by omega)
     by_cases k4:v=3
     ·subst k4
      rw[if_pos (by decide),DC j1 (by omega)]
      simp only[Option.bind_some]
      have j2:=Bp j1
      generalize CY t1 (R.length:Int)=r at *
      generalize C2 t1=t2 at *
      rw[w64 (x:=(N.length:Int)+1) (by omega) (by omega),DC j2 (by omega)]
      simp only[Option.bind_some]
      have hs:=Cd t2 (n:=(N.length:Int)+1) (by omega)
      obtain⟨q,q1,q2⟩:=WG i4 (r:=r) (s:=CY t2 ((N.length:Int)+1)) hr ⟨hs.1,by simp only;omega⟩
      exact⟨_,_,rfl,Bp j2,q,q1,fun h=>by obtain⟨p1,p2,p3⟩:=q2 h;exact⟨p1,by rw[p2];simp,by rw[p3];simp⟩⟩
     ·rw[if_neg (by simp;omega),DC j1 (by omega)]
      simp only[Option.bind_some]
      refine⟨_,_,rfl,Bp j1,?_⟩
      generalize CY t1 (R.length:Int)=r at *
      by_cases k2:v=1
      ·subst k2
       refine⟨_,WE i4 hr,fun _=>⟨i4.put ⟨by have:=i4.s;simp only at this ⊢;omega,by simp only;omega⟩,by simp,by simp⟩⟩
      ·have:v=2:=by omega
       subst this
       refine⟨_,WF i4 hr (by simp only;omega),fun _=>⟨i4.shot (i4.gen _ (List.getElem_mem _)) (by simp only;omega),by simp,by simp⟩⟩
   obtain⟨x,t',x1,x2,q,q1,q2⟩:=hev
   rw[x1]
   simp only[Option.bind_some]
   rw[q1]
   simp only[Option.bind_some]
   by_cases hq:q.2=0
   ·rw[if_pos (by simpa using hq)]
    obtain⟨p1,p2,p3⟩:=q2 hq
    exact⟨_,rfl,⟨by simp only;omega,by simp only;omega,x2,p1,by simp only;omega,by simp only;omega⟩,by simp only;omega⟩
   ·rw[if_neg (by simpa using hq)]
    exact⟨_,rfl,⟨by simp only;omega,by simp only;omega,x2,i4,by simp only;omega,by simp only;omega⟩,by simp only;omega⟩
  ·right
   rw[if_neg (by simpa using hlt)]
   exact⟨_,rfl,i3,i4,by simp only;omega,by simp only;omega⟩
 obtain⟨e,e1,e2,e3,e4,e5⟩:=key
 rw[e1]
 exact⟨_,_,rfl,e2,e3,e4,e5⟩
end Go.Vl
namespace Go.Vl
open Go Go.Proofs
theorem Li {c:AA} (h:VC c):cluster_Copy_own1_2 c=some c:=by
 obtain⟨hr,hs,hn,_⟩:=h
 unfold cluster_Copy_own1_2 sYClone_int_own0 sYClone_api_Replica_own0 sYClone_int
 rw[Cn (by omega),Cn (by omega),Cn (by omega)]
 rfl
theorem Yu {c:AA} (h:VC c) (hl:c.Sets.length≤120):cluster_Apply c ⟨1,0,0,2⟩=some (⟨c.Fence,c.Sets++[2],c.Replicas,c.Snapshots⟩,0):=by
 have h1:=h.r;have h2:=h.s
 have hf:cluster_fits c ⟨1,0,0,2⟩=some true:=by
  unfold cluster_fits
  rw[w64 (by omega) (by omega),Cl (show (0:Int)≤0∧(0:Int)≤(c.Replicas.length:Int) - 1 by omega)]
  simp only[Option.bind_some]
  rw[if_pos (by decide),if_pos (by simp),Cl (by decide)]
  rfl
 unfold cluster_Apply
 rw[CC h]
 simp only[Option.bind_some]
 rw[if_neg (by decide),hf]
 simp only[Option.bind_some]
 rw[if_neg (by decide),if_neg (by simp;omega),Li h]
 simp only[Option.bind_some]
 rw[Cn (by simp;omega)]
 simp only[Option.bind_some]
 rw[if_pos (by decide),Cn (by simp;omega)]
 rfl
theorem Yv {c:AA} (h:VC c) {r:Int} (hr:0≤r∧r < c.Replicas.length):cluster_Apply c ⟨2,r,0,0⟩=some (⟨c.Fence,c.Sets,c.Replicas.set r.toNat ⟨(c.Sets.length:Int) - 1,true⟩,c.Snapshots⟩,0):=by
 have h1:=h.r;have h2:=h.s
 have hf:cluster_fits c ⟨2,r,0,0⟩=some true:=by
  unfold cluster_fits
  rw[w64 (by omega) (by omega),Cl (show 0≤r∧r≤(c.Replicas.length:Int) - 1 by omega)]
  simp only[Option.bind_some]
  rw[if_neg (by simp),if_pos (by simp)]
  unfold cluster_fits_j0
  rw[if_pos (by simp)]
  simp
 unfold cluster_Apply
 rw[CC h]
 simp only[Option.bind_some]
 rw[if_neg (by decide),hf]
 simp only[Option.bind_some]
 rw[if_neg (by decide),if_neg (by simp),Li h]
 simp only[Option.bind_some]
 rw[Cn (by omega)]
 simp only[Option.bind_some]
 rw[if_neg (by simp),if_pos (by simp),Bo hr.1 (by omega),w64 (by omega) (by omega)]
 rfl
theorem Yw {c:AA} (h:VC c) {r s:Int} (hr:0≤r∧r < c.Replicas.length) (hs:0≤s∧s < c.Snapshots.length):cluster_Apply c ⟨4,r,s,0⟩=some (⟨c.Fence,c.Sets,c.Replicas.set r.toNat ⟨c.Snapshots[s.toNat]'(by omega),!c.Fence⟩,c.Snapshots⟩,0):=by
 have h1:=h.r;have h2:=h.s;have h3:=h.n
 have hf:cluster_fits c ⟨4,r,s,0⟩=some true:=by
  unfold cluster_fits
  rw[w64 (by omega) (by omega),Cl (show 0≤r∧r≤(c.Replicas.length:Int) - 1 by omega)]
  simp only[Option.bind_some]
  rw[if_neg (by simp),if_neg (by simp)]
  unfold cluster_fits_j0
  rw[if_neg (by simp),if_pos (by simp),if_pos (by simp),if_pos rfl,w64 (by omega) (by omega),Cl (show 0≤s∧s≤(c.Snapshots.length:Int) - 1 by omega)]
  rfl
 unfold cluster_Apply
 rw[CC h]
 simp only[Option.bind_some]
 rw[if_neg (by decide),hf]
 simp only[Option.bind_some]
 rw[if_neg (by decide),if_neg (by simp),Li h]
 simp only[Option.bind_some]
 rw[Cn (by omega)]
 simp only[Option.bind_some]
 rw[if_neg (by simp),if_neg (by simp),if_neg (by simp),if_pos (by simp),Bo hs.1 (by omega)]
 simp only[Option.bind_some]
 rw[Bo hr.1 (by omega)]
 rfl
def FU (S:List Int) (g:Int):Bool:=J9 .i64 (S.getD g.toNat 0) 1 != 0
def J4 (S:List Int) (x:AC):Bool:=x.Serving&&FU S x.Generation
theorem N0 {c:AA} {g:Int} (hg:0≤g∧g < c.Sets.length):cluster_has c g 1=some (FU c.Sets g):=by
 unfold cluster_has FU
 rw[Bo hg.1 (by omega)]
 simp only[Option.bind_some]
 rw[show c.Sets.getD g.toNat 0=c.Sets[g.toNat]'(by omega) by simp[List.getD,show g.toNat < c.Sets.length by omega]]
theorem J5 {c:AA} {x:AC} (hg:0≤x.Generation∧x.Generation < c.Sets.length):cluster_accepts c x 1=some (J4 c.Sets x):=by
 unfold cluster_accepts J4
 rw[N0 hg]
 cases x.Serving <;> rfl
theorem N3 {c:AA} (h:VC c) {i:Nat} (hi:i < c.Replicas.length):cluster_Accepts c (i:Int) 1=some (J4 c.Sets c.Replicas[i]):=by
 have h1:=h.r
 unfold cluster_Accepts
 rw[CC h]
 simp only[Option.bind_some]
 rw[if_pos (by decide)]
 unfold cluster_asked
 simp only[Option.bind_some]
 rw[if_pos (by decide),w64 (by omega) (by omega),Cl (by omega)]
 simp only[Option.bind_some]
 rw[if_pos trivial,Cy hi]
 simp only[Option.bind_some]
 rw[J5 (h.gen _ (List.getElem_mem hi))]
 rfl
theorem O1 {c:AA} (h:VC c) (hno:∀x∈c.Replicas,J4 c.Sets x=false):cluster_some c 1=some false:=by
 have h1:=h.r
 unfold cluster_some sYContainsFunc_api_Replica_at_cluster_some_1_bb sYIndexFunc_api_Replica_at_cluster_some_1_bb
 have:=Bd (body:=sYIndexFunc_api_Replica_at_cluster_some_1_bb_l0 c.Replicas) (fun i=>((i:Int),c.Fence,c.Sets,c.Replicas,c.Snapshots,(1:Int))) c.Replicas.length (.inl (c.Fence,c.Sets,c.Replicas,c.Snapshots,(1:Int))) (fun i hi=>by
  have hm:=List.getElem_mem hi
  unfold sYIndexFunc_api_Replica_at_cluster_some_1_bb_l0 cluster_some_1_cbb
  rw[if_pos (by simpa using hi),Cy hi,w64 (by omega) (by omega)]
  simp only[Option.bind_some]
  rw[J5 (c:=⟨c.Fence,c.Sets,c.Replicas,c.Snapshots⟩) (h.gen _ hm),hno _ hm]
  simp) (by unfold sYIndexFunc_api_Replica_at_cluster_some_1_bb_l0;rw[if_neg (by simp)])
 rw[show iter (sYIndexFunc_api_Replica_at_cluster_some_1_bb_l0 c.Replicas) (0,c.Fence,c.Sets,c.Replicas,c.Snapshots,1)=_ from this]
 rfl
def A2 (S:List Int):Nat→Nat
 |0=>0
 |n+1=>if FU S (n:Int)=false then A2 S n else n+1
theorem Kw (S:List Int):∀n,A2 S n≤n
 |0=>Nat.le_refl _
 |n+1=>by
  unfold A2
  split
  ·have:=Kw S n;omega
  ·exact Nat.le_refl _
theorem Kx (S:List Int):∀n g,A2 S n≤g→g < n→FU S (g:Int)=false
 |0,g,_,h=>by omega
 |n+1,g,h1,h2=>by
  unfold A2 at h1
  split at h1
  ·rename_i h
   by_cases e:g=n
   ·subst e;exact h
   ·exact Kx S n g h1 (by omega)
  ·omega
def Bt (S:List Int):Nat:=S.length - 1
theorem Mt {c:AA} (h:VC c) (hn:FU c.Sets (Bt c.Sets:Int)=false):probe_Since c 1=some ((A2 c.Sets c.Sets.length:Int),true)∧A2 c.Sets c.Sets.length≤Bt c.Sets:=by
 have h2:=h.s
 have hlt:A2 c.Sets c.Sets.length≤Bt c.Sets:=by
  obtain⟨n,hn'⟩:∃n,c.Sets.length=n+1:=⟨c.Sets.length - 1,by omega⟩
  unfold Bt at hn ⊢
  rw[hn'] at hn ⊢
  unfold A2
  rw[if_pos (by simpa using hn)]
  simpa using Kw c.Sets n
 have key:∀n,n≤c.Sets.length→iter (probe_Since_l0 c 1) (n:Int)=some (A2 c.Sets n:Int):=fun n=>by
  induction n with
  |zero=>
   intro _
   refine Cf ?_
   unfold probe_Since_l0
   rw[if_neg (by decide)]
   rfl
  |succ n ih=>
   intro hle
   have hidx:idx c.Sets (n:Int)=some (c.Sets[n]'(by omega)):=Cy (by omega)
   have hb:probe_Since_l0 c 1 ((n+1:Nat):Int)=if FU c.Sets (n:Int)=false then some (.go (n:Int)) else some (.out ((n+1:Nat):Int)):=by
    unfold probe_Since_l0
    rw[w64 (by omega) (by omega),if_pos (by simp <;> omega),show((n+1:Nat):Int) - 1=(n:Int) by omega,hidx]
    simp only[Option.bind_some]
    have e:FU c.Sets (n:Int)=(J9 .i64 (c.Sets[n]'(by omega)) 1 != 0):=by
     unfold FU
     rw[show c.Sets.getD ((n:Int)).toNat 0=c.Sets[n]'(by omega) by simp[List.getD,show n < c.Sets.length by omega]]
    rw[e]
    cases hq:(J9 .i64 (c.Sets[n]'(by omega)) 1==0) with
    |true=>simp[bne,hq]
    |false=>simp[bne,hq]
   unfold A2
   by_cases ho:FU c.Sets (n:Int)=false
   ·rw[if_pos ho] at hb ⊢
    rw[Ga hb]
    exact ih (by omega)
   ·rw[if_neg ho] at hb ⊢
    exact Cf hb
 refine⟨?_,hlt⟩
 unfold probe_Since
 rw[CC h]
 simp only[Option.bind_some]
 rw[if_neg (by decide),if_neg (by decide)]
 simp only[Option.bind_some]
 rw[if_neg (by decide),key c.Sets.length (Nat.le_refl _)]
 simp only[Option.bind_some]
 rw[if_neg (by unfold Bt at hlt;rw[beq_iff_eq];omega)]
def Hh (c:AA) (i:Nat):AQ:=⟨(i:Int),(c.Replicas.getD i default).Generation,!J4 c.Sets (c.Replicas.getD i default)⟩
def evs (c:AA):List AQ:=(List.range c.Replicas.length).map (Hh c)
theorem Lk (c:AA):(evs c).length=c.Replicas.length:=by simp[evs]
theorem O2 {c:AA} {i:Nat} (hi:i < (evs c).length):(evs c)[i]=Hh c i:=by simp[evs]
theorem WH {c:AA} {i:Nat} (hi:i < c.Replicas.length):c.Replicas.getD i default=c.Replicas[i]:=by simp[List.getD,hi]
theorem Si {c:AA} (h:VC c) {i:Nat} (hi:i < c.Replicas.length):probe_ask c (i:Int)=some (Hh c i):=by
 unfold probe_ask
 rw[Cy hi]
 simp only[Option.bind_some]
 rw[N3 h hi]
 simp only[Option.bind_some]
 unfold Hh
 rw[WH hi]
theorem Sj {c:AA} (h:VC c):probe_All c=some (evs c,0):=by
 have h1:=h.r
 unfold probe_All
 rw[CC h]
 simp only[Option.bind_some]
 rw[if_neg (by decide)]
 have:=Bd (body:=probe_All_l0 c) (fun i=>((i:Int),(List.range i).map (Hh c))) c.Replicas.length (evs c) (fun i hi=>by
  unfold probe_All_l0
  rw[if_pos (by simpa using hi),Si h hi]
  simp only[Option.bind_some]
  rw[Cn (by simp;omega),w64 (by omega) (by omega)]
  simp[List.range_succ]) (by unfold probe_All_l0;rw[if_neg (by simp)];rfl)
 rw[show iter (probe_All_l0 c) (0,[])=_ from this]
 rfl
theorem Sk {c:AA} (h:VC c):probe_Right c (evs c)=some true:=by
 have h1:=h.r
 unfold probe_Right
 rw[CC h]
 simp only[Option.bind_some]
 rw[if_pos (by decide)]
 unfold sYContainsFunc_api_Evidence_at_probe_Right_1_b sYIndexFunc_api_Evidence_at_probe_Right_1_b
 have:=Bd (body:=sYIndexFunc_api_Evidence_at_probe_Right_1_b_l0 (evs c)) (fun i=>((i:Int),c.Fence,c.Sets,c.Replicas,c.Snapshots)) (evs c).length (.inl (c.Fence,c.Sets,c.Replicas,c.Snapshots)) (fun i hi=>by
  have hi':i < c.Replicas.length:=by rw[Lk] at hi;exact hi
  unfold sYIndexFunc_api_Evidence_at_probe_Right_1_b_l0 probe_Right_1_cb probe_exists
  rw[if_pos (by simpa using hi),Cy hi,O2 hi,w64 (by omega) (by omega)]
  simp only[Option.bind_some]
  rw[show (Hh c i).Replica=(i:Int) from rfl,decide_eq_true (show (0:Int)≤(i:Int) by omega),decide_eq_true (show (i:Int) < (c.Replicas.length:Int) by omega),if_neg (by decide),Si (c:=⟨c.Fence,c.Sets,c.Replicas,c.Snapshots⟩) h hi']
  simp only[Option.bind_some]
  simp[Hh]) (by unfold sYIndexFunc_api_Evidence_at_probe_Right_1_b_l0;rw[if_neg (by simp)])
 rw[show iter (sYIndexFunc_api_Evidence_at_probe_Right_1_b_l0 (evs c)) (0,c.Fence,c.Sets,c.Replicas,c.Snapshots)=_ from this]
 rfl
def Eu (c:AA) (i:Nat):Bool:=!J4 c.Sets (c.Replicas.getD i default)&&decide ((A2 c.Sets c.Sets.length:Int)≤(c.Replicas.getD i default).Generation)
theorem Sl {c:AA} (h:VC c) {i:Nat} (hi:i < c.Replicas.length):∃y,sYContainsFunc_api_Evidence_at_probe_Missing_1_bbbb (evs c) (i:Int) true (A2 c.Sets c.Sets.length:Int) ⟨c.Fence,c.Sets,c.Replicas,c.Snapshots⟩=some y∧y=(Eu c i,(i:Int),true,(A2 c.Sets c.Sets.length:Int),⟨c.Fence,c.Sets,c.Replicas,c.Snapshots⟩):=by
 have h1:=h.r
 refine⟨_,?_,rfl⟩
 unfold sYContainsFunc_api_Evidence_at_probe_Missing_1_bbbb sYIndexFunc_api_Evidence_at_probe_Missing_1_bbbb
 generalize hf:(A2 c.Sets c.Sets.length:Int)=f
 have hg:∀j,(hj:j < c.Replicas.length)→(c.Replicas.getD j default).Generation < c.Sets.length:=fun j hj=>by rw[WH hj];exact(h.gen _ (List.getElem_mem hj)).2
 have:=Kv (body:=sYIndexFunc_api_Evidence_at_probe_Missing_1_bbbb_l0 (evs c)) (fun j=>((j:Int),(i:Int),true,f,c.Fence,c.Sets,c.Replicas,c.Snapshots)) (evs c).length (fun j=>decide (j=i)&&Eu c i)
  (fun j=>.inr ((j:Int),(i:Int),true,f,⟨c.Fence,c.Sets,c.Replicas,c.Snapshots⟩)) (.inl ((i:Int),true,f,c.Fence,c.Sets,c.Replicas,c.Snapshots)) (fun j hj=>by
  have hj':j < c.Replicas.length:=by rw[Lk] at hj;exact hj
  unfold sYIndexFunc_api_Evidence_at_probe_Missing_1_bbbb_l0 probe_Missing_1_cbbbb
  rw[if_pos (by simpa using hj),Cy hj,O2 hj,w64 (by omega) (by omega)]
  simp only[Option.bind_some]
  have e:((Hh c j).Replica==(i:Int)&&((Hh c j).Refused&&(true&&(decide (f≤(Hh c j).Generation)&&decide ((Hh c j).Generation < (c.Sets.length:Int))))))=(decide (j=i)&&Eu c i):=by
   by_cases hji:j=i
   ·subst hji
    unfold Hh Eu
    rw[hf,decide_eq_true (hg j hj')]
    simp
   ·rw[decide_eq_false hji]
    simp only[Hh,Bool.false_and]
    rw[show (((j:Int))==(i:Int))=false from by simpa using (by omega:¬(j:Int)=(i:Int))]
    rfl
  rw[e]
  split <;> simp_all) (by unfold sYIndexFunc_api_Evidence_at_probe_Missing_1_bbbb_l0;rw[if_neg (by simp)])
 rw[show iter (sYIndexFunc_api_Evidence_at_probe_Missing_1_bbbb_l0 (evs c)) (0,(i:Int),true,f,c.Fence,c.Sets,c.Replicas,c.Snapshots)=_ from this]
 cases hgd:Eu c i with
 |false=>
  have:(List.range (evs c).length).find? (fun j=>decide (j=i)&&false)=none:=List.find?_eq_none.2 (fun x _=>by simp)
  rw[this]
  rfl
 |true=>
  cases hfd:(List.range (evs c).length).find? (fun j=>decide (j=i)&&true) with
  |none=>
   have:=List.find?_eq_none.1 hfd i (by rw[Lk];simpa using hi)
   simp at this
  |some j=>
   simp only[Option.elim,Option.bind_some]
   simp
def Do (c:AA) (n:Nat):List Int:=((List.range n).filter fun i=>!Eu c i).map fun (i:Nat)=>(i:Int)
theorem J6 {c:AA} (h:VC c) (hn:FU c.Sets (Bt c.Sets:Int)=false):probe_Missing c (evs c)=some (Do c c.Replicas.length):=by
 have h1:=h.r
 unfold probe_Missing
 rw[CC h]
 simp only[Option.bind_some]
 rw[if_neg (by decide),(Mt h hn).1]
 simp only[Option.bind_some]
 have:=Bd (body:=probe_Missing_l0 c (evs c)) (fun i=>((i:Int),c.Fence,c.Sets,c.Replicas,c.Snapshots,(A2 c.Sets c.Sets.length:Int),true,Do c i)) c.Replicas.length (Do c c.Replicas.length) (fun i hi=>by
  have hlen:(Do c i).length≤i:=by unfold Do;rw[List.length_map];exact Nat.le_trans (List.length_filter_le _ _) (by simp)
  unfold probe_Missing_l0
  rw[if_pos (by simpa using hi),w64 (by omega) (by omega)]
  obtain⟨y,y1,y2⟩:=Sl h hi
  rw[y1,y2]
  simp only[Option.bind_some]
  cases hg:Eu c i with
  |true=>
   rw[if_neg (by decide)]
   simp[Do,List.range_succ,hg]
  |false=>
   rw[if_pos (by decide),Cn (by simp only[List.length_cons,List.length_nil];omega)]
   simp[Do,List.range_succ,hg]) (by unfold probe_Missing_l0;rw[if_neg (by simp)])
 rw[show iter (probe_Missing_l0 c (evs c)) (0,c.Fence,c.Sets,c.Replicas,c.Snapshots,(A2 c.Sets c.Sets.length:Int),true,[])=_ from this]
 rfl
end Go.Vl
namespace Go.Vl
open Go Go.Proofs
theorem Hi {S:List Int} (h:1≤S.length):(S.length:Int) - 1=(Bt S:Int):=by unfold Bt;omega
theorem O3 {c:AA} (h:VC c) (hn:FU c.Sets (Bt c.Sets:Int)=false) (hno:∀x∈c.Replicas,J4 c.Sets x=false):cluster_Dead c 1=some true:=by
 have h2:=h.s
 unfold cluster_Dead
 rw[CC h]
 simp only[Option.bind_some]
 rw[if_pos (by decide)]
 unfold cluster_asked
 simp only[Option.bind_some]
 rw[if_pos (by decide),w64 (by omega) (by omega),Hi h2.1,N0 ⟨by omega,by unfold Bt;omega⟩,hn]
 simp only[Option.bind_some]
 rw[if_pos (by decide),O1 h hno]
 rfl
theorem N4 {c:AA} (h:VC c) (hf:c.Fence=true) (hn:FU c.Sets (Bt c.Sets:Int)=false) (hno:∀x∈c.Replicas,J4 c.Sets x=false):cluster_Revives c 1=some ([],false):=by
 have h2:=h.s
 unfold cluster_Revives
 rw[CC h]
 simp only[Option.bind_some]
 rw[if_neg (by decide)]
 unfold cluster_asked
 simp only[Option.bind_some]
 rw[if_neg (by decide),O1 h hno]
 simp only[Option.bind_some]
 rw[if_neg (by decide),w64 (by omega) (by omega),Hi h2.1,N0 ⟨by omega,by unfold Bt;omega⟩,hn]
 simp only[Option.bind_some]
 rw[if_neg (by decide),if_pos hf]
theorem Sm {c:AA} (h:VC c) (hg:∀x∈c.Replicas,(A2 c.Sets c.Sets.length:Int)≤x.Generation):∀x∈c.Replicas,J4 c.Sets x=false:=fun x hx=>by
 have h1:=h.gen x hx
 have h2:=hg x hx
 have h3:=Kx c.Sets c.Sets.length x.Generation.toNat (by omega) (by omega)
 rw[Int.toNat_of_nonneg h1.1] at h3
 unfold J4
 rw[h3,Bool.and_false]
theorem Sn {c:AA} {n i:Nat} (hi:i < n) (hg:Eu c i=false):(i:Int)∈Do c n:=by
 unfold Do
 exact List.mem_map.2 ⟨i,List.mem_filter.2 ⟨by simpa using hi,by rw[hg];rfl⟩,rfl⟩
theorem WI {c:AA} {n:Nat} {x:Int} (hx:x∈Do c n):0≤x∧x < n:=by
 unfold Do at hx
 obtain⟨i,hi,rfl⟩:=List.mem_map.1 hx
 have:=(List.mem_filter.1 hi).1
 simp at this
 omega
theorem Sp {c:AA} (h:VC c) (hg:∀x∈c.Replicas,(A2 c.Sets c.Sets.length:Int)≤x.Generation):Do c c.Replicas.length=[]:=by
 unfold Do
 rw[List.map_eq_nil_iff,List.filter_eq_nil_iff]
 intro i hi
 simp at hi
 have hm:=List.getElem_mem hi
 unfold Eu
 rw[WH hi,Sm h hg _ hm,decide_eq_true (hg _ hm)]
 simp
theorem Px {S N:List Int} {R:List AC} (hV:VC ⟨true,S,R,N⟩) {M:List Int} (hM:∀x∈M,0≤x∧x < R.length) (hl:M.length≤1000) (hnew:A2 S S.length≤Bt S) (hg:∀i,(hi:i < R.length)→(A2 S S.length:Int)≤R[i].Generation∨(i:Int)∈M):
  ∃R',iter (top_TopDead_l2 M) (0,true,S,R,N)=some (.inl (true,S,R',N))∧VC ⟨true,S,R',N⟩∧∀x∈R',(A2 S S.length:Int)≤x.Generation:=by
 have hs:=hV.s
 simp only at hs
 have key:∃e,iter (top_TopDead_l2 M) (0,true,S,R,N)=some e∧∃R',e=.inl (true,S,R',N)∧VC ⟨true,S,R',N⟩∧∀x∈R',(A2 S S.length:Int)≤x.Generation:=by
  refine IW (body:=top_TopDead_l2 M) (fun s=>∃(k:Nat) (R':List AC),s=((k:Int),true,S,R',N)∧k≤M.length∧VC ⟨true,S,R',N⟩∧R'.length=R.length∧∀i,(hi:i < R'.length)→(A2 S S.length:Int)≤R'[i].Generation∨(i:Int)∈M.drop k) (fun s=>M.length - s.1.toNat) _ ?_ ⟨0,R,rfl,Nat.zero_le _,hV,rfl,by simpa using hg⟩
  rintro _ ⟨k,R',rfl,hk,hv,hlen,hgd⟩
  unfold top_TopDead_l2
  simp only
  by_cases hlt:k < M.length
  ·left
   have hm:=hM _ (List.getElem_mem hlt)
   rw[if_pos (by simpa using hlt),Cy hlt,w64 (by omega) (by omega)]
   simp only[Option.bind_some]
   rw[Yv hv (r:=M[k]) (by simp only;omega)]
   simp only[Option.bind_some]
   rw[if_neg (by decide)]
   refine⟨_,rfl,⟨k+1,R'.set M[k].toNat ⟨(S.length:Int) - 1,true⟩,rfl,by omega,hv.put ⟨by simp only;omega,by simp only;omega⟩,by simpa using hlen,fun i hi=>?_⟩,by simp only;omega⟩
   have hi':i < R'.length:=by simpa using hi
   rw[List.getElem_set]
   split
   ·left
    simp only
    rw[Hi hs.1]
    omega
   ·rename_i hne
    rcases hgd i hi' with h1 |h1
    ·exact .inl h1
    ·right
     rw[List.drop_eq_getElem_cons hlt] at h1
     rcases List.mem_cons.1 h1 with h1 |h1
     ·exact absurd (by rw[← h1];simp) hne
     ·exact h1
  ·right
   rw[if_neg (by simpa using hlt)]
   refine⟨_,rfl,R',rfl,hv,fun x hx=>?_⟩
   obtain⟨i,hi,rfl⟩:=List.getElem_of_mem hx
   rcases hgd i hi with h1 |h1
   ·exact h1
   ·rw[List.drop_eq_nil_of_le (by omega)] at h1
    cases h1
 obtain⟨e,e1,R',rfl,e2,e3⟩:=key
 exact⟨R',e1,e2,e3⟩
theorem rounds {S N:List Int} {R:List AC} (hV:VC ⟨true,S,R,N⟩) (hn:FU S (Bt S:Int)=false):
  ∃R',iter top_TopDead_l0 (0,true,S,R,N)=some (.inl (true,S,R',N))∧VC ⟨true,S,R',N⟩∧∀x∈R',(A2 S S.length:Int)≤x.Generation:=by
 have key:∃e,iter top_TopDead_l0 (0,true,S,R,N)=some e∧∃R',e=.inl (true,S,R',N)∧VC ⟨true,S,R',N⟩∧∀x∈R',(A2 S S.length:Int)≤x.Generation:=by
  refine IW (body:=top_TopDead_l0) (fun s=>∃(k:Nat) (R':List AC),s=((k:Int),true,S,R',N)∧k≤2∧VC ⟨true,S,R',N⟩∧(0 < k→∀x∈R',(A2 S S.length:Int)≤x.Generation)) (fun s=>2 - s.1.toNat) _ ?_ ⟨0,R,rfl,by omega,hV,fun h=>by omega⟩
  rintro _ ⟨k,R',rfl,hk,hv,hgd⟩
  unfold top_TopDead_l0
  simp only
  by_cases hlt:k < 2
  ·left
   have hr:=hv.r
   simp only at hr
   rw[if_pos (by simp;omega),Sj hv,w64 (by omega) (by omega)]
   simp only[Option.bind_some]
   rw[if_neg (by decide),Sk hv]
   simp only[Option.bind_some]
   rw[if_neg (by decide),J6 hv hn]
   simp only[Option.bind_some]
   obtain⟨R2,q1,q2,q3⟩:=Px hv (M:=Do ⟨true,S,R',N⟩ R'.length) (fun x hx=>WI hx) (by
    unfold Do
    rw[List.length_map]
    exact Nat.le_trans (List.length_filter_le _ _) (by simp;omega)) (Mt hv hn).2 (fun i hi=>by
    by_cases hg:Eu ⟨true,S,R',N⟩ i=false
    ·exact .inr (Sn hi hg)
    ·left
     have hg':Eu ⟨true,S,R',N⟩ i=true:=by simpa using hg
     unfold Eu at hg'
     simp only[Bool.and_eq_true,decide_eq_true_eq] at hg'
     have:=hg'.2
     rw[WH (c:=⟨true,S,R',N⟩) hi] at this
     exact this)
   rw[q1]
   exact⟨_,rfl,⟨k+1,R2,by simp,by omega,q2,fun _=>q3⟩,by simp only;omega⟩
  ·right
   rw[if_neg (by simp;omega)]
   exact⟨_,rfl,R',rfl,hv,hgd (by omega)⟩
 obtain⟨e,e1,R',rfl,e2,e3⟩:=key
 exact⟨R',e1,e2,e3⟩
theorem Sq {S N:List Int} {R:List AC} (hV:VC ⟨true,S,R,N⟩) (hn:FU S (Bt S:Int)=false) (hno:∀x∈R,J4 S x=false) {m:zT} (hm:C1 m):
  iter (top_TopDead_l1 (true,S,R,N)) (0,m.L,m.at_)=some (.inl ()):=by
 have h1:=hV.r;have h3:=hV.n
 simp only at h1 h3
 have key:∃e,iter (top_TopDead_l1 (true,S,R,N)) (0,m.L,m.at_)=some e∧e=.inl ():=by
  refine IW (body:=top_TopDead_l1 (true,S,R,N)) (fun s=>∃(k:Nat) (t:zT),s=((k:Int),t.L,t.at_)∧C1 t∧k≤N.length) (fun s=>N.length - s.1.toNat) _ ?_ ⟨0,m,rfl,hm,Nat.zero_le _⟩
  rintro _ ⟨k,t,rfl,ht,hk⟩
  unfold top_TopDead_l1
  simp only
  by_cases hlt:k < N.length
  ·left
   have hb:=Cd t (n:=(R.length:Int)) (by omega)
   rw[if_pos (by simpa using hlt),show(⟨t.L,t.at_⟩:zT)=t from rfl,DC ht (by omega),w64 (by omega) (by omega)]
   simp only[Option.bind_some]
   have ht':=Bp ht
   generalize CY t (R.length:Int)=r at *
   generalize C2 t=t' at *
   rw[Yw hV (r:=r) (s:=(k:Int)) hb (by simp only;omega)]
   simp only[Option.bind_some]
   simp only[Int.toNat_natCast]
   rw[if_neg (by decide)]
   have hv2:=hV.put (r:=r.toNat) (x:=⟨N[k],!true⟩) (hV.snap _ (List.getElem_mem hlt))
   rw[O3 (c:=⟨true,S,R.set r.toNat ⟨N[k],!true⟩,N⟩) hv2 hn (fun x hx=>by
    rcases List.mem_or_eq_of_mem_set hx with hx |rfl
    ·exact hno x hx
    ·rfl)]
   simp only[Option.bind_some]
   rw[if_neg (by decide)]
   exact⟨_,rfl,⟨k+1,t',by simp,ht',by omega⟩,by simp only;omega⟩
  ·right
   rw[if_neg (by simpa using hlt)]
   exact⟨_,rfl,rfl⟩
 obtain⟨e,e1,rfl⟩:=key
 exact e1
theorem Mu (a0:List Int):top_TopDead a0=some true:=by
 unfold top_TopDead
 by_cases hlen:400 < (a0.length:Int)
 ·rw[if_pos (by simpa using hlen)];rfl
 rw[if_neg (by simpa using hlen)]
 have h0:C1 ⟨a0,0⟩:=⟨by simp,by simp only;omega⟩
 obtain⟨c,m1,e1,h1,hc,hs,hsn⟩:=Ms h0
 rw[e1]
 simp only[Option.bind_some]
 rw[Yu (hc.fence true) (by simp only;omega)]
 simp only[Option.bind_some]
 rw[if_neg (by decide)]
 have hV:=(hc.fence true).pub (x:=2) (by decide) (by simp only;omega)
 simp only at hV
 have hn:FU (c.Sets++[2]) (Bt (c.Sets++[2]):Int)=false:=by
  have e:Bt (c.Sets++[2])=c.Sets.length:=by simp[Bt]
  have e2:((c.Sets++[2]:List Int)).getD c.Sets.length 0=(2:Int):=by simp[List.getD]
  unfold FU
  rw[e,Int.toNat_natCast,e2]
  decide
 obtain⟨R,r1,r2,r3⟩:=rounds hV hn
 rw[r1]
 simp only[Option.bind_some]
 have hno:=Sm r2 r3
 have hr:=r2.r
 simp only at hr hno
 rw[Sj r2]
 simp only[Option.bind_some]
 rw[if_neg (by decide),if_neg (by rw[beq_iff_eq];omega)]
 have hen:probe_Enough ⟨true,c.Sets++[2],R,c.Snapshots⟩ (evs ⟨true,c.Sets++[2],R,c.Snapshots⟩)=some true:=by
  unfold probe_Enough
  rw[CC r2]
  simp only[Option.bind_some]
  rw[if_pos (by decide),J6 r2 hn,Sp r2 r3]
  rfl
 rw[hen]
 simp only[Option.bind_some]
 rw[if_neg (by decide),O3 r2 hn hno]
 simp only[Option.bind_some]
 rw[if_neg (by decide),N4 r2 rfl hn hno]
 simp only[Option.bind_some]
 rw[if_neg (by decide),Sq r2 hn hno h1]
 rfl
end Go.Vl
