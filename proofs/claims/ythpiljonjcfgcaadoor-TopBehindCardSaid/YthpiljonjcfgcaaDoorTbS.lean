/- Plain laws of rights: the tape, what is made, what is checked. Conditions: none. -/
import Derived.Test.YthpiljonjcfgcaaDoorKBx
import Derived.Test.YthpiljonjcfgcaaDoorPlG
import Derived.Test.YthpiljonjcfgcaaDoorKAx
set_option linter.unusedSimpArgs false
set_option linter.unusedVariables false
namespace Go.Vl
open Go
theorem bAnd16T {x:Int}:bAnd .i64 x 65535=x % 65536:=by
 have e:(BitVec.ofInt 64 x &&& BitVec.ofInt 64 65535).toNat=(x % 65536).toNat:=by
  have h1:(BitVec.ofInt 64 65535)=BitVec.ofNat 64 (2 ^ 16 - 1):=by decide
  rw[h1,BitVec.toNat_and]
  have h2:(BitVec.ofNat 64 (2 ^ 16 - 1)).toNat=2 ^ 16 - 1:=by decide
  rw[h2,Nat.and_two_pow_sub_one_eq_mod,BitVec.toNat_ofInt]
  omega
 unfold bAnd
 have hb:IntKind.i64.bits=64:=rfl
 rw[hb,e,w64 (by omega) (by omega)]
 omega
abbrev TOk (m:zT):Prop:=0≤m.at_∧m.at_≤m.L.length∧m.L.length≤1000000
theorem next_ex {m:zT} (h:TOk m) {n:Int} (hn:0 < n):∃v m',zT_Next m n=some (v,m')∧0≤v∧v < n∧TOk m':=by
 obtain⟨h1,h2,h3⟩:=h
 unfold zT_Next
 by_cases hb:(m.L.length:Int)≤m.at_
 ·rw[if_pos (by simpa using hb)]
  exact⟨0,m,rfl,by omega,hn,h1,h2,h3⟩
 ·rw[if_neg (by simpa using hb),idx_toNat h1 (by omega)]
  simp only[Option.bind_some,ck_t (show n≠0 by omega),bAnd16T]
  rw[Int.tmod_eq_emod_of_nonneg (Int.emod_nonneg _ (by omega)),w64 (by omega) (by omega)]
  exact⟨_,_,rfl,Int.emod_nonneg _ (by omega),Int.emod_lt_of_pos _ hn,by simp;omega,by simp;omega,h3⟩
theorem between_ex {m:zT} (h:TOk m) {a b:Int} (hab:a≤b) (ha: -1000000≤a) (hb:b≤1000000):∃v m',zT_Between m a b=some (v,m')∧a≤v∧v≤b∧TOk m':=by
 unfold zT_Between
 rw[w64 (x:=b - a) (by omega) (by omega),w64 (x:=b - a+1) (by omega) (by omega)]
 obtain⟨v,m',h1,h2,h3,h4⟩:=next_ex h (n:=b - a+1) (by omega)
 rw[h1]
 simp only[Option.bind_some]
 rw[w64 (by omega) (by omega)]
 exact⟨_,_,rfl,by omega,by omega,h4⟩
structure VR (x:api_Rights):Prop where
 c:1≤x.Credentials∧x.Credentials≤24
 r:1≤x.Resources∧x.Resources≤24
 ln:x.Grants.length≤100∧x.Stores.length≤100∧x.Mints.length≤100
 g:∀g∈x.Grants,(0≤g.Credential∧g.Credential < x.Credentials)∧(0≤g.Resource∧g.Resource < x.Resources)∧1≤g.Right∧g.Right≤3
 s:∀s∈x.Stores,(0≤s.Credential∧s.Credential < x.Credentials)∧(0≤s.Resource∧s.Resource < x.Resources)
 m:∀m∈x.Mints,(0≤m.From∧m.From < x.Credentials)∧(0≤m.To∧m.To < x.Credentials)
theorem among_sp (a b c:Int):rights_among a b c=some (decide (b≤a)&&decide (a≤c)):=rfl
theorem cred_sp {x:api_Rights} (h:VR x) (c:Int):rights_credential x c=some (decide (0≤c∧c < x.Credentials)):=by
 unfold rights_credential
 have:=h.c
 rw[among_sp,w64 (by omega) (by omega)]
 simp only[Option.bind_some,←Bool.decide_and]
 congr 1
 exact decide_eq_decide.2 (by omega)
theorem res_sp {x:api_Rights} (h:VR x) (c:Int):rights_resource x c=some (decide (0≤c∧c < x.Resources)):=by
 unfold rights_resource
 have:=h.r
 rw[among_sp,w64 (by omega) (by omega)]
 simp only[Option.bind_some,←Bool.decide_and]
 congr 1
 exact decide_eq_decide.2 (by omega)
theorem iter_none {σ:Type} {ε:Type} {body:Int×σ→Option (Lp (Int×σ) ε)} {n:Nat} {s:σ} {e:ε} (hgo:∀i:Nat,i < n→body ((i:Int),s)=some (.go (((i+1:Nat):Int),s))) (hend:body ((n:Int),s)=some (.out e)):iter body (0,s)=some e:=by
 have key:∀(m i:Nat),i+m=n→iter body ((i:Int),s)=some e:=fun m=>by
  induction m with
  |zero=>
   intro i h
   have:i=n:=by omega
   subst this
   exact iter_out hend
  |succ m ih=>
   intro i h
   rw[iter_go (hgo i (by omega))]
   exact ih (i+1) (by omega)
 exact key n 0 (by omega)
theorem check_sp {x:api_Rights} (h:VR x):rights_Check x=some 0:=by
 obtain⟨hc1,hc2⟩:=h.c
 obtain⟨hr1,hr2⟩:=h.r
 obtain⟨l1,l2,l3⟩:=h.ln
 have w1:∀i:Nat,i < 100→IntKind.i64.wrap ((i:Int)+1)=((i+1:Nat):Int):=fun i hi=>by rw[w64 (by omega) (by omega)];omega
 have c1:sYContainsFunc_api_Grant_at_rights_Check_1_b x.Grants x=some (false,x):=by
  unfold sYContainsFunc_api_Grant_at_rights_Check_1_b sYIndexFunc_api_Grant_at_rights_Check_1_b
  rw[iter_none (n:=x.Grants.length) (e:=.inl (x.Credentials,x.Resources,x.Grants,x.Stores,x.Mints)) (fun i hi=>?_) ?_]
  ·rfl
  ·unfold sYIndexFunc_api_Grant_at_rights_Check_1_b_l0
   simp
  ·unfold sYIndexFunc_api_Grant_at_rights_Check_1_b_l0
   obtain⟨g1,g2,g3⟩:=h.g _ (List.getElem_mem hi)
   simp only[show ((i:Int) < (x.Grants.length:Int)) from by omega,decide_true,if_true,idx_lt hi,Option.bind_some]
   have:rights_Check_1_cb x.Grants[i] x=some (false,x):=by
    unfold rights_Check_1_cb
    rw[cred_sp h,res_sp h,among_sp]
    simp[g1,g2,g3]
   rw[this]
   simp[w1 i (by omega)]
 have c2:sYContainsFunc_api_Store_at_rights_Check_2_b x.Stores x=some (false,x):=by
  unfold sYContainsFunc_api_Store_at_rights_Check_2_b sYIndexFunc_api_Store_at_rights_Check_2_b
  rw[iter_none (n:=x.Stores.length) (e:=.inl (x.Credentials,x.Resources,x.Grants,x.Stores,x.Mints)) (fun i hi=>?_) ?_]
  ·rfl
  ·unfold sYIndexFunc_api_Store_at_rights_Check_2_b_l0
   simp
  ·unfold sYIndexFunc_api_Store_at_rights_Check_2_b_l0
   obtain⟨g1,g2⟩:=h.s _ (List.getElem_mem hi)
   simp only[show ((i:Int) < (x.Stores.length:Int)) from by omega,decide_true,if_true,idx_lt hi,Option.bind_some]
   have:rights_Check_2_cb x.Stores[i] x=some (false,x):=by
    unfold rights_Check_2_cb
    rw[cred_sp h,res_sp h]
    simp[g1,g2]
   rw[this]
   simp[w1 i (by omega)]
 have c3:sYContainsFunc_api_Mint_at_rights_Check_3_b x.Mints x=some (false,x):=by
  unfold sYContainsFunc_api_Mint_at_rights_Check_3_b sYIndexFunc_api_Mint_at_rights_Check_3_b
  rw[iter_none (n:=x.Mints.length) (e:=.inl (x.Credentials,x.Resources,x.Grants,x.Stores,x.Mints)) (fun i hi=>?_) ?_]
  ·rfl
  ·unfold sYIndexFunc_api_Mint_at_rights_Check_3_b_l0
   simp
  ·unfold sYIndexFunc_api_Mint_at_rights_Check_3_b_l0
   obtain⟨g1,g2⟩:=h.m _ (List.getElem_mem hi)
   simp only[show ((i:Int) < (x.Mints.length:Int)) from by omega,decide_true,if_true,idx_lt hi,Option.bind_some]
   have:rights_Check_3_cb x.Mints[i] x=some (false,x):=by
    unfold rights_Check_3_cb
    rw[cred_sp h,cred_sp h]
    simp[g1,g2]
   rw[this]
   simp[w1 i (by omega)]
 unfold rights_Check
 rw[among_sp,among_sp]
 simp only[Option.bind_some,show decide ((0:Int)≤x.Credentials)=true from by simpa using by omega,show decide (x.Credentials≤24)=true from by simpa using hc2,show decide ((0:Int)≤x.Resources)=true from by simpa using by omega,show decide (x.Resources≤24)=true from by simpa using hr2,Bool.and_self,Bool.not_true,Bool.false_eq_true,if_false,
  show decide (100 < (x.Grants.length:Int))=false from by simpa using by omega,show decide (100 < (x.Stores.length:Int))=false from by simpa using by omega,show decide (100 < (x.Mints.length:Int))=false from by simpa using by omega,Bool.or_self,c1,c2,c3]
end Go.Vl
namespace Go.Vl
open Go
theorem follow_mint {x:api_Rights} (h:VR x) {c:Int} {k:Nat} (hk:k < x.Mints.length) (hc:x.Mints[k].From=c):rights_follow x c ⟨2, -1, -1,(k:Int)⟩=some (x.Mints[k].To,true):=by
 obtain⟨l1,l2,l3⟩:=h.ln
 unfold rights_follow
 have hw:IntKind.i64.wrap ((x.Mints.length:Int) - 1)=(x.Mints.length:Int) - 1:=w64 (by omega) (by omega)
 simp[among_sp,hw,idx_lt hk,hc,show(k:Int)≤(x.Mints.length:Int) - 1 from by omega]
theorem follow_store {x:api_Rights} (h:VR x) {c:Int} {i k:Nat} (hi:i < x.Grants.length) (hk:k < x.Stores.length) (hc:x.Grants[i].Credential=c) (hr:x.Stores[k].Resource=x.Grants[i].Resource):rights_follow x c ⟨1,(i:Int),(k:Int), -1⟩=some (x.Stores[k].Credential,true):=by
 obtain⟨l1,l2,l3⟩:=h.ln
 unfold rights_follow
 have hw:IntKind.i64.wrap ((x.Grants.length:Int) - 1)=(x.Grants.length:Int) - 1:=w64 (by omega) (by omega)
 have hw2:IntKind.i64.wrap ((x.Stores.length:Int) - 1)=(x.Stores.length:Int) - 1:=w64 (by omega) (by omega)
 simp[among_sp,hw,hw2,idx_lt hi,idx_lt hk,hc,hr,show(i:Int)≤(x.Grants.length:Int) - 1 from by omega,show(k:Int)≤(x.Stores.length:Int) - 1 from by omega]
def GL (x:api_Rights) (c:Int) (l:api_Link):Prop:=∃to,rights_follow x c l=some (to,true)∧0≤to∧to < x.Credentials
theorem links_ex {x:api_Rights} (h:VR x) (c:Int):∃ls,rights_links x c=some ls∧ls.length≤10100∧∀l∈ls,GL x c l:=by
 obtain⟨l1,l2,l3⟩:=h.ln
 unfold rights_links
 have s0:∃e,iter (rights_links_l0 x c) (0,[])=some e∧(e.length≤100∧∀l∈e,GL x c l):=by
  refine iter_ex (fun s:Int×List api_Link=>0≤s.1∧s.1≤x.Mints.length∧(s.2.length:Int)≤s.1∧∀l∈s.2,GL x c l) (fun s=>x.Mints.length - s.1.toNat) _ (fun s hs=>?_) (by simp)
  obtain⟨i,out⟩:=s
  obtain⟨h1,h2,h3,h4⟩:=hs
  dsimp only at h1 h2 h3 h4
  unfold rights_links_l0
  by_cases hi:i < (x.Mints.length:Int)
  ·left
   have hk:i.toNat < x.Mints.length:=by omega
   have hw:IntKind.i64.wrap (i+1)=i+1:=w64 (by omega) (by omega)
   simp only[hi,decide_true,if_true,idx_toNat h1 hk,Option.bind_some,hw]
   by_cases hf:x.Mints[i.toNat].From=c
   ·rw[if_pos (by simpa using hf),ck_t (by simp;omega)]
    refine⟨_,rfl,⟨by simp;omega,by simp;omega,by simp;omega,fun l hl=>?_⟩,by simp;omega⟩
    rcases List.mem_append.1 hl with hl |hl
    ·exact h4 l hl
    ·have hf2:=follow_mint h hk hf
     rw[Int.toNat_of_nonneg h1] at hf2
     rw[List.mem_singleton.1 hl]
     exact⟨_,hf2,(h.m _ (List.getElem_mem hk)).2⟩
   ·rw[if_neg (by simpa using hf)]
    exact⟨_,rfl,⟨by simp;omega,by simp;omega,by simp;omega,h4⟩,by simp;omega⟩
  ·right
   rw[if_neg (by simpa using hi)]
   exact⟨_,rfl,by dsimp only;omega,h4⟩
 obtain⟨e,e1,e2,e3⟩:=s0
 rw[e1]
 simp only[Option.bind_some]
 have s1:∃e',iter (rights_links_l1 x c) (0,e)=some e'∧(e'.length≤10100∧∀l∈e',GL x c l):=by
  refine iter_ex (fun s:Int×List api_Link=>0≤s.1∧s.1≤x.Grants.length∧(s.2.length:Int)≤100+100 * s.1∧∀l∈s.2,GL x c l) (fun s=>x.Grants.length - s.1.toNat) _ (fun s hs=>?_) ⟨by simp,by simp,by simp;omega,e3⟩
  obtain⟨i,out⟩:=s
  obtain⟨h1,h2,h3,h4⟩:=hs
  dsimp only at h1 h2 h3 h4
  unfold rights_links_l1
  by_cases hi:i < (x.Grants.length:Int)
  ·left
   have hk:i.toNat < x.Grants.length:=by omega
   have hw:IntKind.i64.wrap (i+1)=i+1:=w64 (by omega) (by omega)
   simp only[hi,decide_true,if_true,idx_toNat h1 hk,Option.bind_some,hw]
   have s2:∃e',iter (rights_links_l2 x x.Grants[i.toNat] c (i,out)) (0,out)=some e'∧((e'.length:Int)≤200+100 * i∧∀l∈e',GL x c l):=by
    refine iter_ex (fun s:Int×List api_Link=>0≤s.1∧s.1≤x.Stores.length∧(s.2.length:Int)≤100+100 * i+s.1∧∀l∈s.2,GL x c l) (fun s=>x.Stores.length - s.1.toNat) _ (fun s hs=>?_) ⟨by simp,by simp,by simp;omega,h4⟩
    obtain⟨k,o⟩:=s
    obtain⟨k1,k2,k3,k4⟩:=hs
    dsimp only at k1 k2 k3 k4
    unfold rights_links_l2
    by_cases hj:k < (x.Stores.length:Int)
    ·left
     have hks:k.toNat < x.Stores.length:=by omega
     have hw2:IntKind.i64.wrap (k+1)=k+1:=w64 (by omega) (by omega)
     simp only[hj,decide_true,if_true,idx_toNat k1 hks,Option.bind_some,hw2]
     by_cases hf:x.Grants[i.toNat].Credential=c∧x.Stores[k.toNat].Resource=x.Grants[i.toNat].Resource
     ·rw[if_pos (by simpa using hf),ck_t (by simp;omega)]
      refine⟨_,rfl,⟨by simp;omega,by simp;omega,by simp;omega,fun l hl=>?_⟩,by simp;omega⟩
      rcases List.mem_append.1 hl with hl |hl
      ·exact k4 l hl
      ·have hf2:=follow_store h hk hks hf.1 hf.2
       rw[Int.toNat_of_nonneg h1,Int.toNat_of_nonneg k1] at hf2
       rw[List.mem_singleton.1 hl]
       exact⟨_,hf2,(h.s _ (List.getElem_mem hks)).1⟩
     ·rw[if_neg (by simpa using hf)]
      exact⟨_,rfl,⟨by simp;omega,by simp;omega,by simp;omega,k4⟩,by simp;omega⟩
    ·right
     rw[if_neg (by simpa using hj)]
     exact⟨_,rfl,by dsimp only;omega,k4⟩
   obtain⟨e',f1,f2,f3⟩:=s2
   rw[f1]
   exact⟨_,rfl,⟨by simp;omega,by simp;omega,by simp;omega,f3⟩,by simp;omega⟩
  ·right
   rw[if_neg (by simpa using hi)]
   exact⟨_,rfl,by dsimp only;omega,h4⟩
 obtain⟨e',f1,f2,f3⟩:=s1
 rw[f1]
 exact⟨_,rfl,f2,f3⟩
end Go.Vl
namespace Go.Vl
open Go
theorem nodup_lenT {α:Type}:∀{l m:List α},l.Nodup→l ⊆ m→l.length≤m.length
 |[],m,_,_=>Nat.zero_le _
 |x::l,m,hn,hs=>by
  classical
  have hx:x∈m:=hs (by simp)
  rw[List.nodup_cons] at hn
  have h1:l ⊆ m.erase x:=fun y hy=>by
   have hyx:y≠x:=fun e=>hn.1 (e▸hy)
   exact(List.mem_erase_of_ne hyx).2 (hs (List.mem_cons_of_mem _ hy))
  have:=nodup_lenT hn.2 h1
  rw[List.length_erase_of_mem hx] at this
  have:=List.length_pos_of_mem hx
  simp only[List.length_cons];omega
noncomputable def pathS (x:api_Rights):Int→List api_Link→Option Int
 |c,[]=>some c
 |c,l::t=>match rights_follow x c l with
  |some (to,true)=>pathS x to t
  |_=>none
theorem pathS_snoc {x:api_Rights}:∀{ls:List api_Link} {c q to:Int} {l:api_Link},pathS x c ls=some q→rights_follow x q l=some (to,true)→pathS x c (ls++[l])=some to
 |[],c,q,to,l,h,hf=>by
  simp[pathS] at h;subst h
  simp[pathS,hf]
 |l0::ls,c,q,to,l,h,hf=>by
  simp only[pathS,List.cons_append] at h ⊢
  split at h
  ·exact pathS_snoc h hf
  ·cases h
def DoneP (x:api_Rights) (k:Int) (S:Int→Prop):Prop:=∀ls,rights_links x k=some ls→∀l∈ls,∀to,rights_follow x k l=some (to,true)→S to
structure CI (x:api_Rights) (c:Int) (m:List (Int×List api_Link)) (queue:List Int):Prop where
 nd:(m.map (·.1)).Nodup
 rng:∀q∈m,0≤q.1∧q.1 < x.Credentials
 cin:c∈m.map (·.1)
 path:∀q∈m,pathS x c q.2=some q.1∧q.2.length < m.length
 qin:∀q∈queue,q∈m.map (·.1)
 done:∀k∈m.map (·.1),k∈queue∨DoneP x k (·∈m.map (·.1))
 ind:∀S:Int→Prop,(∀q,S q→DoneP x q S)→S c→∀k∈m.map (·.1),S k
theorem CI.len {x:api_Rights} {c:Int} {m:List (Int×List api_Link)} {queue:List Int} (h:CI x c m queue) (hx:VR x):m.length≤24:=by
 have:=hx.c
 have h1:=nodup_lenT h.nd (m:=(List.range 24).map fun n:Nat=>(n:Int)) (fun k hk=>by
  obtain⟨q,hq,rfl⟩:=List.mem_map.1 hk
  have:=h.rng q hq
  exact List.mem_map.2 ⟨q.1.toNat,List.mem_range.2 (by omega),by omega⟩)
 simpa using h1
theorem CI.add {x:api_Rights} {c:Int} {m:List (Int×List api_Link)} {queue:List Int} (h:CI x c m queue) {q:Int} {ch:List api_Link} (hq:(q,ch)∈m) {ls:List api_Link} (hls:rights_links x q=some ls) {l:api_Link} (hl:l∈ls) {to:Int} (hf:rights_follow x q l=some (to,true)) (hr:0≤to∧to < x.Credentials) (hn:to∉m.map (·.1)):CI x c (m++[(to,ch++[l])]) (queue++[to]):=by
 have hsub:∀k,k∈m.map (·.1)→k∈(m++[(to,ch++[l])]).map (·.1):=fun k hk=>by rw[List.map_append];exact List.mem_append_left _ hk
 refine⟨?_,fun p hp=>?_,hsub _ h.cin,fun p hp=>?_,fun p hp=>?_,fun k hk=>?_,fun S hS hc k hk=>?_⟩
 ·rw[List.map_append]
  refine List.nodup_append.2 ⟨h.nd,by simp,?_⟩
  intro a ha b hb
  simp at hb;subst hb
  exact fun e=>hn (e▸ha)
 ·rcases List.mem_append.1 hp with hp |hp
  ·exact h.rng p hp
  ·rw[List.mem_singleton.1 hp];exact hr
 ·have hlen:(m++[(to,ch++[l])]).length=m.length+1:=by simp
  rw[hlen]
  rcases List.mem_append.1 hp with hp |hp
  ·obtain⟨p1,p2⟩:=h.path p hp
   exact⟨p1,by omega⟩
  ·rw[List.mem_singleton.1 hp]
   obtain⟨p1,p2⟩:=h.path _ hq
   exact⟨pathS_snoc p1 hf,by simp at p2 ⊢;omega⟩
 ·rcases List.mem_append.1 hp with hp |hp
  ·exact hsub _ (h.qin p hp)
  ·rw[List.mem_singleton.1 hp];simp
 ·rw[List.map_append] at hk
  rcases List.mem_append.1 hk with hk |hk
  ·rcases h.done k hk with h1 |h1
   ·exact .inl (List.mem_append_left _ h1)
   ·exact .inr fun ls' e1 l' e2 to' e3=>hsub _ (h1 ls' e1 l' e2 to' e3)
  ·simp at hk;subst hk
   exact .inl (by simp)
 ·rw[List.map_append] at hk
  rcases List.mem_append.1 hk with hk |hk
  ·exact h.ind S hS hc k hk
  ·simp at hk;subst hk
   exact hS q (h.ind S hS hc q (List.mem_map.2 ⟨_,hq,rfl⟩)) ls hls l hl _ hf
theorem chains_ex {x:api_Rights} (hx:VR x) {c:Int} (hc:0≤c∧c < x.Credentials):∃m,rights_chains x c=some m∧CI x c m []:=by
 unfold rights_chains
 have h0:CI x c [(c,[])] [c]:=⟨by simp,by simpa using hc,by simp,by simp[pathS],by simp,by simp,fun S _ h k hk=>by simp at hk;subst hk;exact h⟩
 refine iter_ex (fun s:Nat×List (Int×List api_Link)×List Int=>CI x c s.2.1 s.2.2∧s.1+s.2.2.length=s.2.1.length) (fun s=>25 - s.1) _ (fun s hs=>?_) ⟨h0,by simp⟩
 obtain⟨k,m,queue⟩:=s
 obtain⟨h1,h2⟩:=hs
 dsimp only at h1 h2
 have hm24:=h1.len hx
 unfold rights_chains_l0
 cases queue with
 |nil=>exact .inr ⟨m,rfl,h1⟩
 |cons q rest=>
  left
  obtain⟨ls,e1,e2,e3⟩:=links_ex hx q
  dsimp only
  rw[e1]
  simp only[Option.bind_some]
  have s1:∃r,iter (rights_chains_l1 x k q ls) (0,m,q::rest)=some r∧(∃rest',r.2=q::rest'∧CI x c r.1 (q::rest')∧k+(q::rest').length=r.1.length∧DoneP x q (·∈r.1.map (·.1))):=by
   refine iter_ex (fun s:Int×List (Int×List api_Link)×List Int=>0≤s.1∧s.1≤ls.length∧∃rest',s.2.2=q::rest'∧CI x c s.2.1 (q::rest')∧k+(q::rest').length=s.2.1.length∧∀(j:Nat) (hj:j < ls.length),(j:Int) < s.1→∀to,rights_follow x q ls[j]=some (to,true)→to∈s.2.1.map (·.1)) (fun s=>ls.length - s.1.toNat) _ (fun s hs=>?_) ⟨by simp,by simp,rest,rfl,h1,h2,fun j hj h=>by simp at h;omega⟩
   obtain⟨i,m2,queue2⟩:=s
   obtain⟨i1,i2,rest',rfl,i3,i4,i5⟩:=hs
   dsimp only at i1 i2 i3 i4 i5
   have hm2:=i3.len hx
   unfold rights_chains_l1
   by_cases hi:i < (ls.length:Int)
   ·left
    have hk:i.toNat < ls.length:=by omega
    have hw:IntKind.i64.wrap (i+1)=i+1:=w64 (by omega) (by omega)
    obtain⟨to,f1,f2⟩:=e3 _ (List.getElem_mem hk)
    simp only[hi,decide_true,if_true,idx_toNat i1 hk,Option.bind_some,hw,f1]
    have hstep:∀m3:List (Int×List api_Link),(∀k,k∈m2.map (·.1)→k∈m3.map (·.1))→to∈m3.map (·.1)→∀(j:Nat) (hj:j < ls.length),(j:Int) < i+1→∀to,rights_follow x q ls[j]=some (to,true)→to∈m3.map (·.1):=fun m3 hs ht j hj hlt t2 ht2=>by
     by_cases hji:(j:Int) < i
     ·exact hs _ (i5 j hj hji t2 ht2)
     ·have:j=i.toNat:=by omega
      subst this
      rw[f1] at ht2
      simp at ht2
      exact ht2▸ht
    by_cases hf:(mget inE m2 to).isSome=true
    ·rw[if_neg (by simp[hf])]
     exact⟨_,rfl,⟨by simp;omega,by simp;omega,rest',rfl,i3,i4,hstep m2 (fun _ h=>h) ((mget_mem inE_eq).1 hf)⟩,by simp;omega⟩
    ·rw[if_pos (by simpa using hf)]
     have hqk:q∈m2.map (·.1):=i3.qin q (by simp)
     obtain⟨ch,hch⟩:=Option.isSome_iff_exists.1 ((mget_mem inE_eq).2 hqk)
     have hin:=mget_some inE_eq hch
     obtain⟨p1,p2⟩:=i3.path _ hin
     have hto:to∉m2.map (·.1):=fun h=>hf ((mget_mem inE_eq).2 h)
     have hms:=(mset_keys inE_eq m2 to (ch++[ls[i.toNat]])).2 hto
     simp only[hch,Option.getD_some]
     dsimp only at p2
     have hcl:clone_link ch=some ch:=by unfold clone_link;rw[ck_t (by omega)];rfl
     rw[hcl]
     simp only[Option.bind_some]
     rw[ck_t (by omega),ck_t (by simp at i4 ⊢;omega)]
     simp only[Option.bind_some,hms]
     have hadd:=i3.add hin e1 (List.getElem_mem hk) f1 f2 hto
     refine⟨_,rfl,⟨by simp;omega,by simp;omega,rest'++[to],rfl,hadd,by simp at i4 ⊢;omega,hstep _ (fun k h=>by rw[List.map_append];exact List.mem_append_left _ h) (by simp)⟩,by simp;omega⟩
   ·right
    rw[if_neg (by simpa using hi)]
    refine⟨_,rfl,rest',rfl,i3,i4,fun ls' g1 l hl to hto=>?_⟩
    rw[e1] at g1;cases g1
    obtain⟨j,hj,rfl⟩:=List.getElem_of_mem hl
    exact i5 j hj (by omega) to hto
  obtain⟨⟨m3,queue3⟩,f1,rest',f2,f3,f4,f5⟩:=s1
  dsimp only at f2 f3 f4 f5
  subst f2
  rw[f1]
  simp only[Option.bind_some]
  rw[ck_t (by simp)]
  have hm3:=f3.len hx
  refine⟨_,rfl,⟨⟨f3.nd,f3.rng,f3.cin,f3.path,fun p hp=>f3.qin p (List.mem_cons_of_mem _ hp),fun k hk=>?_,f3.ind⟩,by simp at f4 ⊢;omega⟩,by simp at f4 ⊢;omega⟩
  rcases f3.done k hk with h |h
  ·rcases List.mem_cons.1 h with rfl |h
   ·exact .inr f5
   ·exact .inl h
  ·exact .inr h
end Go.Vl
namespace Go.Vl
open Go
theorem contains_sp (l:List Int) (a:Int) (hl:l.length≤1000000):sYContains_int l a=some (decide (a∈l)):=by
 unfold sYContains_int sYIndex_int
 obtain⟨k1,k2⟩:=iter_findS (body:=sYIndex_int_l0 l a) l (fun y=>a==y) (fun i _=>(.inr (i:Int):Unit ⊕ Int)) (.inl ()) (fun i h=>by
  unfold sYIndex_int_l0
  have hw:IntKind.i64.wrap ((i:Int)+1)=((i+1:Nat):Int):=by rw[w64 (by omega) (by omega)];omega
  simp only[show (i:Int) < (l.length:Int) from by omega,decide_true,if_true,idx_lt h,Option.bind_some,hw]
  by_cases he:a=l[i] <;> simp[he]) (by unfold sYIndex_int_l0;simp)
 cases h:l.any (fun y=>a==y) with
 |false=>
  rw[k1 h]
  have:a∉l:=fun hm=>by
   rw[List.any_eq_false] at h
   exact h a hm (by simp)
  simp[this]
 |true=>
  obtain⟨i,hi,e1,e2⟩:=k2 h
  rw[e2]
  have:a∈l:=by
   obtain⟨y,hy,he⟩:=List.any_eq_true.1 h
   simp at he;exact he▸hy
  simp[this]
theorem asc_sp {l:List Int} (hl:l.length≤1000000) (hs:l.Pairwise (· < ·)):directory_Ascending l=some true:=by
 unfold directory_Ascending
 have h:∃e,iter (directory_Ascending_l0 l) 1=some e∧e=.inl ():=by
  refine iter_ex (fun s:Int=>1≤s∧s≤l.length+1) (fun s=>l.length+1 - s.toNat) _ (fun s hs'=>?_) (by omega)
  obtain⟨h1,h2⟩:=hs'
  unfold directory_Ascending_l0
  by_cases hi:s < (l.length:Int)
  ·left
   have hk:s.toNat < l.length:=by omega
   have hk2:(s - 1).toNat < l.length:=by omega
   rw[w64 (x:=s - 1) (by omega) (by omega),w64 (x:=s+1) (by omega) (by omega)]
   simp only[hi,decide_true,if_true,idx_toNat (show 0≤s - 1 by omega) hk2,idx_toNat (show 0≤s by omega) hk,Option.bind_some]
   have:=sorted_split hs (i:=(s - 1).toNat) (j:=s.toNat) (by omega) hk
   rw[if_neg (by simpa using this)]
   exact⟨_,rfl,by omega,by omega⟩
  ·right
   rw[if_neg (by simpa using hi)]
   exact⟨_,rfl,rfl⟩
 obtain⟨e,e1,rfl⟩:=h
 rw[e1];rfl
open Classical in
theorem closed_sp {x:api_Rights} (h:VR x) {S:List Int} (hl:S.length≤24) (hne:S≠[]) (hs:S.Pairwise (· < ·)) (hr:∀q∈S,0≤q∧q < x.Credentials):rights_Closed x S=some (decide (∀q∈S,DoneP x q (·∈S))):=by
 unfold rights_Closed
 rw[check_sp h]
 have hne':((S.length:Int)==0)=false:=by
  simp;exact hne
 have hcb:sYContainsFunc_int_at_rights_Closed_1_b S x=some (false,x):=by
  unfold sYContainsFunc_int_at_rights_Closed_1_b sYIndexFunc_int_at_rights_Closed_1_b
  have e:iter (sYIndexFunc_int_at_rights_Closed_1_b_l0 S) (0,x.Credentials,x.Resources,x.Grants,x.Stores,x.Mints)=some (.inl (x.Credentials,x.Resources,x.Grants,x.Stores,x.Mints)):=by
   refine iter_none (n:=S.length) (fun i hi=>?_) ?_
   ·unfold sYIndexFunc_int_at_rights_Closed_1_b_l0
    have hw:IntKind.i64.wrap ((i:Int)+1)=((i+1:Nat):Int):=by rw[w64 (by omega) (by omega)];omega
    have hcb1:rights_Closed_1_cb S[i] x=some (false,x):=by
     unfold rights_Closed_1_cb
     rw[cred_sp h]
     simp[hr _ (List.getElem_mem hi)]
    simp only[show (i:Int) < (S.length:Int) from by omega,decide_true,if_true,idx_lt hi,Option.bind_some,hcb1,hw]
    rfl
   ·unfold sYIndexFunc_int_at_rights_Closed_1_b_l0
    simp
  rw[e];rfl
 simp only[Option.bind_some,hne',asc_sp (by omega) hs,hcb,show((0:Int) != 0)=false from rfl,Bool.false_eq_true,if_false,Bool.not_true]
 have inner:∀q∈S,∀ls,rights_links x q=some ls→iter (rights_Closed_l1 ls (false,x.Credentials,x.Resources,x.Grants,x.Stores,x.Mints) q S) 0=some (if DoneP x q (·∈S) then .inl () else .inr false):=fun q hq ls hls=>by
  obtain⟨ls',e1,e2,e3⟩:=links_ex h q
  rw[e1] at hls;cases hls
  have hall:=iter_all (body:=rights_Closed_l1 ls (false,x.Credentials,x.Resources,x.Grants,x.Stores,x.Mints) q S) ls.length (fun j=>decide (∀to,(∃l,ls[j]? =some l∧rights_follow x q l=some (to,true))→to∈S)) (fun i hi=>by
   unfold rights_Closed_l1
   obtain⟨to,f1,f2⟩:=e3 _ (List.getElem_mem hi)
   have hw:IntKind.i64.wrap ((i:Int)+1)=((i+1:Nat):Int):=by rw[w64 (by omega) (by omega)];omega
   simp only[show (i:Int) < (ls.length:Int) from by omega,decide_true,if_true,idx_lt hi,Option.bind_some,f1,contains_sp S to (by omega),hw]
   have hiff:(∀to',(∃l,ls[i]? =some l∧rights_follow x q l=some (to',true))→to'∈S)↔to∈S:=by
    constructor
    ·intro hh;exact hh to ⟨ls[i],List.getElem?_eq_getElem hi,f1⟩
    ·rintro hh to' ⟨l,g1,g2⟩
     rw[List.getElem?_eq_getElem hi] at g1;cases g1
     rw[f1] at g2;simp at g2;exact g2▸hh
   by_cases hm:to∈S
   ·rw[if_neg (by simp[hm]),if_pos (by simpa using hiff.2 hm)]
   ·rw[if_pos (by simp[hm]),if_neg (by simpa using fun hh=>hm (hiff.1 hh))]) (by unfold rights_Closed_l1;simp)
  rw[hall]
  congr 1
  have hiff:(∀i,i < ls.length→decide (∀to,(∃l,ls[i]? =some l∧rights_follow x q l=some (to,true))→to∈S)=true)↔DoneP x q (·∈S):=by
   constructor
   ·intro hh ls' g1 l hl to hto
    rw[e1] at g1;cases g1
    obtain⟨j,hj,rfl⟩:=List.getElem_of_mem hl
    exact of_decide_eq_true (hh j hj) to ⟨_,List.getElem?_eq_getElem hj,hto⟩
   ·intro hh i hi
    refine decide_eq_true fun to ⟨l,g1,g2⟩=>hh ls e1 l (List.mem_of_getElem? g1) to g2
  by_cases hd:DoneP x q (·∈S)
  ·rw[if_pos hd,if_pos (hiff.2 hd)]
  ·rw[if_neg hd,if_neg (fun hh=>hd (hiff.1 hh))]
 have hall:=iter_all (body:=rights_Closed_l0 S (false,x.Credentials,x.Resources,x.Grants,x.Stores,x.Mints)) S.length (fun j=>decide (∀q,S[j]? =some q→DoneP x q (·∈S))) (fun i hi=>by
  unfold rights_Closed_l0
  obtain⟨ls,e1,e2,e3⟩:=links_ex h S[i]
  have hw:IntKind.i64.wrap ((i:Int)+1)=((i+1:Nat):Int):=by rw[w64 (by omega) (by omega)];omega
  simp only[show (i:Int) < (S.length:Int) from by omega,decide_true,if_true,idx_lt hi,Option.bind_some,e1,inner _ (List.getElem_mem hi) ls e1,hw]
  by_cases hd:DoneP x S[i] (·∈S)
  ·rw[if_pos hd,if_pos (decide_eq_true fun q hq=>by rw[List.getElem?_eq_getElem hi] at hq;cases hq;exact hd)]
  ·rw[if_neg hd,if_neg (by
    simp only[decide_eq_true_eq]
    exact fun hh=>hd (hh _ (List.getElem?_eq_getElem hi)))]) (by unfold rights_Closed_l0;simp)
 rw[hall]
 have hiff:(∀(i:Nat),i < S.length→decide (∀(q:Int),S[i]? =some q→DoneP x q fun x=>x∈S)=true)↔∀q∈S,DoneP x q (·∈S):=by
  constructor
  ·intro hh q hq
   obtain⟨j,hj,rfl⟩:=List.getElem_of_mem hq
   exact of_decide_eq_true (hh j hj) _ (List.getElem?_eq_getElem hj)
  ·intro hd i hi
   exact decide_eq_true fun q hq=>hd q (List.mem_of_getElem? hq)
 by_cases hd:∀q∈S,DoneP x q (·∈S)
 ·rw[if_pos (hiff.2 hd)]
  simp only[Option.bind_some]
  rw[decide_eq_true hd]
 ·rw[if_neg (fun hh=>hd (hiff.1 hh))]
  simp only[Option.bind_some]
  rw[decide_eq_false hd]
end Go.Vl
namespace Go.Vl
open Go
def mx (a b:Int):Int:=if a > b then a else b
def boundF (S:List Int) (acc:List Int) (g:api_Grant):List Int:=if g.Credential∈S then acc.set g.Resource.toNat (mx g.Right (acc.getD g.Resource.toNat 0)) else acc
def boundS (x:api_Rights) (S:List Int):List Int:=x.Grants.foldl (boundF S) (List.replicate x.Resources.toNat 0)
theorem boundF_len (S acc:List Int) (g:api_Grant):(boundF S acc g).length=acc.length:=by unfold boundF;split <;> simp
theorem boundF_get (S acc:List Int) (g:api_Grant) (i:Nat):(boundF S acc g).getD i 0=if g.Credential∈S∧i=g.Resource.toNat∧i < acc.length then mx g.Right (acc.getD i 0) else acc.getD i 0:=by
 unfold boundF
 by_cases hc:g.Credential∈S
 ·rw[if_pos hc]
  simp only[List.getD_eq_getElem?_getD,List.getElem?_set]
  by_cases hi:g.Resource.toNat=i
  ·subst hi
   by_cases hl:g.Resource.toNat < acc.length
   ·simp[hc,hl]
   ·simp[hc,hl]
  ·have:¬i=g.Resource.toNat:=fun e=>hi e.symm
   simp[hi,this]
 ·simp[hc]
theorem fold_len (S:List Int):∀(l:List api_Grant) (acc:List Int),(l.foldl (boundF S) acc).length=acc.length
 |[],acc=>rfl
 |g::l,acc=>by rw[List.foldl_cons,fold_len S l,boundF_len]
theorem fold_rng (S:List Int):∀(l:List api_Grant) (acc:List Int),(∀g∈l,1≤g.Right∧g.Right≤3)→(∀i,0≤acc.getD i 0∧acc.getD i 0≤3)→∀i,0≤(l.foldl (boundF S) acc).getD i 0∧(l.foldl (boundF S) acc).getD i 0≤3
 |[],acc,_,h=>h
 |g::l,acc,hg,h=>by
  rw[List.foldl_cons]
  refine fold_rng S l _ (fun g' hg'=>hg g' (List.mem_cons_of_mem _ hg')) fun i=>?_
  rw[boundF_get]
  have:=hg g (by simp)
  have:=h i
  unfold mx
  split
  ·split <;> omega
  ·omega
theorem fold_wit (S:List Int):∀(l:List api_Grant) (acc:List Int) (i:Nat),(∀g∈l,0≤g.Resource)→(l.foldl (boundF S) acc).getD i 0=acc.getD i 0∨∃g∈l,g.Credential∈S∧g.Resource=(i:Int)∧g.Right=(l.foldl (boundF S) acc).getD i 0
 |[],acc,i,_=>.inl rfl
 |g::l,acc,i,hg=>by
  rw[List.foldl_cons]
  rcases fold_wit S l (boundF S acc g) i (fun g' hg'=>hg g' (List.mem_cons_of_mem _ hg')) with h |⟨g',h1,h2,h3,h4⟩
  ·rw[h,boundF_get]
   split
   ·rename_i hh
    unfold mx
    split
    ·exact .inr ⟨g,by simp,hh.1,by have:=hg g (by simp);omega,rfl⟩
    ·exact .inl rfl
   ·exact .inl rfl
  ·exact .inr ⟨g',List.mem_cons_of_mem _ h1,h2,h3,h4⟩
theorem fold_mono {S1 S2:List Int} (hs:∀q∈S1,q∈S2):∀(l:List api_Grant) (a1 a2:List Int),a1.length=a2.length→(∀i,a1.getD i 0≤a2.getD i 0)→∀i,(l.foldl (boundF S1) a1).getD i 0≤(l.foldl (boundF S2) a2).getD i 0
 |[],a1,a2,_,h=>h
 |g::l,a1,a2,hl,h=>by
  rw[List.foldl_cons,List.foldl_cons]
  refine fold_mono hs l _ _ (by rw[boundF_len,boundF_len,hl]) fun i=>?_
  rw[boundF_get,boundF_get]
  have:=h i
  unfold mx
  by_cases h1:g.Credential∈S1∧i=g.Resource.toNat∧i < a1.length
  ·rw[if_pos h1,if_pos (show g.Credential∈S2∧i=g.Resource.toNat∧i < a2.length from⟨hs _ h1.1,h1.2.1,hl▸h1.2.2⟩)]
   split <;> split <;> omega
  ·rw[if_neg h1]
   split
   ·split <;> omega
   ·omega
theorem rep_get (n i:Nat):(List.replicate n (0:Int)).getD i 0=0:=by
 simp only[List.getD_eq_getElem?_getD,List.getElem?_replicate]
 split <;> rfl
theorem boundS_len (x:api_Rights) (S:List Int):(boundS x S).length=x.Resources.toNat:=by unfold boundS;rw[fold_len];simp
theorem boundS_rng {x:api_Rights} (h:VR x) (S:List Int) (i:Nat):0≤(boundS x S).getD i 0∧(boundS x S).getD i 0≤3:=
 fold_rng S _ _ (fun g hg=>(h.g g hg).2.2) (fun i=>by rw[rep_get];omega) i
theorem boundS_wit {x:api_Rights} (h:VR x) (S:List Int) (i:Nat) (hp:0 < (boundS x S).getD i 0):∃g∈x.Grants,g.Credential∈S∧g.Resource=(i:Int)∧g.Right=(boundS x S).getD i 0:=by
 rcases fold_wit S x.Grants (List.replicate x.Resources.toNat 0) i (fun g hg=>(h.g g hg).2.1.1) with h1 |h1
 ·unfold boundS at hp
  rw[h1,rep_get] at hp;omega
 ·exact h1
theorem boundS_mono {x:api_Rights} {S1 S2:List Int} (hs:∀q∈S1,q∈S2) (i:Nat):(boundS x S1).getD i 0≤(boundS x S2).getD i 0:=
 fold_mono hs _ _ _ rfl (fun _=>Int.le_refl _) i
theorem bound_sp {x:api_Rights} (h:VR x) {S:List Int} (hl:S.length≤24) (hc:rights_Closed x S=some true):rights_Bound x S=some (boundS x S):=by
 obtain⟨hr1,hr2⟩:=h.r
 obtain⟨l1,l2,l3⟩:=h.ln
 unfold rights_Bound
 rw[hc]
 simp only[Option.bind_some,Bool.not_true,Bool.false_eq_true,if_false]
 rw[ck_t (by omega)]
 simp only[Option.bind_some]
 have:=iter_foldl (body:=rights_Bound_l0 x S) x.Grants (boundF S) (fun a=>a) (fun _ a=>a.length=x.Resources.toNat) (fun i hi a ha=>by
  unfold rights_Bound_l0
  have hw:IntKind.i64.wrap ((i:Int)+1)=((i+1:Nat):Int):=by rw[w64 (by omega) (by omega)];omega
  obtain⟨g1,g2,g3⟩:=h.g _ (List.getElem_mem hi)
  simp only[show (i:Int) < (x.Grants.length:Int) from by omega,decide_true,if_true,idx_lt hi,Option.bind_some,contains_sp S _ (by omega),hw]
  refine⟨?_,by rw[boundF_len];exact ha⟩
  unfold boundF
  by_cases hm:x.Grants[i].Credential∈S
  ·have hlt:(x.Grants[i].Resource).toNat < a.length:=by omega
   rw[if_pos (by simpa using hm),if_pos hm,ck_t ⟨g2.1,hlt⟩,idx_toNat g2.1 hlt]
   simp[mx,List.getD_eq_getElem?_getD,hlt]
  ·rw[if_neg (by simpa using hm),if_neg hm]) (fun a ha=>by unfold rights_Bound_l0;simp) (List.replicate x.Resources.toNat 0) (by simp)
 rw[this];rfl
theorem power_sp {x:api_Rights} (h:VR x) {c:Int} (hc:0≤c∧c < x.Credentials) {m:List (Int×List api_Link)} (hm:rights_chains x c=some m) (hi:CI x c m []):rights_Reach x c=some (sortI (m.map (·.1)))∧rights_Power x c=some (boundS x (sortI (m.map (·.1)))):=by
 have hlen:=hi.len h
 have hR:rights_Reach x c=some (sortI (m.map (·.1))):=by
  unfold rights_Reach
  rw[check_sp h,cred_sp h,hm]
  simp only[Option.bind_some,show((0:Int) != 0)=false from rfl,Bool.false_eq_true,if_false,decide_eq_true hc,Bool.not_true]
  rw[ck_t (by omega)];rfl
 refine⟨hR,?_⟩
 unfold rights_Power
 rw[hR]
 simp only[Option.bind_some]
 have hsl:(sortI (m.map (·.1))).length≤24:=by rw[sortI_len];simpa using hlen
 have hcl:rights_Closed x (sortI (m.map (·.1)))=some true:=by
  have hsrt:(sortI (m.map (·.1))).Pairwise (· < ·):=by
   have hnd:=sortI_nodup hi.nd
   have hle:=sortI_sorted (m.map (·.1))
   exact(hle.and hnd).imp fun {a b} ⟨h1,h2⟩=>by omega
  have:=closed_sp h hsl (fun e=>by have:=sortI_mem.2 hi.cin;rw[e] at this;cases this) hsrt (fun q hq=>by
   obtain⟨p,hp,rfl⟩:=List.mem_map.1 (sortI_mem.1 hq)
   exact hi.rng p hp)
  rw[this]
  refine congrArg some ?_
  simp only[decide_eq_true_eq]
  intro q hq
  rcases hi.done q (sortI_mem.1 hq) with h1 |h1
  ·cases h1
  ·exact fun ls e1 l e2 to e3=>sortI_mem.2 (h1 ls e1 l e2 to e3)
 rw[bound_sp h hsl hcl];rfl
end Go.Vl
namespace Go.Vl
open Go
theorem whyL_ex {m:List (Int×List api_Link)} {r pr:Int}:∀(l:List api_Grant) (i:Nat),(∀q∈m,q.2.length≤24)→(∃g∈l,(mget inE m g.Credential).isSome=true∧g.Resource=r∧g.Right=pr)→∃(k:Nat) (hk:k < l.length) (ch:List api_Link),whyL m r pr l i=some (ch++[⟨3,((i+k:Nat):Int), -1, -1⟩],true)∧(l[k].Credential,ch)∈m∧l[k].Resource=r∧l[k].Right=pr
 |[],_,_,h=>by obtain⟨g,hg,_⟩:=h;cases hg
 |g::l,i,hb,h=>by
  unfold whyL
  by_cases hc:((mget inE m g.Credential).isSome&&(g.Resource==r&&g.Right==pr))=true
  ·rw[if_pos hc]
   simp only[Bool.and_eq_true,beq_iff_eq] at hc
   obtain⟨ch,hch⟩:=Option.isSome_iff_exists.1 hc.1
   have hin:=mget_some inE_eq hch
   have:=hb _ hin
   dsimp only at this
   rw[hch,Option.getD_some,ck_t (by omega)]
   exact⟨0,by simp,ch,rfl,hin,hc.2.1,hc.2.2⟩
  ·rw[if_neg hc]
   have h2:∃g∈l,(mget inE m g.Credential).isSome=true∧g.Resource=r∧g.Right=pr:=by
    obtain⟨g',hg',h3⟩:=h
    rcases List.mem_cons.1 hg' with rfl |hg'
    ·exact absurd (by simp[h3]) hc
    ·exact⟨g',hg',h3⟩
   obtain⟨k,hk,ch,e1,e2,e3⟩:=whyL_ex l (i+1) hb h2
   refine⟨k+1,by simpa using hk,ch,?_,by simpa using e2,by simpa using e3⟩
   rw[e1]
   congr 5
   omega
theorem proves_sp {x:api_Rights} (h:VR x) {c r:Int} (hc:0≤c∧c < x.Credentials) (hr:0≤r∧r < x.Resources) {ch:List api_Link} {k:Nat} (hk:k < x.Grants.length) (hp:pathS x c ch=some x.Grants[k].Credential) (hres:x.Grants[k].Resource=r) (hl:ch.length≤24):
  rights_Proves x c r x.Grants[k].Right (ch++[⟨3,(k:Int), -1, -1⟩])=some true:=by
 obtain⟨l1,l2,l3⟩:=h.ln
 obtain⟨g1,g2,g3⟩:=h.g _ (List.getElem_mem hk)
 unfold rights_Proves
 have hlen:((ch++[(⟨3,(k:Int), -1, -1⟩:api_Link)]).length:Int)=(ch.length:Int)+1:=by simp
 have hw:IntKind.i64.wrap (((ch++[(⟨3,(k:Int), -1, -1⟩:api_Link)]).length:Int) - 1)=(ch.length:Int):=by rw[hlen,w64 (by omega) (by omega)];omega
 have htake:(ch++[(⟨3,(k:Int), -1, -1⟩:api_Link)]).take (Int.toNat (ch.length:Int))=ch:=by simp
 have hne:(((ch++[(⟨3,(k:Int), -1, -1⟩:api_Link)]).length:Int)==0)=false:=by rw[hlen];simp;omega
 rw[check_sp h,cred_sp h,res_sp h,among_sp]
 simp only[Option.bind_some,show((0:Int) != 0)=false from rfl,Bool.false_eq_true,if_false,decide_eq_true hc,decide_eq_true hr,Bool.not_true,decide_eq_true g3.1,decide_eq_true g3.2,Bool.and_self,hne,hw]
 rw[ck_t (by rw[hlen];omega)]
 simp only[Option.bind_some]
 have hloop:∀(n i:Nat) (q:Int),i+n=ch.length→pathS x q (ch.drop i)=some x.Grants[k].Credential→iter (rights_Proves_l0 (ch++[(⟨3,(k:Int), -1, -1⟩:api_Link)]) x) (q,(i:Int))=some (.inl x.Grants[k].Credential):=fun n=>by
  induction n with
  |zero=>
   intro i q hi hq
   have:i=ch.length:=by omega
   subst this
   rw[List.drop_length] at hq
   have hq:q=x.Grants[k].Credential:=by simpa[pathS] using hq
   refine iter_out ?_
   unfold rights_Proves_l0
   dsimp only
   rw[hw,htake,if_neg (by simp),hq]
  |succ n ih=>
   intro i q hi hq
   have hic:i < ch.length:=by omega
   rw[List.drop_eq_getElem_cons hic] at hq
   unfold pathS at hq
   split at hq
   case h_2=>cases hq
   rename_i to hf
   have hwi:IntKind.i64.wrap ((i:Int)+1)=((i+1:Nat):Int):=by rw[w64 (by omega) (by omega)];omega
   rw[iter_go (s':=(to,((i+1:Nat):Int))) ?_]
   ·exact ih (i+1) to (by omega) hq
   ·unfold rights_Proves_l0
    dsimp only
    rw[hw,htake,if_pos (by simpa using hic),idx_lt hic]
    simp only[Option.bind_some,hf,Bool.not_true,Bool.false_eq_true,if_false,hwi]
 have hl0:=hloop ch.length 0 c (by omega) (by simpa using hp)
 rw[show ((0:Nat):Int)=0 from rfl] at hl0
 rw[hl0]
 have hidx:idx (ch++[(⟨3,(k:Int), -1, -1⟩:api_Link)]) (ch.length:Int)=some ⟨3,(k:Int), -1, -1⟩:=by rw[idx_nat];simp
 have hwg:IntKind.i64.wrap ((x.Grants.length:Int) - 1)=(x.Grants.length:Int) - 1:=w64 (by omega) (by omega)
 simp only[Option.bind_some,hidx,show((3:Int) != 3)=false from rfl,show((-1:Int) != -1)=false from rfl,Bool.false_eq_true,if_false,among_sp,hwg,idx_lt hk]
 simp[hres,show(k:Int)≤(x.Grants.length:Int) - 1 from by omega]
theorem why_sp {x:api_Rights} (h:VR x) {c:Int} (hc:0≤c∧c < x.Credentials) {m:List (Int×List api_Link)} (hm:rights_chains x c=some m) (hi:CI x c m []) {r:Nat} (hr:(r:Int) < x.Resources):
  ∃ch ok,rights_Why x c (r:Int)=some (ch,ok)∧(ok=decide (0 < (boundS x (sortI (m.map (·.1)))).getD r 0))∧(ok=true→rights_Proves x c (r:Int) ((boundS x (sortI (m.map (·.1)))).getD r 0) ch=some true):=by
 obtain⟨hr1,hr2⟩:=h.r
 obtain⟨l1,l2,l3⟩:=h.ln
 have hlen:=hi.len h
 have hbl:=boundS_len x (sortI (m.map (·.1)))
 have hrl:r < (boundS x (sortI (m.map (·.1)))).length:=by omega
 have hrng:=boundS_rng h (sortI (m.map (·.1))) r
 have hwit:=boundS_wit h (sortI (m.map (·.1))) r
 have hpw:=(power_sp h hc hm hi).2
 generalize boundS x (sortI (m.map (·.1)))=B at *
 have hg:B[r]=B.getD r 0:=by simp[List.getD_eq_getElem?_getD,hrl]
 unfold rights_Why
 have hwl:IntKind.i64.wrap ((B.length:Int) - 1)=(B.length:Int) - 1:=w64 (by omega) (by omega)
 rw[hpw]
 simp only[Option.bind_some,among_sp,hwl,show decide ((0:Int)≤(r:Int))=true from by simp,show decide ((r:Int)≤(B.length:Int) - 1)=true from by simp;omega,Bool.and_self,Bool.not_true,Bool.false_eq_true,if_false,idx_lt hrl]
 rw[hg]
 by_cases hz:B.getD r 0=0
 ·rw[if_pos (by simpa using hz)]
  exact⟨[],false,rfl,(decide_eq_false (by omega)).symm,fun h=>by cases h⟩
 ·rw[if_neg (by simpa using hz),hm]
  simp only[Option.bind_some]
  rw[ck_t (by omega)]
  simp only[Option.bind_some]
  obtain⟨g,g1,g2,g3,g4⟩:=hwit (by omega)
  have hmem:=sortI_mem.1 g2
  obtain⟨k,hk,ch,e1,e2,e3,e4⟩:=whyL_ex (m:=m) (r:=(r:Int)) (pr:=B.getD r 0) x.Grants 0 (fun q hq=>by have:=(hi.path q hq).2;omega) ⟨g,g1,(mget_mem inE_eq).2 hmem,g3,g4⟩
  rw[e1,Nat.zero_add]
  refine⟨_,true,rfl,(decide_eq_true (by omega)).symm,fun _=>?_⟩
  obtain⟨p1,p2⟩:=hi.path _ e2
  rw[← e4]
  exact proves_sp h hc ⟨by omega,hr⟩ hk p1 e3 (by dsimp only at p2;omega)
end Go.Vl
namespace Go.Vl
open Go
def dotF (p w:List Int):Nat→Int
 |0=>0
 |n+1=>dotF p w n+p.getD n 0 * w.getD n 0
theorem prod_rng {a b:Int} (ha:0≤a∧a≤3) (hb:0≤b∧b≤100):0≤a * b∧a * b≤300:=by
 obtain rfl |rfl |rfl |rfl:a=0∨a=1∨a=2∨a=3:=by omega
 all_goals omega
theorem dot_rng {p w:List Int} (hp:∀i,0≤p.getD i 0∧p.getD i 0≤3) (hw:∀i,0≤w.getD i 0∧w.getD i 0≤100):∀n,0≤dotF p w n∧dotF p w n≤300 * n
 |0=>by simp[dotF]
 |n+1=>by
  have:=dot_rng hp hw n
  have:=prod_rng (hp n) (hw n)
  simp only[dotF];omega
theorem dot_mono {p q w:List Int} (hpq:∀i,p.getD i 0≤q.getD i 0) (hw:∀i,0≤w.getD i 0):∀n,dotF p w n≤dotF q w n
 |0=>Int.le_refl _
 |n+1=>by
  have:=dot_mono hpq hw n
  have:=Int.mul_le_mul_of_nonneg_right (hpq n) (hw n)
  simp only[dotF];omega
theorem dot_iter {ε:Type} {body:Int×Int→Option (Lp (Int×Int) ε)} {p w:List Int} {f:Int→ε} (hp:∀i,0≤p.getD i 0∧p.getD i 0≤3) (hw:∀i,0≤w.getD i 0∧w.getD i 0≤100) {n:Nat} (hn:n≤24)
  (hgo:∀i,i < n→∀s,body (s,(i:Int))=some (.go (IntKind.i64.wrap (s+IntKind.i64.wrap (p.getD i 0 * w.getD i 0)),IntKind.i64.wrap ((i:Int)+1)))) (hend:∀s,body (s,(n:Int))=some (.out (f s))):iter body (0,0)=some (f (dotF p w n)):=by
 have key:∀(k i:Nat),i+k=n→iter body (dotF p w i,(i:Int))=some (f (dotF p w n)):=fun k=>by
  induction k with
  |zero=>
   intro i hi
   have:i=n:=by omega
   subst this
   exact iter_out (hend _)
  |succ k ih=>
   intro i hi
   have h1:=hgo i (by omega) (dotF p w i)
   have:=dot_rng hp hw i
   have:=prod_rng (hp i) (hw i)
   rw[w64 (x:=p.getD i 0 * w.getD i 0) (by omega) (by omega),w64 (x:=dotF p w i+p.getD i 0 * w.getD i 0) (by omega) (by omega),w64 (x:=(i:Int)+1) (by omega) (by omega)] at h1
   rw[iter_go h1]
   exact ih (i+1) (by omega)
 exact key n 0 (by omega)
theorem level_ex (a:Int):∃r,severity_Level a=some r:=by
 unfold severity_Level
 have h:∃e,iter (severity_Level_l0 a) (0,0)=some e∧True:=by
  refine iter_ex (fun s:Int×Int=>0≤s.1∧s.1≤4) (fun s=>4 - s.1.toNat) _ (fun s hs=>?_) (by simp)
  obtain⟨i,o⟩:=s
  obtain⟨h1,h2⟩:=hs
  dsimp only at h1 h2
  unfold severity_Level_l0
  by_cases hi:i < 4
  ·left
   have hk:i.toNat < ([1,100,1000,10000]:List Int).length:=by simp;omega
   simp only[hi,decide_true,if_true,idx_toNat h1 hk,Option.bind_some]
   rw[w64 (x:=i+1) (by omega) (by omega)]
   split
   ·exact⟨_,rfl,⟨by simp;omega,by simp;omega⟩,by simp;omega⟩
   ·exact⟨_,rfl,⟨by simp;omega,by simp;omega⟩,by simp;omega⟩
  ·right
   rw[if_neg (by simpa using hi)]
   exact⟨_,rfl,trivial⟩
 obtain⟨e,he,_⟩:=h
 exact⟨e,he⟩
theorem worth_sp {x:api_Rights} (h:VR x) {c:Int} (hc:0≤c∧c < x.Credentials) {w:List Int} (hw:(w.length:Int)=x.Resources) (hwr:∀y∈w,0≤y∧y≤100) {B:List Int} (hB:rights_Power x c=some B) (hbl:(B.length:Int)=x.Resources) (hbr:∀i,0≤B.getD i 0∧B.getD i 0≤3):
  severity_Worth x w c=some (dotF B w B.length,0):=by
 obtain⟨hr1,hr2⟩:=h.r
 have hwg:∀i,0≤w.getD i 0∧w.getD i 0≤100:=fun i=>by
  rw[List.getD_eq_getElem?_getD]
  cases hq:w[i]? with
  |none=>simp
  |some y=>simpa using hwr y (List.mem_of_getElem? hq)
 unfold severity_Worth
 rw[check_sp h]
 have hcf:sYContainsFunc_int_at_severity_Worth_1 w=some false:=by
  unfold sYContainsFunc_int_at_severity_Worth_1 sYIndexFunc_int_at_severity_Worth_1
  obtain⟨k1,_⟩:=iter_findS (body:=sYIndexFunc_int_at_severity_Worth_1_l0 w) w (fun _=>false) (fun i _=>(.inr (i:Int):Unit ⊕ Int)) (.inl ()) (fun i hi=>by
   unfold sYIndexFunc_int_at_severity_Worth_1_l0
   have hwi:IntKind.i64.wrap ((i:Int)+1)=((i+1:Nat):Int):=by rw[w64 (by omega) (by omega)];omega
   obtain⟨g1,g2⟩:=hwr _ (List.getElem_mem hi)
   have:severity_Worth_1 w[i]=some false:=by
    unfold severity_Worth_1
    simp only[Option.bind_some,decide_eq_false (show ¬w[i] < 0 by omega),decide_eq_false (show ¬100 < w[i] by omega),Bool.or_self]
   simp only[show (i:Int) < (w.length:Int) from by omega,decide_true,if_true,idx_lt hi,Option.bind_some,this,hwi,Bool.false_eq_true,if_false]) (by unfold sYIndexFunc_int_at_severity_Worth_1_l0;simp)
  rw[k1 (by simp)];rfl
 simp only[Option.bind_some,show((0:Int) != 0)=false from rfl,Bool.false_eq_true,if_false,hw,bne_self_eq_false,hcf,decide_eq_false (show ¬c < 0 by omega),decide_eq_false (show ¬x.Credentials≤c by omega),Bool.or_self,hB]
 rw[dot_iter (body:=severity_Worth_l0 B w) (p:=B) (w:=w) (f:=fun s=>s) (n:=B.length) hbr hwg (by omega) (fun i hi s=>?_) (fun s=>?_)]
 ·rfl
 ·unfold severity_Worth_l0
  have hiw:i < w.length:=by omega
  simp only[show (i:Int) < (B.length:Int) from by omega,decide_true,if_true,idx_lt hi,idx_lt hiw,Option.bind_some]
  rw[show w[i] * B[i]=B.getD i 0 * w.getD i 0 by simp[List.getD_eq_getElem?_getD,hi,hiw,Int.mul_comm]]
 ·unfold severity_Worth_l0
  simp
theorem rate_sp {x:api_Rights} {c:Int} {w:List Int} {v n:Int} (hv:severity_Worth x w c=some (v,0)) (hn:0≤n∧n < 10):∃s,severity_Rate x w c n false=some (s,0)∧s.Worth=v:=by
 unfold severity_Rate
 rw[hv]
 simp only[Option.bind_some,show((0:Int) != 0)=false from rfl,Bool.false_eq_true,if_false,decide_eq_false (show ¬n < 0 by omega),decide_eq_false (show ¬24 < n by omega),Bool.or_self]
 unfold severity_Rate_j0
 obtain⟨r,hr⟩:=level_ex (IntKind.i64.wrap (v * IntKind.i64.wrap (1+n)))
 dsimp only
 rw[hr]
 exact⟨_,rfl,rfl⟩
theorem few_ex {m:zT} (h:TOk m) {C:Int} (hC:0≤C∧C≤24):∃S m',mYFew m C 2=some (S,m')∧TOk m'∧S.Pairwise (· < ·)∧(∀q∈S,0≤q∧q < C)∧S.length≤24:=by
 unfold mYFew
 have hl:∃e,iter (mYFew_l0 C 2) (0,m.L,m.at_,[])=some e∧(TOk ⟨e.1,e.2.1⟩∧e.2.2.Pairwise (· < ·)∧(∀q∈e.2.2,0≤q∧q < C)∧e.2.2.length≤24):=by
  refine iter_ex (fun s:Int×List Int×Int×List Int=>0≤s.1∧s.1≤C∧TOk ⟨s.2.1,s.2.2.1⟩∧s.2.2.2.Pairwise (· < ·)∧(∀q∈s.2.2.2,0≤q∧q < s.1)∧(s.2.2.2.length:Int)≤s.1) (fun s=>24 - s.1.toNat) _ (fun s hs=>?_) ⟨by simp,by simp;omega,h,by simp,by simp,by simp⟩
  obtain⟨i,L,a,out⟩:=s
  obtain⟨h1,h2,h3,h4,h5,h6⟩:=hs
  dsimp only at h1 h2 h3 h4 h5 h6
  unfold mYFew_l0
  by_cases hi:i < C
  ·left
   obtain⟨v,m',e1,e2,e3,e4⟩:=next_ex h3 (n:=2) (by omega)
   simp only[hi,decide_true,if_true,e1,Option.bind_some]
   rw[w64 (x:=i+1) (by omega) (by omega)]
   split
   ·rw[ck_t (by simp;omega)]
    refine⟨_,rfl,⟨by simp;omega,by simp;omega,e4,?_,fun q hq=>?_,by simp;omega⟩,by simp;omega⟩
    ·rw[List.pairwise_append]
     exact⟨h4,by simp,fun a ha b hb=>by simp at hb;subst hb;exact(h5 a ha).2⟩
    ·rcases List.mem_append.1 hq with hq |hq
     ·have:=h5 q hq;dsimp only;omega
     ·simp at hq;subst hq;dsimp only;omega
   ·exact⟨_,rfl,⟨by simp;omega,by simp;omega,e4,h4,fun q hq=>by have:=h5 q hq;dsimp only;omega,by simp;omega⟩,by simp;omega⟩
  ·right
   rw[if_neg (by simpa using hi)]
   exact⟨_,rfl,h3,h4,fun q hq=>by have:=h5 q hq;omega,by dsimp only;omega⟩
 obtain⟨e,e1,e2,e3,e4,e5⟩:=hl
 rw[e1]
 exact⟨_,_,rfl,e2,e3,e4,e5⟩
theorem worths_ex {m:zT} (h:TOk m) {R:Int} (hR:0≤R∧R≤24):∃w m',mYWorths m R=some (w,m')∧TOk m'∧(w.length:Int)=R∧∀y∈w,0≤y∧y≤100:=by
 unfold mYWorths
 have hl:∃e,iter (mYWorths_l0 R) (0,m.L,m.at_,[])=some e∧(TOk ⟨e.1,e.2.1⟩∧(e.2.2.length:Int)=R∧∀y∈e.2.2,0≤y∧y≤100):=by
  refine iter_ex (fun s:Int×List Int×Int×List Int=>0≤s.1∧s.1≤R∧TOk ⟨s.2.1,s.2.2.1⟩∧(s.2.2.2.length:Int)=s.1∧∀y∈s.2.2.2,0≤y∧y≤100) (fun s=>24 - s.1.toNat) _ (fun s hs=>?_) ⟨by simp,by simp;omega,h,by simp,by simp⟩
  obtain⟨i,L,a,out⟩:=s
  obtain⟨h1,h2,h3,h4,h5⟩:=hs
  dsimp only at h1 h2 h3 h4 h5
  unfold mYWorths_l0
  by_cases hi:i < R
  ·left
   have hp:∃v m',mYPick (⟨L,a⟩:zT) [0,1,10,50,100]=some (v,m')∧(0≤v∧v≤100)∧TOk m':=by
    unfold mYPick
    obtain⟨v,m',e1,e2,e3,e4⟩:=next_ex h3 (n:=5) (by omega)
    rw[show ((([0,1,10,50,100]:List Int).length:Nat):Int)=5 from rfl,e1]
    simp only[Option.bind_some]
    rw[idx_toNat e2 (by simp;omega)]
    refine⟨_,_,rfl,?_,e4⟩
    obtain rfl |rfl |rfl |rfl |rfl:v=0∨v=1∨v=2∨v=3∨v=4:=by omega
    all_goals simp
   obtain⟨v,m',e1,e2,e4⟩:=hp
   simp only[hi,decide_true,if_true,e1,Option.bind_some]
   rw[w64 (x:=i+1) (by omega) (by omega),ck_t (by simp;omega)]
   refine⟨_,rfl,⟨by simp;omega,by simp;omega,e4,by simp;omega,fun q hq=>?_⟩,by simp;omega⟩
   rcases List.mem_append.1 hq with hq |hq
   ·exact h5 q hq
   ·simp at hq;subst hq;exact e2
  ·right
   rw[if_neg (by simpa using hi)]
   exact⟨_,rfl,h3,by dsimp only;omega,h5⟩
 obtain⟨e,e1,e2,e3,e4⟩:=hl
 rw[e1]
 exact⟨_,_,rfl,e2,e3,e4⟩
theorem rights_ex {m:zT} (h:TOk m):∃x m',mYRights m=some (x,m')∧VR x∧TOk m':=by
 unfold mYRights
 obtain⟨C,m1,a1,a2,a3,t1⟩:=between_ex h (a:=1) (b:=6) (by omega) (by omega) (by omega)
 rw[a1]
 simp only[Option.bind_some]
 obtain⟨R,m2,b1,b2,b3,t2⟩:=between_ex t1 (a:=1) (b:=5) (by omega) (by omega) (by omega)
 rw[b1]
 simp only[Option.bind_some]
 obtain⟨n3,m3,c1,c2,c3,t3⟩:=next_ex t2 (n:=8) (by omega)
 rw[c1]
 simp only[Option.bind_some]
 have s0:∃e,iter (mYRights_l0 (C,m1) (R,m2)) (n3,m3.L,m3.at_,[])=some e∧(TOk ⟨e.1,e.2.1⟩∧e.2.2.length≤8∧∀g∈e.2.2,(0≤g.Credential∧g.Credential < C)∧(0≤g.Resource∧g.Resource < R)∧1≤g.Right∧g.Right≤3):=by
  refine iter_ex (fun s:Int×List Int×Int×List api_Grant=>0≤s.1∧s.1≤8∧TOk ⟨s.2.1,s.2.2.1⟩∧(s.2.2.2.length:Int)+s.1≤8∧∀g∈s.2.2.2,(0≤g.Credential∧g.Credential < C)∧(0≤g.Resource∧g.Resource < R)∧1≤g.Right∧g.Right≤3) (fun s=>s.1.toNat) _ (fun s hs=>?_) ⟨c2,by simp;omega,t3,by simp;omega,by simp⟩
  obtain⟨i,L,a,out⟩:=s
  obtain⟨h1,h2,h3,h4,h5⟩:=hs
  dsimp only at h1 h2 h3 h4 h5
  unfold mYRights_l0
  by_cases hi:0 < i
  ·left
   obtain⟨v,p1,e1,e2,e3,e4⟩:=next_ex h3 (n:=C) (by omega)
   obtain⟨v2,p2,f1,f2,f3,f4⟩:=next_ex e4 (n:=R) (by omega)
   obtain⟨v3,p3,g1,g2,g3,g4⟩:=between_ex f4 (a:=1) (b:=3) (by omega) (by omega) (by omega)
   simp only[hi,decide_true,if_true,e1,f1,g1,Option.bind_some]
   rw[w64 (x:=i - 1) (by omega) (by omega),ck_t (by simp;omega)]
   refine⟨_,rfl,⟨by simp;omega,by simp;omega,g4,by simp;omega,fun q hq=>?_⟩,by simp;omega⟩
   rcases List.mem_append.1 hq with hq |hq
   ·exact h5 q hq
   ·simp at hq;subst hq;exact⟨⟨e2,e3⟩,⟨f2,f3⟩,g2,g3⟩
  ·right
   rw[if_neg (by simpa using hi)]
   exact⟨_,rfl,h3,by dsimp only;omega,h5⟩
 obtain⟨⟨L4,a4,gs⟩,d1,d2,d3,d4⟩:=s0
 rw[d1]
 simp only[Option.bind_some]
 obtain⟨n5,m5,c1',c2',c3',t5⟩:=next_ex d2 (n:=5) (by omega)
 dsimp only at c1'
 rw[c1']
 simp only[Option.bind_some]
 have s1:∃e,iter (mYRights_l1 (R,m2) (C,m1)) (n5,m5.L,m5.at_,[])=some e∧(TOk ⟨e.1,e.2.1⟩∧e.2.2.length≤8∧∀g∈e.2.2,(0≤g.Credential∧g.Credential < C)∧(0≤g.Resource∧g.Resource < R)):=by
  refine iter_ex (fun s:Int×List Int×Int×List api_Store=>0≤s.1∧s.1≤8∧TOk ⟨s.2.1,s.2.2.1⟩∧(s.2.2.2.length:Int)+s.1≤8∧∀g∈s.2.2.2,(0≤g.Credential∧g.Credential < C)∧(0≤g.Resource∧g.Resource < R)) (fun s=>s.1.toNat) _ (fun s hs=>?_) ⟨c2',by simp;omega,t5,by simp;omega,by simp⟩
  obtain⟨i,L,a,out⟩:=s
  obtain⟨h1,h2,h3,h4,h5⟩:=hs
  dsimp only at h1 h2 h3 h4 h5
  unfold mYRights_l1
  by_cases hi:0 < i
  ·left
   obtain⟨v,p1,e1,e2,e3,e4⟩:=next_ex h3 (n:=R) (by omega)
   obtain⟨v2,p2,f1,f2,f3,f4⟩:=next_ex e4 (n:=C) (by omega)
   simp only[hi,decide_true,if_true,e1,f1,Option.bind_some]
   rw[w64 (x:=i - 1) (by omega) (by omega),ck_t (by simp;omega)]
   refine⟨_,rfl,⟨by simp;omega,by simp;omega,f4,by simp;omega,fun q hq=>?_⟩,by simp;omega⟩
   rcases List.mem_append.1 hq with hq |hq
   ·exact h5 q hq
   ·simp at hq;subst hq;exact⟨⟨f2,f3⟩,⟨e2,e3⟩⟩
  ·right
   rw[if_neg (by simpa using hi)]
   exact⟨_,rfl,h3,by dsimp only;omega,h5⟩
 obtain⟨⟨L6,a6,ss⟩,d1',d2',d3',d4'⟩:=s1
 rw[d1']
 simp only[Option.bind_some]
 obtain⟨n7,m7,c1'',c2'',c3'',t7⟩:=next_ex d2' (n:=4) (by omega)
 dsimp only at c1''
 rw[c1'']
 simp only[Option.bind_some]
 have s2:∃e,iter (mYRights_l2 (C,m1)) (n7,m7.L,m7.at_,[])=some e∧(TOk ⟨e.1,e.2.1⟩∧e.2.2.length≤8∧∀g∈e.2.2,(0≤g.From∧g.From < C)∧(0≤g.To∧g.To < C)):=by
  refine iter_ex (fun s:Int×List Int×Int×List api_Mint=>0≤s.1∧s.1≤8∧TOk ⟨s.2.1,s.2.2.1⟩∧(s.2.2.2.length:Int)+s.1≤8∧∀g∈s.2.2.2,(0≤g.From∧g.From < C)∧(0≤g.To∧g.To < C)) (fun s=>s.1.toNat) _ (fun s hs=>?_) ⟨c2'',by simp;omega,t7,by simp;omega,by simp⟩
  obtain⟨i,L,a,out⟩:=s
  obtain⟨h1,h2,h3,h4,h5⟩:=hs
  dsimp only at h1 h2 h3 h4 h5
  unfold mYRights_l2
  by_cases hi:0 < i
  ·left
   obtain⟨v,p1,e1,e2,e3,e4⟩:=next_ex h3 (n:=C) (by omega)
   obtain⟨v2,p2,f1,f2,f3,f4⟩:=next_ex e4 (n:=C) (by omega)
   simp only[hi,decide_true,if_true,e1,f1,Option.bind_some]
   rw[w64 (x:=i - 1) (by omega) (by omega),ck_t (by simp;omega)]
   refine⟨_,rfl,⟨by simp;omega,by simp;omega,f4,by simp;omega,fun q hq=>?_⟩,by simp;omega⟩
   rcases List.mem_append.1 hq with hq |hq
   ·exact h5 q hq
   ·simp at hq;subst hq;exact⟨⟨e2,e3⟩,⟨f2,f3⟩⟩
  ·right
   rw[if_neg (by simpa using hi)]
   exact⟨_,rfl,h3,by dsimp only;omega,h5⟩
 obtain⟨⟨L8,a8,ms⟩,d1'',d2'',d3'',d4''⟩:=s2
 rw[d1'']
 simp only[Option.bind_some]
 exact⟨_,_,rfl,⟨by dsimp only;omega,by dsimp only;omega,⟨by dsimp only at *;omega,by dsimp only at *;omega,by dsimp only at *;omega⟩,d4,d4',d4''⟩,d2''⟩
end Go.Vl
namespace Go.Vl
open Go
theorem has_sp (l:List Int) (a:Int) (hl:l.length≤1000000):ref23_Has l a=some (decide (a∈l)):=by
 unfold ref23_Has
 obtain⟨k1,k2⟩:=iter_findS (body:=ref23_Has_l0 l a) l (fun y=>y==a) (fun _ _=>(.inr true:Unit ⊕ Bool)) (.inl ()) (fun i h=>by
  unfold ref23_Has_l0
  have hw:IntKind.i64.wrap ((i:Int)+1)=((i+1:Nat):Int):=by rw[w64 (by omega) (by omega)];omega
  simp only[show (i:Int) < (l.length:Int) from by omega,decide_true,if_true,idx_lt h,Option.bind_some,hw]
  by_cases he:l[i]=a <;> simp[he]) (by unfold ref23_Has_l0;simp)
 cases h:l.any (fun y=>y==a) with
 |false=>
  rw[k1 h]
  have:a∉l:=fun hm=>by
   rw[List.any_eq_false] at h
   exact h a hm (by simp)
  simp[this]
 |true=>
  obtain⟨i,hi,e1,e2⟩:=k2 h
  rw[e2]
  have:a∈l:=by
   obtain⟨y,hy,he⟩:=List.any_eq_true.1 h
   simp at he;exact he▸hy
  simp[this]
theorem behind_law (haw:top_awake31=some true) (a0:List Int):top_TopBehind a0=some true:=by
 unfold top_TopBehind
 by_cases hlen:400 < (a0.length:Int)
 ·rw[if_pos (by simpa using hlen),haw];rfl
 rw[if_neg (by simpa using hlen)]
 obtain⟨x,m1,e1,hx,t1⟩:=rights_ex (m:=⟨a0,0⟩) ⟨by simp,by simp,by simp;omega⟩
 rw[e1]
 simp only[Option.bind_some]
 obtain⟨hc1,hc2⟩:=hx.c
 obtain⟨hr1,hr2⟩:=hx.r
 obtain⟨w,m2,e2,t2,w1,w2⟩:=worths_ex t1 (R:=x.Resources) (by omega)
 rw[e2]
 simp only[Option.bind_some]
 obtain⟨c,m3,e3,c1,c2,t3⟩:=next_ex t2 (n:=x.Credentials) (by omega)
 rw[e3]
 simp only[Option.bind_some]
 obtain⟨n,m4,e4,n1,n2,t4⟩:=next_ex t3 (n:=10) (by omega)
 rw[e4]
 simp only[Option.bind_some]
 obtain⟨m,hm,hi⟩:=chains_ex hx ⟨c1,c2⟩
 obtain⟨hR,hP⟩:=power_sp hx ⟨c1,c2⟩ hm hi
 have hbl:=boundS_len x (sortI (m.map (·.1)))
 have hbr:=boundS_rng hx (sortI (m.map (·.1)))
 have hwhy:=fun (r:Nat) (hr:(r:Int) < x.Resources)=>why_sp hx ⟨c1,c2⟩ hm hi hr
 have hmono:∀S:List Int,c∈S→(∀q∈S,DoneP x q (·∈S))→∀i,(boundS x (sortI (m.map (·.1)))).getD i 0≤(boundS x S).getD i 0:=fun S hcS hS=>boundS_mono fun q hq=>hi.ind (·∈S) hS hcS q (sortI_mem.1 hq)
 generalize boundS x (sortI (m.map (·.1)))=B at *
 have hBR:(B.length:Int)=x.Resources:=by omega
 have hwg:∀i,0≤w.getD i 0∧w.getD i 0≤100:=fun i=>by
  rw[List.getD_eq_getElem?_getD]
  cases hq:w[i]? with
  |none=>simp
  |some y=>simpa using w2 y (List.mem_of_getElem? hq)
 obtain⟨s,hs,hsw⟩:=rate_sp (worth_sp hx ⟨c1,c2⟩ w1 w2 hP hBR hbr) (n:=n) ⟨n1,n2⟩
 rw[hs,hP]
 simp only[Option.bind_some,hBR,bne_self_eq_false,Bool.or_self,Bool.false_eq_true,if_false]
 have l0:iter (top_TopBehind_l0 B (x,m1) (c,m3) (w,m2)) (0,0)=some (.inl (dotF B w B.length)):=by
  refine dot_iter (p:=B) (w:=w) (f:=fun v=>(.inl v:Int ⊕ Bool)) (n:=B.length) hbr hwg (by omega) (fun i hi' sm=>?_) (fun sm=>?_)
  ·unfold top_TopBehind_l0
   have hiw:i < w.length:=by omega
   obtain⟨ch,ok,g1,g2,g3⟩:=hwhy i (by omega)
   have hBi:B.getD i 0=B[i]:=by simp[List.getD_eq_getElem?_getD,hi']
   have hwi:w.getD i 0=w[i]:=by simp[List.getD_eq_getElem?_getD,hiw]
   rw[hBi] at g2 g3
   simp only[show (i:Int) < (B.length:Int) from by omega,decide_true,if_true,idx_lt hi',idx_lt hiw,Option.bind_some,g1,hBi,hwi]
   rw[if_neg (by rw[g2];simp)]
   cases ok with
   |false=>simp
   |true=>simp[g3 rfl]
  ·unfold top_TopBehind_l0
   simp
 rw[l0]
 simp only[Option.bind_some,hsw,bne_self_eq_false,Bool.false_eq_true,if_false]
 have l1:∃e,iter (top_TopBehind_l1 (x,m1) (c,m3) (w,m2) (s,0)) (0,m4.L,m4.at_)=some e∧e=.inl ():=by
  refine iter_ex (fun st:Int×List Int×Int=>0≤st.1∧st.1≤5∧TOk ⟨st.2.1,st.2.2⟩) (fun st=>5 - st.1.toNat) _ (fun st hst=>?_) ⟨by simp,by simp,t4⟩
  obtain⟨k,L,a⟩:=st
  obtain⟨k1,k2,k3⟩:=hst
  dsimp only at k1 k2 k3
  unfold top_TopBehind_l1
  by_cases hk:k < 5
  ·left
   obtain⟨S,m5,f1,f2,f3,f4,f5⟩:=few_ex k3 (C:=x.Credentials) (by omega)
   simp only[hk,decide_true,if_true,f1,Option.bind_some,has_sp S c (by omega)]
   rw[w64 (x:=k+1) (by omega) (by omega)]
   have hgo:∃s',some (Lp.go (ε:=Unit ⊕ Bool) (k+1,m5.L,m5.at_))=some (.go s')∧(0≤s'.1∧s'.1≤5∧TOk ⟨s'.2.1,s'.2.2⟩)∧5 - s'.1.toNat < 5 - k.toNat:=⟨_,rfl,⟨by dsimp only;omega,by dsimp only;omega,f2⟩,by dsimp only;omega⟩
   by_cases hcS:c∈S
   ·have hcl:=closed_sp hx f5 (fun e=>by rw[e] at hcS;cases hcS) f3 f4
    simp only[decide_eq_true hcS,Bool.not_true,Bool.false_eq_true,if_false,hcl,Option.bind_some]
    by_cases hd:∀q∈S,DoneP x q (·∈S)
    ·replace hcl:rights_Closed x S=some true:=by
      rw[hcl]
      refine congrArg some ?_
      simp only[decide_eq_true_eq]
      exact hd
     rw[if_neg (by simpa using hd)]
     rw[bound_sp hx f5 hcl]
     simp only[Option.bind_some]
     have hbl2:=boundS_len x S
     have hbr2:=boundS_rng hx S
     have hmn:=hmono S hcS hd
     generalize boundS x S=B2 at *
     have hB2:(B2.length:Int)=x.Resources:=by omega
     simp only[hB2,bne_self_eq_false,Bool.false_eq_true,if_false]
     have l2:iter (top_TopBehind_l2 B2 (w,m2)) (0,0)=some (dotF B2 w B2.length):=by
      refine dot_iter (p:=B2) (w:=w) (f:=fun v=>v) (n:=B2.length) hbr2 hwg (by omega) (fun i hi' sm=>?_) (fun sm=>?_)
      ·unfold top_TopBehind_l2
       have hiw:i < w.length:=by omega
       have hBi:B2.getD i 0=B2[i]:=by simp[List.getD_eq_getElem?_getD,hi']
       have hwi:w.getD i 0=w[i]:=by simp[List.getD_eq_getElem?_getD,hiw]
       simp only[show (i:Int) < (B2.length:Int) from by omega,decide_true,if_true,idx_lt hi',idx_lt hiw,Option.bind_some,hBi,hwi]
      ·unfold top_TopBehind_l2
       simp
     rw[l2]
     simp only[Option.bind_some]
     have hle:=dot_mono hmn (fun i=>(hwg i).1) B.length
     have hll:B.length=B2.length:=by omega
     rw[if_neg (by simp only[decide_eq_true_eq];rw[hsw,←hll];omega)]
     exact hgo
    ·rw[if_pos (by simpa using hd)]
     exact hgo
   ·simp only[decide_eq_false hcS,Bool.not_false,if_true,Option.bind_some]
    exact hgo
  ·right
   rw[if_neg (by simpa using hk)]
   exact⟨_,rfl,rfl⟩
 obtain⟨e,he,rfl⟩:=l1
 rw[he]
 simp only[Option.bind_some,haw]
end Go.Vl
namespace Go.Vl
open Go Go.Proofs
theorem itR {σ ε:Type} {body:σ→Option (Lp σ ε)} {s:σ} {e:ε} (n:Nat) (h:itN body n s=some e):iter body s=some e:=iter_iff.2 ⟨n,h⟩
abbrev dA:api_Directory:=⟨[1,2],[⟨9,1,0,1⟩]⟩
abbrev eA:api_Estate:=⟨1,[⟨3,5,0,0,0,2,0⟩,⟨4,1,0,1,0,0,0⟩]⟩
theorem dchk:directory_Check dA=some 0:=by
 unfold directory_Check sYContainsFunc_int_at_directory_Check_1 sYIndexFunc_int_at_directory_Check_1
 rw[show iter (sYIndexFunc_int_at_directory_Check_1_l0 dA.Kinds) 0=some (.inl ()) from itR 5 (by kernel_rfl),show iter (directory_Check_l0 dA) (0,0)=some (.inl ()) from itR 5 (by kernel_rfl)]
 kernel_rfl
theorem achk:access_Check eA=some 0:=by
 unfold access_Check
 rw[show iter (access_Check_l0 eA) (0,0)=some (.inl ()) from itR 5 (by kernel_rfl)]
 kernel_rfl
theorem dkn:directory_known dA 0=some true:=by
 unfold directory_known
 rw[dchk]
 kernel_rfl
theorem akn:access_known eA 0=some true:=by
 unfold access_known
 rw[achk]
 kernel_rfl
theorem timesA:exposure_times dA eA=some [3,4,9]:=by
 unfold exposure_times access_Times_own0
 rw[achk,show iter (access_Times_own0_l0 eA) (0,[])=some [3,4] from itR 5 (by kernel_rfl)]
 simp only[Option.bind_some,show((0:Int) != 0)=false from rfl,Bool.false_eq_true,if_false,show sYCompact_int_eat0_own0 [3,4]=some [3,4] from by kernel_rfl]
 rw[show iter (exposure_times_l0 dA) (0,[3,4])=some [3,4,9] from itR 5 (by kernel_rfl)]
 simp only[Option.bind_some]
 have hs:sYSort_int_vec0 [3,4,9]=some [3,4,9]:=by
  unfold sYSort_int_vec0
  rw[ck_t (by simp)]
  exact congrArg some (sortI_id (l:=[3,4,9]) (by simp))
 rw[hs]
 simp only[Option.bind_some,show sYCompact_int_eat0_own0 [3,4,9]=some [3,4,9] from by kernel_rfl]
theorem whereA {t:Int} (h:t=3∨t=4∨t=9):copies_Where eA 2 t=some [0]:=by
 unfold copies_Where
 rw[achk]
 have hat:copies_at eA t=some [4]:=by
  unfold copies_at
  rcases h with rfl |rfl |rfl
  ·rw[show iter (copies_at_l0 eA 3)=iter (copies_at_l0 eA 3) from rfl]
   simp only[show (ck (0≤eA.Places∧eA.Places≤268435456))=some () from ck_t (by decide),Option.bind_some,show List.replicate (Int.toNat eA.Places) (0:Int)=[0] from rfl]
   rw[show iter (copies_at_l0 eA 3) (0,[0])=some [4] from itR 5 (by kernel_rfl)];rfl
  ·simp only[show (ck (0≤eA.Places∧eA.Places≤268435456))=some () from ck_t (by decide),Option.bind_some,show List.replicate (Int.toNat eA.Places) (0:Int)=[0] from rfl]
   rw[show iter (copies_at_l0 eA 4) (0,[0])=some [4] from itR 5 (by kernel_rfl)];rfl
  ·simp only[show (ck (0≤eA.Places∧eA.Places≤268435456))=some () from ck_t (by decide),Option.bind_some,show List.replicate (Int.toNat eA.Places) (0:Int)=[0] from rfl]
   rw[show iter (copies_at_l0 eA 9) (0,[0])=some [4] from itR 5 (by kernel_rfl)];rfl
 rw[hat]
 simp only[Option.bind_some,show((0:Int) != 0)=false from rfl,Bool.false_eq_true,if_false,show access_Content 2=some true from by kernel_rfl,Bool.not_true]
 rw[show iter (copies_Where_l0 [4] 2) (0,[])=some [0] from itR 5 (by kernel_rfl)]
 rfl
theorem linkedA {t:Int} (h:t=3∨t=4∨t=9):access_Linked eA 0 t=some (0,false):=by
 unfold access_Linked
 rw[akn]
 rcases h with rfl |rfl |rfl <;> kernel_rfl
theorem grantedA:access_Granted eA 0 3=some []∧access_Granted eA 0 4=some [1]∧access_Granted eA 0 9=some [1]:=by
 have s1:sortI [1]=[1]:=sortI_id (by simp)
 have s0:sortI []=[]:=sortI_id (by simp)
 refine⟨?_,?_,?_⟩
 ·unfold access_Granted access_grants
  rw[akn,show iter (access_grants_l0 eA 3 0) (0,[])=some [] from itR 5 (by kernel_rfl)]
  simp only[Option.bind_some,Bool.not_true,Bool.false_eq_true,if_false,List.map_nil,s0]
  rw[ck_t (by simp)];rfl
 ·unfold access_Granted access_grants
  rw[akn,show iter (access_grants_l0 eA 4 0) (0,[])=some [(1,1)] from itR 5 (by kernel_rfl)]
  simp only[Option.bind_some,Bool.not_true,Bool.false_eq_true,if_false,List.map_cons,List.map_nil,s1]
  rw[ck_t (by simp)];rfl
 ·unfold access_Granted access_grants
  rw[akn,show iter (access_grants_l0 eA 9 0) (0,[])=some [(1,1)] from itR 5 (by kernel_rfl)]
  simp only[Option.bind_some,Bool.not_true,Bool.false_eq_true,if_false,List.map_cons,List.map_nil,s1]
  rw[ck_t (by simp)];rfl
theorem upA:directory_Upward dA 0 3=some [0]∧directory_Upward dA 0 4=some [0]∧directory_Upward dA 0 9=some [0,1]:=by
 have t0:directory_table_upward [[false,false],[false,false]] 0=some [true,false]:=by
  unfold directory_table_upward
  rw[ck_t (by simp),ck_t (by simp)]
  simp only[Option.bind_some]
  rw[iter_go (s':=(1,[true,false],[])) ?_]
  ·exact itR 1 (by kernel_rfl)
  ·unfold directory_table_upward_l0
   show(idx _ _).bind _=_
   rw[show idx [[false,false],[false,false]] (0:Int)=some [false,false] from rfl]
   simp only[Option.bind_some]
   rw[show iter (directory_table_upward_l1 0 [false,false]) (0,(List.replicate ([[false,false],[false,false]]:List (List Bool)).length false).set (Int.toNat 0) true,[0])=some ([true,false],[0]) from itR 5 (by kernel_rfl)]
   rfl
 have t9:directory_table_upward [[false,true],[false,false]] 0=some [true,true]:=by
  unfold directory_table_upward
  rw[ck_t (by simp),ck_t (by simp)]
  simp only[Option.bind_some]
  rw[iter_go (s':=(1,[true,true],[1])) ?_,iter_go (s':=(2,[true,true],[])) ?_]
  ·exact itR 1 (by kernel_rfl)
  ·unfold directory_table_upward_l0
   show(idx _ _).bind _=_
   rw[show idx [[false,true],[false,false]] (1:Int)=some [false,false] from rfl]
   simp only[Option.bind_some]
   rw[show iter (directory_table_upward_l1 1 [false,false]) (0,[true,true],[1])=some ([true,true],[1]) from itR 5 (by kernel_rfl)]
   rfl
  ·unfold directory_table_upward_l0
   show(idx _ _).bind _=_
   rw[show idx [[false,true],[false,false]] (0:Int)=some [false,true] from rfl]
   simp only[Option.bind_some]
   rw[show iter (directory_table_upward_l1 0 [false,true]) (0,(List.replicate ([[false,true],[false,false]]:List (List Bool)).length false).set (Int.toNat 0) true,[0])=some ([true,true],[0,1]) from itR 5 (by kernel_rfl)]
   rfl
 have th0:directory_those [true,false]=some [0]:=by
  unfold directory_those
  rw[show iter (directory_those_l0 [true,false]) (0,[])=some [0] from itR 5 (by kernel_rfl)];rfl
 have th9:directory_those [true,true]=some [0,1]:=by
  unfold directory_those
  rw[show iter (directory_those_l0 [true,true]) (0,[])=some [0,1] from itR 5 (by kernel_rfl)];rfl
 refine⟨?_,?_,?_⟩
 ·unfold directory_Upward
  rw[dkn,show directory_at dA 3=some [[false,false],[false,false]] from by kernel_rfl]
  simp only[Option.bind_some,Bool.not_true,Bool.false_eq_true,if_false,t0,th0]
 ·unfold directory_Upward
  rw[dkn,show directory_at dA 4=some [[false,false],[false,false]] from by kernel_rfl]
  simp only[Option.bind_some,Bool.not_true,Bool.false_eq_true,if_false,t0,th0]
 ·unfold directory_Upward
  rw[dkn,show directory_at dA 9=some [[false,true],[false,false]] from by kernel_rfl]
  simp only[Option.bind_some,Bool.not_true,Bool.false_eq_true,if_false,t9,th9]
theorem echk:readers_Check dA eA=some 0:=by
 unfold readers_Check
 rw[dchk]
 simp only[Option.bind_some,show((0:Int) != 0)=false from rfl,Bool.false_eq_true,if_false,achk]
theorem fine0:readers_fine dA eA 0 0=some true:=by
 unfold readers_fine
 rw[echk]
 kernel_rfl
theorem fine1:readers_fine dA eA 1 0=some false:=by
 unfold readers_fine
 rw[echk]
 kernel_rfl
theorem may1 {t:Int}:readers_May dA eA 1 0 t=some false:=by
 unfold readers_May
 rw[fine1]
 kernel_rfl
theorem may0:readers_May dA eA 0 0 3=some false∧readers_May dA eA 0 0 4=some false∧readers_May dA eA 0 0 9=some true:=by
 obtain⟨u3,u4,u9⟩:=upA
 obtain⟨g3,g4,g9⟩:=grantedA
 have c0:sYContains_int [0] 1=some false:=by
  unfold sYContains_int sYIndex_int
  rw[show iter (sYIndex_int_l0 [0] 1) 0=some (.inl ()) from itR 5 (by kernel_rfl)];rfl
 have c1:sYContains_int [0,1] 1=some true:=by
  unfold sYContains_int sYIndex_int
  rw[show iter (sYIndex_int_l0 [0,1] 1) 0=some (.inr 1) from itR 5 (by kernel_rfl)];rfl
 refine⟨?_,?_,?_⟩
 ·unfold readers_May readers_grant
  rw[fine0,linkedA (.inl rfl),u3,g3]
  simp only[Option.bind_some,Bool.not_true,Bool.false_eq_true,if_false]
  rw[show iter (readers_grant_l0 [] [0]) 0=some (.inl ()) from itR 5 (by kernel_rfl)]
  rfl
 ·unfold readers_May readers_grant
  rw[fine0,linkedA (.inr (.inl rfl)),u4,g4]
  simp only[Option.bind_some,Bool.not_true,Bool.false_eq_true,if_false]
  rw[iter_go (s':=1) (by
   unfold readers_grant_l0
   rw[show idx ([1]:List Int) 0=some 1 from rfl]
   simp only[Option.bind_some,c0]
   rfl),show iter (readers_grant_l0 [1] [0]) 1=some (.inl ()) from itR 5 (by kernel_rfl)]
  rfl
 ·unfold readers_May readers_grant
  rw[fine0,linkedA (.inr (.inr rfl)),u9,g9]
  simp only[Option.bind_some,Bool.not_true,Bool.false_eq_true,if_false]
  rw[iter_out (e:=.inr (1,true)) (by
   unfold readers_grant_l0
   rw[show idx ([1]:List Int) 0=some 1 from rfl]
   simp only[Option.bind_some,c1]
   rfl)]
  rfl
theorem placeN {p t:Int} (h:t=3∨t=4∨t=9) (hp:p= -1∨(p≠ -1∧readers_May dA eA p 0 t=some false)):exposure_place dA eA 2 p t=some (0,false):=by
 unfold exposure_place
 rw[whereA h]
 simp only[Option.bind_some]
 rw[iter_go (s':=1) (by
  unfold exposure_place_l0
  rw[show idx ([0]:List Int) 0=some 0 from rfl]
  simp only[show decide ((0:Int) < (([0]:List Int).length:Int))=true from rfl,if_true,Option.bind_some,linkedA h]
  rcases hp with rfl |⟨hp,hm⟩
  ·rfl
  ·rw[show (p== -1)=false from by simpa using hp,show(p != -1)=true from by simpa using hp]
   simp only[Bool.false_eq_true,if_false,if_true,hm,Option.bind_some]
   rfl),show iter (exposure_place_l0 [0] eA t p dA) 1=some (.inl ()) from iter_out (by unfold exposure_place_l0;rfl)]
 rfl
theorem place0:exposure_place dA eA 2 0 9=some (0,true):=by
 unfold exposure_place
 rw[whereA (.inr (.inr rfl))]
 simp only[Option.bind_some]
 rw[iter_out (e:=.inr (0,true)) (by
  unfold exposure_place_l0
  rw[show idx ([0]:List Int) 0=some 0 from rfl]
  simp only[show decide ((0:Int) < (([0]:List Int).length:Int))=true from rfl,if_true,Option.bind_some,linkedA (.inr (.inr rfl)),show((0:Int)== -1)=false from rfl,show((0:Int) != -1)=true from rfl,Bool.false_eq_true,if_false,may0.2.2])]
 rfl
theorem sinceN {p:Int} (h:∀t,t=3∨t=4∨t=9→exposure_place dA eA 2 p t=some (0,false)):exposure_since dA eA 2 p=some (0,false):=by
 unfold exposure_since
 rw[timesA]
 simp only[Option.bind_some]
 have s:∀(i t:Int) (j:Int),idx ([3,4,9]:List Int) i=some t→(t=3∨t=4∨t=9)→decide (i < 3)=true→IntKind.i64.wrap (i+1)=j→exposure_since_l0 [3,4,9] dA eA 2 p i=some (.go j):=fun i t j h1 h2 h3 h4=>by
  unfold exposure_since_l0
  rw[h1]
  simp only[show (([3,4,9]:List Int).length:Int)=3 from rfl,h3,if_true,Option.bind_some,h t h2,Bool.false_eq_true,if_false,h4]
 rw[iter_go (s 0 3 1 rfl (.inl rfl) rfl (by kernel_rfl)),iter_go (s 1 4 2 rfl (.inr (.inl rfl)) rfl (by kernel_rfl)),iter_go (s 2 9 3 rfl (.inr (.inr rfl)) rfl (by kernel_rfl)),show iter (exposure_since_l0 [3,4,9] dA eA 2 p) 3=some (.inl ()) from iter_out (by unfold exposure_since_l0;rfl)]
 rfl
theorem since0:exposure_since dA eA 2 0=some (9,true):=by
 unfold exposure_since
 rw[timesA]
 simp only[Option.bind_some]
 have s:∀(i t:Int) (j:Int),idx ([3,4,9]:List Int) i=some t→exposure_place dA eA 2 0 t=some (0,false)→decide (i < 3)=true→IntKind.i64.wrap (i+1)=j→exposure_since_l0 [3,4,9] dA eA 2 0 i=some (.go j):=fun i t j h1 h2 h3 h4=>by
  unfold exposure_since_l0
  rw[h1]
  simp only[show (([3,4,9]:List Int).length:Int)=3 from rfl,h3,if_true,Option.bind_some,h2,Bool.false_eq_true,if_false,h4]
 rw[iter_go (s 0 3 1 rfl (placeN (.inl rfl) (.inr ⟨by decide,may0.1⟩)) rfl (by kernel_rfl)),iter_go (s 1 4 2 rfl (placeN (.inr (.inl rfl)) (.inr ⟨by decide,may0.2.1⟩)) rfl (by kernel_rfl)),iter_out (e:=.inr (9,true)) (by
  unfold exposure_since_l0
  rw[show idx ([3,4,9]:List Int) 2=some 9 from rfl]
  simp only[show decide ((2:Int) < (([3,4,9]:List Int).length:Int))=true from rfl,if_true,Option.bind_some,place0])]
 rfl
theorem allA:exposure_All dA eA 2=some ([⟨0,9⟩],0):=by
 unfold exposure_All exposure_check
 rw[echk]
 simp only[Option.bind_some,show((0:Int) != 0)=false from rfl,Bool.false_eq_true,if_false,show access_Content 2=some true from by kernel_rfl,Bool.not_true]
 have sn:∀(i j:Int) (l:List api_Exposure),exposure_since dA eA 2 i=some (0,false)→decide (i < 2)=true→IntKind.i64.wrap (i+1)=j→exposure_All_l0 dA eA 2 (i,l)=some (.go (j,l)):=fun i j l h1 h2 h3=>by
  unfold exposure_All_l0
  simp only[show ((dA.Kinds).length:Int)=2 from rfl,h2,if_true,h1,Option.bind_some,Bool.false_eq_true,if_false,h3]
 rw[iter_go (sn (-1) 0 [] (sinceN fun t h=>placeN h (.inl rfl)) rfl (by kernel_rfl)),iter_go (s':=(1,[⟨0,9⟩])) (by
  unfold exposure_All_l0
  simp only[show ((dA.Kinds).length:Int)=2 from rfl,show decide ((0:Int) < 2)=true from rfl,if_true,since0,Option.bind_some]
  kernel_rfl),iter_go (sn 1 2 _ (sinceN fun t h=>placeN h (.inr ⟨by decide,may1⟩)) rfl (by kernel_rfl)),show iter (exposure_All_l0 dA eA 2) (2,[⟨0,9⟩])=some [⟨0,9⟩] from iter_out (by unfold exposure_All_l0;rfl)]
 rfl
theorem awake31T:top_awake31=some true:=by
 unfold top_awake31
 rw[show exposure_All (⟨[1,2],[(⟨9,1,0,1⟩:api_Member)]⟩:api_Directory) (⟨1,[(⟨3,5,0,0,0,2,0⟩:api_Access),(⟨4,1,0,1,0,0,0⟩:api_Access)]⟩:api_Estate) 2=some ([⟨0,9⟩],0) from allA]
 kernel_rfl
end Go.Vl
namespace Go.Vl
open Go
theorem TopBehind_law (a0:List Int):top_TopBehind a0=some true:=behind_law awake31T a0
end Go.Vl
