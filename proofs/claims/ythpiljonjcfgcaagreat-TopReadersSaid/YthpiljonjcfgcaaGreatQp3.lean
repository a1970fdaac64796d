/- Plain laws of readers: let in by a proof, or kept out by a closed set. Conditions: none. -/
import Derived.Test.YthpiljonjcfgcaaGreatQp2
import Derived.Test.YthpiljonjcfgcaaGreatQBx
import Derived.Test.YthpiljonjcfgcaaGreatPlG
set_option linter.unusedSimpArgs false
set_option linter.unusedVariables false
namespace Go.Vl
open Go Go.Proofs
structure RdOk (d:api_Directory) (p:Nat):Prop where
 lt:p < d.Kinds.length
 kind:d.Kinds[p]?≠some 2
theorem rcheck2_sp {d:api_Directory} (hd:dirOk d=true) {a:api_Estate} (h:EstOk a):readers_Check d a=some 0:=by
 unfold readers_Check
 rw[dcheck_sp,if_pos hd]
 simp only[Option.bind_some]
 rw[if_neg (by decide),acheck_sp h]
 rfl
theorem reader_sp {d:api_Directory} {p:Nat} (hp:RdOk d p):readers_Reader d (p:Int)=some true:=by
 have hk:=hp.kind
 have hl:=hp.lt
 rw[List.getElem?_eq_getElem hl] at hk
 unfold readers_Reader
 rw[if_pos (by simp),if_pos (by simpa using hl),idx_lt hl]
 simp only[Option.bind_some]
 congr 1
 simpa using hk
theorem fine_sp {d:api_Directory} (hd:dirOk d=true) {a:api_Estate} (h:EstOk a) {p:Nat} (hp:RdOk d p) {place:Int} (hpl:0≤place∧place < a.Places):readers_fine d a (p:Int) place=some true:=by
 unfold readers_fine
 rw[rcheck2_sp hd h]
 simp only[Option.bind_some]
 rw[if_pos (by decide),reader_sp hp]
 simp only[Option.bind_some,if_true]
 rw[place_t h.places hpl]
 rfl
theorem grantR_ex {d:api_Directory} {p:Nat} {t:Int} {T:List (List Bool)} {U:List Nat} (hU:UpOk d p t T U) (hn:d.Kinds.length≤1000) {a:api_Estate} {place:Int} {G:List Int} (hG:access_Granted a place t=some G) (hGl:G.length≤1000):
  ∃g,readers_grant d a (p:Int) place t=some g∧(g.2=true→g.1∈G∧∃q∈U,g.1=(q:Int))∧(g.2=false→g.1=0∧∀x∈G,x∉castL U):=by
 have hul:U.length≤d.Kinds.length:=ord_len (hU.sorted.imp fun h=>Nat.ne_of_lt h) hU.lt
 unfold readers_grant
 rw[hU.up,hG]
 simp only[Option.bind_some]
 obtain⟨h1,h2⟩:=iter_findS (body:=readers_grant_l0 G (castL U)) G (fun x=>(castL U).contains x) (fun _ x=>.inr (x,true)) (.inl ()) (fun i hi=>by
  unfold readers_grant_l0
  rw[if_pos (by simp;omega),idx_lt hi,w64 (by omega) (by omega)]
  simp only[Option.bind_some]
  rw[contains_sp (by rw[castL_len];omega)]
  simp only[Option.bind_some]
  split <;> rfl) (by
  unfold readers_grant_l0
  rw[if_neg (by simp)])
 cases h:G.any (fun x=>(castL U).contains x) with
 |false=>
  rw[h1 h]
  refine⟨(0,false),rfl,(fun h=>by cases h),fun _=>⟨rfl,fun x hx hm=>?_⟩⟩
  have:=List.any_eq_false.1 h x hx
  exact this (List.contains_iff_mem.2 hm)
 |true=>
  obtain⟨i,hi,h3,h4⟩:=h2 h
  rw[h4]
  refine⟨(G[i],true),rfl,fun _=>⟨List.getElem_mem hi,?_⟩,fun h=>by cases h⟩
  obtain⟨q,hq,e⟩:=castL_mem.1 (List.contains_iff_mem.1 h3)
  exact⟨q,hq,e⟩
theorem exFunc_sp {d:api_Directory} {l:List Int} (hl:l.length≤1000) (h:∀x∈l,existsB d x=true):sYContainsFunc_int_at_directory_Closed_1_b l d=some (false,d):=by
 have key:iter (sYIndexFunc_int_at_directory_Closed_1_b_l0 l) (0,d.Kinds,d.Events)=some (.inl (d.Kinds,d.Events)):=by
  have:=iter_eq (body:=sYIndexFunc_int_at_directory_Closed_1_b_l0 l) (fun s=>∃i:Nat,s.1=(i:Int)∧i≤l.length∧s.2=(d.Kinds,d.Events)) (fun s=>l.length - s.1.toNat) (fun _=>.inl (d.Kinds,d.Events)) (fun s hs=>?_) (s:=(0,d.Kinds,d.Events)) ⟨0,rfl,Nat.zero_le _,rfl⟩
  ·exact this
  obtain⟨b,q⟩:=s
  obtain⟨i,rfl,hi,hq⟩:=hs
  simp only at hq
  subst hq
  unfold sYIndexFunc_int_at_directory_Closed_1_b_l0 directory_Closed_1_cb
  simp only
  by_cases hlt:i < l.length
  ·left
   rw[if_pos (by simp;omega),idx_lt hlt,w64 (by omega) (by omega)]
   simp only[Option.bind_some]
   have e:directory_exists (⟨d.Kinds,d.Events⟩:api_Directory) l[i]=some (existsB d l[i]):=exists_sp d _
   rw[e,h _ (List.getElem_mem hlt)]
   simp only[Option.bind_some]
   rw[if_neg (by decide)]
   exact⟨_,rfl,⟨i+1,rfl,by omega,rfl⟩,by simp only;omega,trivial⟩
  ·right
   rw[if_neg (by simp;omega)]
 unfold sYContainsFunc_int_at_directory_Closed_1_b sYIndexFunc_int_at_directory_Closed_1_b
 rw[key]
 rfl
theorem containsT {l:List Int} (hl:l.length≤1000000) {x:Int} (h:x∈l):sYContains_int l x=some true:=by
 rw[contains_sp hl,List.contains_iff_mem.2 h]
theorem closed_ok {d:api_Directory} (hd:dirOk d=true) {p:Nat} {t:Int} {T:List (List Bool)} {U:List Nat} (hU:UpOk d p t T U):directory_Closed d t (castL U)=some true:=by
 have hn:=(dir_few hd).1
 have hul:U.length≤d.Kinds.length:=ord_len (hU.sorted.imp fun h=>Nat.ne_of_lt h) hU.lt
 unfold directory_Closed
 rw[dcheck_sp,if_pos hd]
 simp only[Option.bind_some]
 rw[if_neg (by decide),ascending_sp (by rw[castL_len];omega),asc_castL hU.sorted]
 simp only[Option.bind_some]
 rw[if_neg (by decide),exFunc_sp (d:=d) (by rw[castL_len];omega) (fun x hx=>by
  obtain⟨i,hi,rfl⟩:=castL_mem.1 hx
  exact ex_nat (hU.lt i hi))]
 simp only[Option.bind_some]
 rw[if_neg (by decide),show directory_at (⟨d.Kinds,d.Events⟩:api_Directory) t=some T from hU.tab]
 simp only[Option.bind_some]
 have key:iter (directory_Closed_l0 (castL U) T) 0=some (.inl ()):=by
  have:=iter_eq (body:=directory_Closed_l0 (castL U) T) (fun s=>∃i:Nat,s=(i:Int)∧i≤U.length) (fun s=>U.length - s.toNat) (fun _=>.inl ()) (fun s hs=>?_) (s:=0) ⟨0,rfl,Nat.zero_le _⟩
  ·exact this
  obtain⟨i,rfl,hi⟩:=hs
  unfold directory_Closed_l0
  rw[castL_len]
  by_cases hlt:i < U.length
  ·left
   have hm:=List.getElem_mem hlt
   have hun:=hU.lt _ hm
   have hTl:U[i] < T.length:=by rw[hU.sq.1];exact hun
   rw[if_pos (by simp;omega),idx_lt (by rw[castL_len];exact hlt),show(castL U)[i]'(by rw[castL_len];exact hlt)=((U[i]:Nat):Int) by simp[castL]]
   simp only[Option.bind_some]
   have hrl:T[U[i]].length=d.Kinds.length:=hU.sq.2 _ (List.getElem_mem hTl)
   rw[idx_lt hTl]
   simp only[Option.bind_some]
   rw[those_sp (by omega)]
   simp only[Option.bind_some]
   have k1:iter (directory_Closed_l1 (castL (thoseN T[U[i]])) (castL U)) 0=some (.inl ()):=by
    have hll:=thoseN_len T[U[i]]
    have:=iter_eq (body:=directory_Closed_l1 (castL (thoseN T[U[i]])) (castL U)) (fun s=>∃k:Nat,s=(k:Int)∧k≤(thoseN T[U[i]]).length) (fun s=>(thoseN T[U[i]]).length - s.toNat) (fun _=>.inl ()) (fun s hs=>?_) (s:=0) ⟨0,rfl,Nat.zero_le _⟩
    ·exact this
    obtain⟨k,rfl,hk⟩:=hs
    unfold directory_Closed_l1
    rw[castL_len]
    by_cases hkl:k < (thoseN T[U[i]]).length
    ·left
     rw[if_pos (by simp;omega),idx_lt (by rw[castL_len];exact hkl),show(castL (thoseN T[U[i]]))[k]'(by rw[castL_len];exact hkl)=(((thoseN T[U[i]])[k]:Nat):Int) by simp[castL],w64 (by omega) (by omega)]
     simp only[Option.bind_some]
     have hg:(thoseN T[U[i]])[k]∈U:=by
      rw[hU.rch]
      refine .step ((hU.rch _).1 hm) ⟨T[U[i]],List.getElem?_eq_getElem hTl,?_⟩
      exact thoseN_mem.1 (List.getElem_mem hkl)
     rw[containsT (by rw[castL_len];omega) (castL_memN.2 hg)]
     simp only[Option.bind_some]
     rw[if_neg (by decide)]
     exact⟨_,rfl,⟨k+1,rfl,by omega⟩,by omega,trivial⟩
    ·right
     rw[if_neg (by simp;omega)]
   rw[k1,w64 (by omega) (by omega)]
   exact⟨_,rfl,⟨i+1,rfl,by omega⟩,by omega,trivial⟩
  ·right
   rw[if_neg (by simp;omega)]
 rw[key];rfl
theorem anyIn_sp {G S:List Int} (hG:G.length≤1000) (hS:S.length≤1000):sYContainsFunc_int_at_readers_Refutes_1_b G S=some (G.any fun x=>S.contains x,S):=by
 have key:∃e,iter (sYIndexFunc_int_at_readers_Refutes_1_b_l0 G) (0,S)=some e∧(((G.any fun x=>S.contains x)=false∧e=.inl S)∨((G.any fun x=>S.contains x)=true∧∃i:Nat,e=.inr ((i:Int),S))):=by
  refine iter_ex (body:=sYIndexFunc_int_at_readers_Refutes_1_b_l0 G) (fun s=>∃i:Nat,s.1=(i:Int)∧i≤G.length∧s.2=S∧∀x∈G.take i,S.contains x=false) (fun s=>G.length - s.1.toNat) _ ?_ ⟨0,rfl,Nat.zero_le _,rfl,by simp⟩
  rintro⟨b,q⟩ ⟨i,rfl,hi,hq,hno⟩
  simp only at hq
  subst hq
  unfold sYIndexFunc_int_at_readers_Refutes_1_b_l0 readers_Refutes_1_cb
  simp only
  by_cases hlt:i < G.length
  ·rw[if_pos (by simp;omega),idx_lt hlt,w64 (by omega) (by omega)]
   simp only[Option.bind_some]
   rw[contains_sp (by omega)]
   simp only[Option.bind_some]
   cases hc:q.contains G[i] with
   |true=>
    right
    rw[if_pos rfl]
    exact⟨_,rfl,.inr ⟨List.any_eq_true.2 ⟨_,List.getElem_mem hlt,hc⟩,i,rfl⟩⟩
   |false=>
    left
    rw[if_neg (by decide)]
    refine⟨_,rfl,⟨i+1,rfl,by omega,rfl,fun x hx=>?_⟩,by simp only;omega⟩
    rw[List.take_succ_eq_append_getElem hlt] at hx
    rcases List.mem_append.1 hx with hx |hx
    ·exact hno x hx
    ·simp at hx;subst hx;exact hc
  ·right
   rw[if_neg (by simp;omega)]
   refine⟨_,rfl,.inl ⟨?_,rfl⟩⟩
   rw[List.any_eq_false]
   intro x hx
   rw[hno x (by rw[List.take_of_length_le (by omega)];exact hx)]
   decide
 obtain⟨e,e1,e2⟩:=key
 unfold sYContainsFunc_int_at_readers_Refutes_1_b sYIndexFunc_int_at_readers_Refutes_1_b
 rw[e1]
 rcases e2 with ⟨h1,rfl⟩ |⟨h1,i,rfl⟩
 ·rw[h1];rfl
 ·rw[h1]
  simp only[Option.bind_some]
  rw[decide_eq_true (by omega)]
theorem readers_law {d:api_Directory} (hd:dirOk d=true) {a:api_Estate} (h:EstOk a) {p:Nat} (hp:RdOk d p) {place:Int} (hpl:0≤place∧place < a.Places) (t:Int):
  ∃(may:Bool) (r:api_Reading) (S:List Int),readers_May d a (p:Int) place t=some may∧directory_Upward d (p:Int) t=some S∧readers_Refutes d a (p:Int) place t S=some (!may)∧readers_Why d a (p:Int) place t=some (r,may)∧(may=true→r.Place=place∧r.Time=t∧readers_Proves d a (p:Int) r=some true):=by
 have hn:=(dir_few hd).1
 have hl:=h.len
 obtain⟨T,U,hU⟩:=up_ok hd hp.lt t
 have hul:U.length≤d.Kinds.length:=ord_len (hU.sorted.imp fun h=>Nat.ne_of_lt h) hU.lt
 obtain⟨m,G,m1,m2,m3,m4,m5⟩:=granted_ex h hpl t
 obtain⟨g,g1,g2,g3⟩:=grantR_ex hU (by omega) m3 m5
 have hf:=fine_sp hd h hp hpl
 obtain⟨L,hL⟩:∃L,access_Linked a place t=some L:=⟨_,linked_sp h hpl t⟩
 have hmay:readers_May d a (p:Int) place t=some (L.2||g.2):=by
  unfold readers_May
  rw[hf]
  simp only[Option.bind_some]
  rw[if_neg (by decide),hL,g1]
  rfl
 have hany:(G.any fun x=>(castL U).contains x)=g.2:=by
  cases hg:g.2 with
  |true=>
   obtain⟨q1,q,q2,q3⟩:=g2 hg
   exact List.any_eq_true.2 ⟨g.1,q1,List.contains_iff_mem.2 (by rw[q3];exact castL_memN.2 q2)⟩
  |false=>
   rw[List.any_eq_false]
   intro x hx hc
   exact(g3 hg).2 x hx (List.contains_iff_mem.1 hc)
 have hself:p∈U:=(hU.rch p).2 .refl
 have href:readers_Refutes d a (p:Int) place t (castL U)=some (!(L.2||g.2)):=by
  unfold readers_Refutes
  rw[hf]
  simp only[Option.bind_some]
  rw[if_neg (by decide),closed_ok hd hU]
  simp only[Option.bind_some]
  rw[if_neg (by decide),containsT (by rw[castL_len];omega) (castL_memN.2 hself)]
  simp only[Option.bind_some]
  rw[if_neg (by decide),hL]
  simp only[Option.bind_some]
  cases hL2:L.2 with
  |true=>rw[if_neg (by decide)];rfl
  |false=>
   rw[if_pos (by decide),m3]
   simp only[Option.bind_some]
   rw[anyIn_sp m5 (by rw[castL_len];omega),hany]
   rfl
 refine⟨L.2||g.2,?_⟩
 by_cases hm:(L.2||g.2)=true
 ·cases hL2:L.2 with
  |true=>
   obtain⟨i,b⟩:=L
   simp only at hL2
   subst hL2
   have hlk:=link_ok h hpl hL
   have hi0:0≤i:=by
    have:¬((decide (i < 0))||(decide (((a.Events).length:Int)≤i)))=true:=fun hc=>by
     unfold readers_Link at hlk
     simp only[Option.bind_some] at hlk
     rw[if_pos hc] at hlk
     cases hlk
    simp at this
    omega
   refine⟨⟨place,t,i, -1,[]⟩,castL U,hmay,hU.up,href,?_,fun _=>⟨rfl,rfl,?_⟩⟩
   ·unfold readers_Why
    rw[hmay]
    simp only[Option.bind_some]
    rw[if_neg (by simp),hL]
    rfl
   ·unfold readers_Proves
    rw[hf]
    simp only[Option.bind_some]
    rw[if_neg (by decide),if_pos (by simp;omega),if_pos (by decide),if_pos (by decide),hlk]
    rfl
  |false=>
   have hg:g.2=true:=by rw[hL2] at hm;simpa using hm
   obtain⟨q1,q,q2,q3⟩:=g2 hg
   have hsome:=(m4 g.1).1 q1
   obtain⟨i,hi⟩:=Option.isSome_iff_exists.1 hsome
   obtain⟨i0,x,x1,x2,x3,x4,x5⟩:=m2.at_ g.1 i hi
   have hil:i.toNat < a.Events.length:=(List.getElem?_eq_some_iff.1 x1).1
   have hgr:access_Grant a place g.1 t=some (i,true):=by
    rw[grant_sp h hpl m1,hi];rfl
   have hgted:readers_granted a place t i=some (g.1,true):=by
    unfold readers_granted
    simp only[Option.bind_some]
    rw[if_neg (by simp;omega),show idx a.Events i=some x by unfold idx;rw[if_pos i0];exact x1]
    simp only[Option.bind_some]
    rw[x5,hgr]
    simp[x2,x3,x4]
   obtain⟨C,hC,hwhy⟩:∃c:List Nat,ChainOk T d.Kinds.length p q c∧readers_Why d a (p:Int) place t=some (⟨place,t, -1,i,castL c⟩,true):=by
    by_cases hqp:q=p
    ·subst hqp
     refine⟨[q],⟨rfl,rfl,by simp,fun j hj=>by simp at hj;subst hj;exact hp.lt,fun a i j h1 h2=>by simp at h2⟩,?_⟩
     unfold readers_Why
     rw[hmay]
     simp only[Option.bind_some]
     rw[if_neg (by simp[hm]),hL]
     simp only[Option.bind_some]
     rw[if_neg (by simp[hL2]),g1]
     simp only[Option.bind_some]
     rw[hgr]
     simp only[Option.bind_some]
     rw[if_neg (by simp[q3])]
     rfl
    ·obtain⟨c,c1,c2⟩:=why_ex hd hp.lt hU q2 hqp
     refine⟨c,c2,?_⟩
     unfold readers_Why
     rw[hmay]
     simp only[Option.bind_some]
     rw[if_neg (by simp[hm]),hL]
     simp only[Option.bind_some]
     rw[if_neg (by simp[hL2]),g1]
     simp only[Option.bind_some]
     rw[hgr]
     simp only[Option.bind_some]
     rw[if_pos (by simp[q3];omega),q3,c1]
     rfl
   refine⟨⟨place,t, -1,i,castL C⟩,castL U,by rw[hmay,hL2],hU.up,by rw[href,hL2],by rw[hwhy,hg];rfl,fun _=>⟨rfl,rfl,?_⟩⟩
   have hCl:=ord_len hC.nd hC.lt
   have hC0:0 < C.length:=by
    cases hCc:C with
    |nil=>have:=hC.head;rw[hCc] at this;cases this
    |cons x l=>simp
   have hhead:idx (castL C) 0=some (p:Int):=by
    have:=hC.head
    rw[List.head?_eq_getElem?] at this
    rw[show (0:Int)=((0:Nat):Int) from rfl,idx_nat]
    unfold castL
    rw[List.getElem?_map,this];rfl
   have hlast:idx (castL C) ((C.length:Int) - 1)=some g.1:=by
    have:=hC.last
    rw[List.getLast?_eq_getElem?] at this
    rw[show (C.length:Int) - 1=((C.length - 1:Nat):Int) by omega,idx_nat]
    unfold castL
    rw[List.getElem?_map,this,q3];rfl
   unfold readers_Proves
   rw[hf]
   simp only[Option.bind_some]
   rw[if_neg (by decide),if_neg (by decide),hgted]
   simp only[Option.bind_some]
   rw[castL_len,if_neg (by decide),if_neg (by rw[beq_iff_eq];omega),hhead]
   simp only[Option.bind_some]
   rw[if_neg (by simp),w64 (by omega) (by omega),hlast]
   simp only[Option.bind_some]
   rw[if_neg (by simp)]
   by_cases h1:C.length=1
   ·rw[if_pos (by rw[beq_iff_eq];omega)];rfl
   ·rw[if_neg (by rw[beq_iff_eq];omega),proves_ok hd hU.tab hU.sq hC (by omega)]
    rfl
 ·have hm':(L.2||g.2)=false:=by simpa using hm
  rw[hm'] at hmay href ⊢
  refine⟨⟨0,0,0,0,[]⟩,castL U,hmay,hU.up,href,?_,fun h=>by cases h⟩
  unfold readers_Why
  rw[hmay]
  rfl
end Go.Vl
namespace Go.Vl
open Go Go.Proofs
theorem compact_ok {zs:List Int} (hs:zs.Pairwise (·≤·)):(Lib.compact zs).Pairwise (· < ·)∧∀x,x∈Lib.compact zs↔x∈zs:=by
 have key:∀m,m≤zs.length→(Lib.compactUpTo zs.toArray m).Pairwise (· < ·)∧(∀x,x∈Lib.compactUpTo zs.toArray m↔x∈zs.take m)∧∀x∈Lib.compactUpTo zs.toArray m,∀y,zs[m - 1]? =some y→x≤y:=fun m=>by
  induction m with
  |zero=>intro _;refine⟨by simp[Lib.compactUpTo],by simp[Lib.compactUpTo],by simp[Lib.compactUpTo]⟩
  |succ m ih=>
   intro hm
   obtain⟨i1,i2,i3⟩:=ih (by omega)
   have hmz:m < zs.length:=by omega
   have ed:zs.toArray[m]! =zs[m]:=by simp[hmz]
   rw[Lib.compactUpTo_succ,ed]
   have htake:∀x,x∈zs.take (m+1)↔x∈zs.take m∨x=zs[m]:=fun x=>by rw[List.take_add_one,List.getElem?_eq_getElem hmz,Option.toList_some,List.mem_append,List.mem_singleton]
   have hle:∀x∈Lib.compactUpTo zs.toArray m,x≤zs[m]:=fun x hx=>by
    have:=(i2 x).1 hx
    obtain⟨j,hj,e⟩:=List.mem_take_iff_getElem.1 this
    rw[← e]
    exact List.pairwise_iff_getElem.1 hs j m (by omega) hmz (by omega)
   have hy:∀y,zs[m+1 - 1]? =some y→y=zs[m]:=fun y h=>by simp[hmz] at h;exact h.symm
   cases hk:Lib.keeps zs.toArray m with
   |true=>
    simp only[if_true]
    have hlt:∀x∈Lib.compactUpTo zs.toArray m,x < zs[m]:=fun x hx=>by
     simp only[Lib.keeps,decide_eq_true_eq] at hk
     rcases hk with hk |hk
     ·subst hk;simp[Lib.compactUpTo] at hx
     ·have hm0:m≠0:=fun e=>by subst e;simp[Lib.compactUpTo] at hx
      have hp:m - 1 < zs.length:=by omega
      have e1:zs.toArray[m - 1]! =zs[m - 1]:=by simp[hp]
      rw[ed,e1] at hk
      have h1:=i3 x hx zs[m - 1] (List.getElem?_eq_getElem hp)
      have h2:zs[m - 1]≤zs[m]:=List.pairwise_iff_getElem.1 hs (m - 1) m hp hmz (by omega)
      omega
    refine⟨List.pairwise_append.2 ⟨i1,by simp,fun x hx y hy=>by simp at hy;subst hy;exact hlt x hx⟩,fun x=>?_,fun x hx y hy'=>?_⟩
    ·rw[htake,List.mem_append,i2];simp
    ·rw[hy y hy']
     rw[List.mem_append] at hx
     rcases hx with hx |hx
     ·exact hle x hx
     ·simp at hx;omega
   |false=>
    simp only[Bool.false_eq_true,if_false,List.append_nil]
    have hm0:m≠0:=fun e=>by subst e;simp[Lib.keeps] at hk
    have hp:m - 1 < zs.length:=by omega
    have e0:zs[m]=zs[m - 1]:=by
     simp only[Lib.keeps,decide_eq_false_iff_not,not_or,ne_eq,Decidable.not_not] at hk
     have e1:zs.toArray[m - 1]! =zs[m - 1]:=by simp[hp]
     rw[← ed,←e1];exact hk.2
    refine⟨i1,fun x=>?_,fun x hx y hy'=>by rw[hy y hy'];exact hle x hx⟩
    rw[htake,i2]
    constructor
    ·exact .inl
    ·rintro(h |h)
     ·exact h
     ·rw[h,e0];exact List.mem_take_iff_getElem.2 ⟨m - 1,by omega,rfl⟩
 have h:=key zs.length (Nat.le_refl _)
 rw[List.take_length] at h
 exact⟨by simpa[Lib.compact] using h.1,fun x=>by simpa[Lib.compact] using h.2.1 x⟩
theorem sorted_mergeQ (l:List Int):(l.mergeSort fun x y=>decide (x≤y)).Pairwise (·≤·):=by
 have:=List.pairwise_mergeSort (le:=fun x y:Int=>decide (x≤y)) (fun a b c h1 h2=>by simp at h1 h2 ⊢;omega) (fun a b=>by simp;omega) l
 exact this.imp fun h=>by simpa using h
def inP (d:api_Directory) (a:api_Estate) (c:Int) (p:Nat) (t:Int):Prop:=∃j∈whereN a c t,readers_May d a (p:Int) (j:Int) t=some true
theorem whereN_pl {a:api_Estate} (h:EstOk a) {c t:Int} {j:Nat} (hj:j∈whereN a c t):0≤(j:Int)∧(j:Int) < a.Places:=by
 have:=(whereN_mem.1 hj).1
 have:=h.places
 omega
theorem whereN_len (a:api_Estate) (c t:Int):(whereN a c t).length≤a.Places.toNat:=by
 unfold whereN
 exact Nat.le_trans (List.length_filter_le _ _) (by simp)
theorem castL_get {l:List Nat} {i:Nat} (h:i < l.length):(castL l)[i]'(by rw[castL_len];exact h)=((l[i]:Nat):Int):=by simp[castL]
theorem place_ex {d:api_Directory} (hd:dirOk d=true) {a:api_Estate} (h:EstOk a) {c:Int} (hc:0≤c∧c≤2) {p:Nat} (hp:RdOk d p) (t:Int):∃r,exposure_place d a c (p:Int) t=some r∧(r.2=true↔inP d a c p t):=by
 have hpl:=h.places
 have hwl:=whereN_len a c t
 have hmay:∀j∈whereN a c t,∃b,readers_May d a (p:Int) (j:Int) t=some b:=fun j hj=>by
  obtain⟨may,_,_,h1,_⟩:=readers_law hd h hp (whereN_pl h hj) t
  exact⟨may,h1⟩
 have key:∃e,iter (exposure_place_l0 (castL (whereN a c t)) a t (p:Int) d) 0=some e∧((e=.inl ()∧¬inP d a c p t)∨(inP d a c p t∧∃x,e=.inr (x,true))):=by
  refine iter_ex (body:=exposure_place_l0 (castL (whereN a c t)) a t (p:Int) d) (fun s=>∃i:Nat,s=(i:Int)∧i≤(whereN a c t).length∧∀j∈(whereN a c t).take i,readers_May d a (p:Int) (j:Int) t≠some true) (fun s=>(whereN a c t).length - s.toNat) _ ?_ ⟨0,rfl,Nat.zero_le _,by simp⟩
  rintro _ ⟨i,rfl,hi,hno⟩
  unfold exposure_place_l0
  rw[castL_len]
  by_cases hlt:i < (whereN a c t).length
  ·have hm:=List.getElem_mem hlt
   obtain⟨b,hb⟩:=hmay _ hm
   rw[if_pos (by simp;omega),idx_lt (by rw[castL_len];exact hlt),castL_get hlt,w64 (by omega) (by omega)]
   simp only[Option.bind_some]
   rw[linked_sp h (whereN_pl h hm)]
   simp only[Option.bind_some]
   rw[if_neg (by rw[beq_iff_eq];omega),if_pos (by rw[bne_iff_ne];omega),hb]
   simp only[Option.bind_some]
   cases b with
   |true=>
    right
    rw[if_pos rfl]
    exact⟨_,rfl,.inr ⟨⟨_,hm,hb⟩,_,rfl⟩⟩
   |false=>
    left
    rw[if_neg (by decide)]
    refine⟨_,rfl,⟨i+1,rfl,by omega,fun j hj=>?_⟩,by omega⟩
    rw[List.take_succ_eq_append_getElem hlt] at hj
    rcases List.mem_append.1 hj with hj |hj
    ·exact hno j hj
    ·simp at hj;subst hj;rw[hb];simp
  ·right
   rw[if_neg (by simp;omega)]
   refine⟨_,rfl,.inl ⟨rfl,fun ⟨j,hj,hj2⟩=>hno j (by rw[List.take_of_length_le (by omega)];exact hj) hj2⟩⟩
 obtain⟨e,e1,e2⟩:=key
 unfold exposure_place
 rw[where_sp h hc]
 simp only[Option.bind_some]
 rw[e1]
 rcases e2 with ⟨rfl,h2⟩ |⟨h2,x,rfl⟩
 ·exact⟨(0,false),rfl,by simp[h2]⟩
 ·exact⟨(x,true),rfl,by simp[h2]⟩
theorem sortT_sp {l:List Int} (hl:l.length≤268435456):sYSort_int_vec0 l=some (l.mergeSort fun x y=>decide (x≤y)):=by
 unfold sYSort_int_vec0
 rw[ck_t hl];rfl
theorem compT_sp {l:List Int} (hl:l.length≤268435456):sYCompact_int_eat0_own0 l=some (Lib.compact l):=by
 unfold sYCompact_int_eat0_own0
 rw[ck_t hl];rfl
theorem atimes_ex {a:api_Estate} (h:EstOk a):∃L,access_Times_own0 a=some L∧L.length≤120∧∀x,x∈L↔∃e∈a.Events,e.Time=x:=by
 have hl:=h.len
 have key:iter (access_Times_own0_l0 a) (0,[])=some (a.Events.map (·.Time)):=by
  have:=(iter_foldlS (body:=access_Times_own0_l0 a) a.Events (fun i acc=>((i:Int),acc)) (fun (acc:List Int) x=>acc++[x.Time]) (fun acc=>acc) (fun i (acc:List Int)=>acc=(a.Events.take i).map (·.Time)) (fun i hi acc hacc=>by
   subst hacc
   unfold access_Times_own0_l0
   simp only
   rw[if_pos (by simp;omega),idx_lt hi,w64 (by omega) (by omega)]
   simp only[Option.bind_some]
   rw[ck_t (by simp;omega)]
   exact⟨rfl,by rw[List.take_succ_eq_append_getElem hi,List.map_append];rfl⟩) (fun acc _=>by
   unfold access_Times_own0_l0
   simp only
   rw[if_neg (by simp)]) [] (by simp))
  obtain⟨t1,t2⟩:=this
  rw[t2,List.take_length] at t1
  exact t1
 have hs:(a.Events.map (·.Time)).Pairwise (·≤·):=by
  rw[List.pairwise_map];exact h.order
 refine⟨Lib.compact (a.Events.map (·.Time)),?_,Nat.le_trans (compact_len _) (by simp;omega),fun x=>?_⟩
 ·unfold access_Times_own0
  rw[acheck_sp h]
  simp only[Option.bind_some]
  rw[if_neg (by decide),key]
  simp only[Option.bind_some]
  rw[compT_sp (by simp;omega)]
  rfl
 ·rw[(compact_ok hs).2,List.mem_map]
theorem times_ex {d:api_Directory} (hd:dirOk d=true) {a:api_Estate} (h:EstOk a):∃L,exposure_times d a=some L∧L.length≤1000∧L.Pairwise (· < ·)∧∀x,x∈L↔(∃e∈a.Events,e.Time=x)∨∃e∈d.Events,e.Time=x:=by
 obtain⟨A,a1,a2,a3⟩:=atimes_ex h
 have hdl:=(dir_few hd).2
 have key:iter (exposure_times_l0 d) (0,A)=some (A++d.Events.map (·.Time)):=by
  have:=(iter_foldlS (body:=exposure_times_l0 d) d.Events (fun i acc=>((i:Int),acc)) (fun (acc:List Int) x=>acc++[x.Time]) (fun acc=>acc) (fun i (acc:List Int)=>acc=A++(d.Events.take i).map (·.Time)) (fun i hi acc hacc=>by
   subst hacc
   unfold exposure_times_l0
   simp only
   rw[if_pos (by simp;omega),idx_lt hi,w64 (by omega) (by omega)]
   simp only[Option.bind_some]
   rw[ck_t (by simp;omega)]
   exact⟨rfl,by rw[List.take_succ_eq_append_getElem hi,List.map_append,List.append_assoc];rfl⟩) (fun acc _=>by
   unfold exposure_times_l0
   simp only
   rw[if_neg (by simp)]) A (by simp))
  obtain⟨t1,t2⟩:=this
  rw[t2,List.take_length] at t1
  exact t1
 have hll:(A++d.Events.map (·.Time)).length≤240:=by simp;omega
 generalize hB:A++d.Events.map (·.Time)=B at *
 have hsl:(B.mergeSort fun x y=>decide (x≤y)).length≤240:=by simpa using hll
 obtain⟨c1,c2⟩:=compact_ok (sorted_mergeQ B)
 refine⟨Lib.compact (B.mergeSort fun x y=>decide (x≤y)),?_,Nat.le_trans (compact_len _) (by omega),c1,fun x=>?_⟩
 ·unfold exposure_times
  rw[a1]
  simp only[Option.bind_some]
  rw[key]
  simp only[Option.bind_some]
  rw[sortT_sp (by omega)]
  simp only[Option.bind_some]
  rw[compT_sp (by omega)]
  rfl
 ·rw[c2,List.mem_mergeSort,←hB,List.mem_append,a3,List.mem_map]
theorem xcheck_sp {d:api_Directory} (hd:dirOk d=true) {a:api_Estate} (h:EstOk a) {c:Int} (hc:0≤c∧c≤2):exposure_check d a c=some 0:=by
 unfold exposure_check
 rw[rcheck2_sp hd h]
 simp only[Option.bind_some]
 rw[if_neg (by decide),content_sp hc]
 rfl
theorem since_ex {d:api_Directory} (hd:dirOk d=true) {a:api_Estate} (h:EstOk a) {c:Int} (hc:0≤c∧c≤2) {p:Nat} (hp:RdOk d p):∃(L:List Int) (r:Int×Bool),(∀x,x∈L↔(∃e∈a.Events,e.Time=x)∨∃e∈d.Events,e.Time=x)∧exposure_since d a c (p:Int)=some r∧(r.2=true↔∃x∈L,inP d a c p x)∧(r.2=true→r.1∈L∧inP d a c p r.1∧∀x∈L,inP d a c p x→r.1≤x):=by
 obtain⟨L,l1,l2,l3,l4⟩:=times_ex hd h
 have key:∃e,iter (exposure_since_l0 L d a c (p:Int)) 0=some e∧((e=.inl ()∧∀x∈L,¬inP d a c p x)∨∃x∈L,e=.inr (x,true)∧inP d a c p x∧∀y∈L,inP d a c p y→x≤y):=by
  refine iter_ex (body:=exposure_since_l0 L d a c (p:Int)) (fun s=>∃i:Nat,s=(i:Int)∧i≤L.length∧∀x∈L.take i,¬inP d a c p x) (fun s=>L.length - s.toNat) _ ?_ ⟨0,rfl,Nat.zero_le _,by simp⟩
  rintro _ ⟨i,rfl,hi,hno⟩
  unfold exposure_since_l0
  by_cases hlt:i < L.length
  ·have hm:=List.getElem_mem hlt
   obtain⟨r,r1,r2⟩:=place_ex hd h hc hp L[i]
   rw[if_pos (by simp;omega),idx_lt hlt,w64 (by omega) (by omega)]
   simp only[Option.bind_some]
   rw[r1]
   simp only[Option.bind_some]
   by_cases hr:r.2=true
   ·right
    rw[if_pos hr]
    refine⟨_,rfl,.inr ⟨L[i],hm,rfl,r2.1 hr,fun y hy hy2=>?_⟩⟩
    obtain⟨k,hk,rfl⟩:=List.getElem_of_mem hy
    rcases Nat.lt_trichotomy k i with h1 |h1 |h1
    ·exact absurd hy2 (hno _ (List.mem_iff_getElem.2 ⟨k,by rw[List.length_take];omega,by rw[List.getElem_take]⟩))
    ·subst h1;exact Int.le_refl _
    ·exact Int.le_of_lt (List.pairwise_iff_getElem.1 l3 i k hlt hk h1)
   ·left
    rw[if_neg hr]
    refine⟨_,rfl,⟨i+1,rfl,by omega,fun x hx=>?_⟩,by omega⟩
    rw[List.take_succ_eq_append_getElem hlt] at hx
    rcases List.mem_append.1 hx with hx |hx
    ·exact hno x hx
    ·simp at hx;subst hx;exact fun hin=>hr (r2.2 hin)
  ·right
   rw[if_neg (by simp;omega)]
   refine⟨_,rfl,.inl ⟨rfl,fun x hx=>hno x (by rw[List.take_of_length_le (by omega)];exact hx)⟩⟩
 obtain⟨e,e1,e2⟩:=key
 unfold exposure_since
 rw[l1]
 simp only[Option.bind_some]
 rw[e1]
 rcases e2 with ⟨rfl,h2⟩ |⟨x,h2,rfl,h3,h4⟩
 ·exact⟨L,(0,false),l4,rfl,⟨(fun h=>by cases h),fun ⟨x,hx,hx2⟩=>absurd hx2 (h2 x hx)⟩,(fun h=>by cases h)⟩
 ·exact⟨L,(x,true),l4,rfl,⟨fun _=>⟨x,h2,h3⟩,fun _=>rfl⟩,fun _=>⟨h2,h3,h4⟩⟩
theorem stC_same {a:api_Estate} {t t':Int} (h:∀x∈a.Events,x.Time≤t↔x.Time≤t'):∀i,stC a t i=stC a t' i
 |0=>rfl
 |i+1=>by
  unfold stC
  rw[stC_same h i]
  split
  ·rename_i x hx
   have:=h x (List.mem_of_getElem? hx)
   by_cases h1:x.Time≤t
   ·rw[if_pos h1,if_pos (this.1 h1)]
   ·rw[if_neg h1,if_neg (fun h2=>h1 (this.2 h2))]
  ·rfl
theorem may_earlier {d:api_Directory} {a:api_Estate} (h:EstOk a) {p:Int} {place:Int} (hpl:0≤place∧place < a.Places) {t t':Int} (htt:t'≤t) (hs:∀x∈a.Events,x.Time≤t↔x.Time≤t') (hs2:∀x∈d.Events,x.Time≤t↔x.Time≤t') (hm:readers_May d a p place t=some true):readers_May d a p place t'=some true:=by
 have hg:readers_grant d a p place t=readers_grant d a p place t':=by
  unfold readers_grant
  rw[up_same hs2,granted_same place hs]
 unfold readers_May at hm ⊢
 rw[hg] at hm
 cases hf:readers_fine d a p place with
 |none=>rw[hf] at hm;cases hm
 |some b=>
  rw[hf] at hm
  simp only[Option.bind_some] at hm ⊢
  cases b with
  |false=>cases hm
  |true=>
   rw[if_neg (by decide)] at hm ⊢
   cases hL:access_Linked a place t with
   |none=>rw[hL] at hm;cases hm
   |some L=>
    rw[hL] at hm
    simp only[Option.bind_some] at hm
    cases hgr:readers_grant d a p place t' with
    |none=>rw[hgr] at hm;cases hm
    |some g=>
     rw[hgr] at hm
     simp only[Option.bind_some] at hm
     obtain⟨L',hL'⟩:∃L',access_Linked a place t'=some L':=⟨_,linked_sp h hpl t'⟩
     rw[hL']
     simp only[Option.bind_some]
     have hm':=Option.some.inj hm
     rw[Bool.or_eq_true] at hm'
     rcases hm' with h1 |h1
     ·obtain⟨r,r1,r2⟩:=open_earlier h hpl htt hs hL h1
      rw[hL'] at r1
      cases r1
      rw[r2];rfl
     ·rw[h1,Bool.or_true]
theorem max_le {l:List Int} {t:Int} (h:∃x∈l,x≤t):∃m∈l,m≤t∧∀x∈l,x≤t→x≤m:=by
 induction l with
 |nil=>obtain⟨x,hx,_⟩:=h;cases hx
 |cons y l ih=>
  by_cases h2:∃x∈l,x≤t
  ·obtain⟨m,m1,m2,m3⟩:=ih h2
   by_cases hy:y≤t∧m < y
   ·refine⟨y,List.mem_cons_self ..,hy.1,fun x hx hxt=>?_⟩
    rcases List.mem_cons.1 hx with rfl |hx
    ·exact Int.le_refl _
    ·have:=m3 x hx hxt;omega
   ·refine⟨m,List.mem_cons_of_mem _ m1,m2,fun x hx hxt=>?_⟩
    rcases List.mem_cons.1 hx with rfl |hx
    ·omega
    ·exact m3 x hx hxt
  ·obtain⟨x,hx,hxt⟩:=h
   rcases List.mem_cons.1 hx with rfl |hx
   ·refine⟨x,List.mem_cons_self ..,hxt,fun z hz hzt=>?_⟩
    rcases List.mem_cons.1 hz with rfl |hz
    ·exact Int.le_refl _
    ·exact absurd ⟨z,hz,hzt⟩ h2
   ·exact absurd ⟨x,hx,hxt⟩ h2
theorem inP_earlier {d:api_Directory} {a:api_Estate} (h:EstOk a) (hf:Few2 a) {c:Int} (hc:0≤c∧c≤2) {p:Nat} {L:List Int} (hL:∀x,x∈L↔(∃e∈a.Events,e.Time=x)∨∃e∈d.Events,e.Time=x) {t:Int} (hin:inP d a c p t):∃t'∈L,t'≤t∧inP d a c p t':=by
 obtain⟨j,hj,hm⟩:=hin
 obtain⟨w,_,w1,w2⟩:=way_sp h hf hc t hj
 have hev:∃x∈L,x≤t:=by
  cases w with
  |nil=>exact absurd rfl w1
  |cons k w=>
   obtain⟨x,x1,x2,_⟩:=w2.each 0 k rfl
   exact⟨x.Time,(hL _).2 (.inl ⟨x,List.mem_of_getElem? x1,rfl⟩),x2⟩
 obtain⟨t',m1,m2,m3⟩:=max_le hev
 have hs:∀x∈a.Events,x.Time≤t↔x.Time≤t':=fun x hx=>⟨fun h1=>m3 _ ((hL _).2 (.inl ⟨x,hx,rfl⟩)) h1,fun h1=>by omega⟩
 have hs2:∀x∈d.Events,x.Time≤t↔x.Time≤t':=fun x hx=>⟨fun h1=>m3 _ ((hL _).2 (.inr ⟨x,hx,rfl⟩)) h1,fun h1=>by omega⟩
 have hw:whereN a c t=whereN a c t':=by unfold whereN;rw[stC_same hs]
 exact⟨t',m1,m2,j,by rw[← hw];exact hj,may_earlier h (whereN_pl h hj) m2 hs hs2 hm⟩
end Go.Vl
namespace Go.Vl
open Go Go.Proofs
structure MadeE (a:api_Estate):Prop where
 ok:EstOk a
 few:Few2 a
 ev:∀x∈a.Events,0≤x.Time∧x.Time≤44
def EvOk (P:Int) (x:api_Access):Prop:=rightE P x∧(0≤x.Time∧x.Time≤44)∧((x.Kind=5∨x.Kind=6)→0≤x.Content∧x.Content≤2)
theorem estate_spT {m:zT} (h:TapeOk m) {d:api_Directory} (hd:MadeD d):∃(a:api_Estate) (m':zT),mYEstate m d=some (a,m')∧TapeOk m'∧MadeE a:=by
 obtain⟨k3,k7⟩:=hd.few
 have hb:=tnextV_bd m (n:=4 - 1+1) (by omega)
 unfold mYEstate
 rw[between_spT h (by omega) (by omega) (by omega)]
 simp only[Option.bind_some]
 have h1:=tnextT_ok h
 generalize hP:1+tnextV m (4 - 1+1)=P at *
 have hP1:1≤P∧P≤4:=by omega
 generalize tnextT m=m1 at *
 have hb2:=tnextV_bd m1 (n:=16) (by omega)
 rw[next_spT h1 (by omega)]
 simp only[Option.bind_some]
 have h2:=tnextT_ok h1
 generalize tnextV m1 16=n at *
 generalize tnextT m1=m2 at *
 obtain⟨cl,m3,e3,c1,c2,c3,c4⟩:=clock_spT h2 hb2.1 (by omega)
 rw[e3]
 simp only[Option.bind_some]
 have keyE:∃e,iter (mYEstate_l0 (cl,m3) (P,m1) d) (0,m3.L,m3.at_,[])=some e∧(TapeOk ⟨e.1,e.2.1⟩∧e.2.2.length≤15∧(∀x∈e.2.2,EvOk P x)∧e.2.2.Pairwise (fun a b=>a.Time≤b.Time)):=by
  refine iter_ex (body:=mYEstate_l0 (cl,m3) (P,m1) d) (fun s=>0≤s.1∧s.1≤n∧TapeOk ⟨s.2.1,s.2.2.1⟩∧(s.2.2.2.length:Int)≤s.1∧(∀x∈s.2.2.2,EvOk P x∧∃j:Nat,(j:Int) < s.1∧cl[j]? =some x.Time)∧s.2.2.2.Pairwise (fun a b=>a.Time≤b.Time)) (fun s=>(n - s.1).toNat) _ ?_ ⟨by simp,hb2.1,c1,by simp,by simp,.nil⟩
  rintro⟨i,L2,p2,out⟩ ⟨g1,g2,g3,g4,g5,g6⟩
  simp only at g1 g2 g3 g4 g5 g6
  unfold mYEstate_l0
  simp only
  by_cases hi:i < n
  ·left
   obtain⟨i,rfl⟩:=Int.eq_ofNat_of_zero_le g1
   have hic:i < cl.length:=by omega
   obtain⟨kd,hkd,epk⟩:=pick_spT g3 (l:=[1,1,2,3,4,5,5,6,7,7]) (by simp)
   have t1:=tnextT_ok g3
   rw[if_pos (by simp <;> omega),idx_lt hic,epk]
   simp only[Option.bind_some]
   have hv:=tnextV_bd (tnextT ⟨L2,p2⟩) (n:=P) (by omega)
   have t2:=tnextT_ok t1
   rw[next_spT t1 (by omega)]
   simp only[Option.bind_some]
   have hct:=c3 _ (List.getElem_mem hic)
   have hle:∀y∈out,y.Time≤cl[i]:=fun y hy=>by
    obtain⟨_,j,hj,hjt⟩:=g5 y hy
    obtain⟨hj2,hj3⟩:=List.getElem?_eq_some_iff.1 hjt
    rw[← hj3]
    exact List.pairwise_iff_getElem.1 c2 j i hj2 hic (by omega)
   generalize tnextV (tnextT ⟨L2,p2⟩) P=pl at *
   generalize tnextT (tnextT ⟨L2,p2⟩)=m4 at *
   generalize tnextT ⟨L2,p2⟩=m5 at *
   have keep:∀(L5:List Int) (p5:Int),TapeOk ⟨L5,p5⟩→0≤((i:Int)+1,L5,p5,out).1∧((i:Int)+1,L5,p5,out).1≤n∧TapeOk ⟨L5,p5⟩∧(out.length:Int)≤(i:Int)+1∧(∀x∈out,EvOk P x∧∃j:Nat,(j:Int) < (i:Int)+1∧cl[j]? =some x.Time)∧out.Pairwise (fun a b=>a.Time≤b.Time):=fun L5 p5 h5=>
    ⟨by simp only;omega,by simp only;omega,h5,by omega,fun x hx=>by
     obtain⟨a1,j,a2,a3⟩:=g5 x hx
     exact⟨a1,j,by omega,a3⟩,g6⟩
   have step:∀(v9:List Int×Int×Int×Int×Int×Int),TapeOk ⟨v9.1,v9.2.1⟩→EvOk P ⟨cl[i],kd,pl,v9.2.2.1,v9.2.2.2.1,v9.2.2.2.2.1,v9.2.2.2.2.2⟩→∃s',mYEstate_j1 ((i:Int),L2,p2,out) cl[i] (kd,m5) (pl,m4) v9=some (.go s')∧(0≤s'.1∧s'.1≤n∧TapeOk ⟨s'.2.1,s'.2.2.1⟩∧(s'.2.2.2.length:Int)≤s'.1∧(∀x∈s'.2.2.2,EvOk P x∧∃j:Nat,(j:Int) < s'.1∧cl[j]? =some x.Time)∧s'.2.2.2.Pairwise (fun a b=>a.Time≤b.Time))∧(n - s'.1).toNat < (n - (i:Int)).toNat:=fun v9 h9 hE=>by
    unfold mYEstate_j1
    simp only
    rw[w64 (by omega) (by omega),ck_t (by simp;omega)]
    exact⟨_,rfl,⟨by simp only;omega,by simp only;omega,h9,by simp;omega,all_snoc (fun x hx=>by
     obtain⟨a1,j,a3,a4⟩:=g5 x hx
     exact⟨a1,j,by simp only;omega,a4⟩) ⟨hE,i,by simp only;omega,by simp[hic]⟩,pw_snoc g6 hle⟩,by simp only;omega⟩
   have htm:0≤cl[i]∧cl[i]≤44:=by omega
   have ev:∀q u c f,rightE P ⟨cl[i],kd,pl,q,u,c,f⟩→((kd=5∨kd=6)→0≤c∧c≤2)→EvOk P ⟨cl[i],kd,pl,q,u,c,f⟩:=fun q u c f h1 h2=>⟨h1,htm,h2⟩
   have j3:∀b,(kd=5∨kd=6→b=true)→(kd=4∨kd=7→b=false)→(kd=4∨kd=5∨kd=6∨kd=7)→∃s',mYEstate_j3 (pl,m4) ((i:Int),L2,p2,out) cl[i] (kd,m5) (P,m1) b=some (.go s')∧(0≤s'.1∧s'.1≤n∧TapeOk ⟨s'.2.1,s'.2.2.1⟩∧(s'.2.2.2.length:Int)≤s'.1∧(∀x∈s'.2.2.2,EvOk P x∧∃j:Nat,(j:Int) < s'.1∧cl[j]? =some x.Time)∧s'.2.2.2.Pairwise (fun a b=>a.Time≤b.Time))∧(n - s'.1).toNat < (n - (i:Int)).toNat:=fun b hb1 hb2 hk=>by
    unfold mYEstate_j3
    have hv3:=tnextV_bd m4 (n:=3) (by omega)
    have hvP:=tnextV_bd m4 (n:=P) (by omega)
    have t3:=tnextT_ok t2
    cases b with
    |true=>
     have hk5:kd=5∨kd=6:=by
      rcases hk with h |h |h |h
      ·exact absurd (hb2 (.inl h)) (by decide)
      ·exact .inl h
      ·exact .inr h
      ·exact absurd (hb2 (.inr h)) (by decide)
     rw[if_pos rfl,next_spT t2 (by omega)]
     simp only[Option.bind_some]
     exact step _ t3 (ev _ _ _ _ ⟨hv,.inr (.inr (.inr (.inl ⟨hk5,by simp only;omega,rfl,rfl,rfl⟩)))⟩ fun _=>by simp only;omega)
    |false=>
     rw[if_neg (by decide)]
     by_cases h7:kd=7
     ·rw[if_pos (by simpa using h7),next_spT t2 (by omega)]
      simp only[Option.bind_some]
      by_cases hne:tnextV m4 P=pl
      ·rw[if_pos (by simpa using hne),w64 (by omega) (by omega)]
       exact⟨_,rfl,keep _ _ t3,by simp only;omega⟩
      ·rw[if_neg (by simpa using hne)]
       exact step _ t3 (ev _ _ _ _ ⟨hv,.inr (.inr (.inr (.inr ⟨h7,⟨hvP.1,hvP.2,hne⟩,rfl,rfl,rfl⟩)))⟩ fun h=>by omega)
     ·have h4:kd=4:=by
       rcases hk with h |h |h |h
       ·exact h
       ·exact absurd (hb1 (.inl h)) (by decide)
       ·exact absurd (hb1 (.inr h)) (by decide)
       ·exact absurd h h7
      rw[if_neg (by simpa using h7)]
      exact step _ t2 (ev _ _ _ _ ⟨hv,.inr (.inr (.inl ⟨h4,rfl,rfl,rfl,rfl⟩))⟩ fun h=>by omega)
   have j2:∀b,(kd=1∨kd=2→b=true)→(¬(kd=1∨kd=2)→b=false)→∃s',mYEstate_j2 (pl,m4) d ((i:Int),L2,p2,out) cl[i] (kd,m5) (P,m1) b=some (.go s')∧(0≤s'.1∧s'.1≤n∧TapeOk ⟨s'.2.1,s'.2.2.1⟩∧(s'.2.2.2.length:Int)≤s'.1∧(∀x∈s'.2.2.2,EvOk P x∧∃j:Nat,(j:Int) < s'.1∧cl[j]? =some x.Time)∧s'.2.2.2.Pairwise (fun a b=>a.Time≤b.Time))∧(n - s'.1).toNat < (n - (i:Int)).toNat:=fun b hb1 hb2=>by
    unfold mYEstate_j2
    have t3:=tnextT_ok t2
    have hvk:=tnextV_bd m4 (n:=(d.Kinds.length:Int)+1) (by omega)
    have hv5:=tnextV_bd m4 (n:=5) (by omega)
    simp only[List.mem_cons,List.not_mem_nil,or_false] at hkd
    by_cases hk:kd=1∨kd=2
    ·rw[hb1 hk,if_pos rfl,w64 (by omega) (by omega),next_spT t2 (by omega)]
     simp only[Option.bind_some]
     exact step _ t3 (ev _ _ _ _ ⟨hv,.inl ⟨hk,by simp only;omega,rfl,rfl,rfl⟩⟩ fun h=>by omega)
    ·rw[hb2 hk,if_neg (by decide)]
     by_cases h3:kd=3
     ·rw[if_pos (by simpa using h3),next_spT t2 (by omega)]
      simp only[Option.bind_some]
      rw[w64 (x:=cl[i]+1) (by omega) (by omega),w64 (x:=cl[i]+1+tnextV m4 5) (by omega) (by omega)]
      exact step _ t3 (ev _ _ _ _ ⟨hv,.inr (.inl ⟨h3,by simp only;omega,rfl,rfl,rfl⟩)⟩ fun h=>by omega)
     ·rw[if_neg (by simpa using h3)]
      by_cases h5:kd=5
      ·rw[if_pos (by simpa using h5)]
       exact j3 _ (fun _=>by simpa using h5) (fun h=>by omega) (by omega)
      ·rw[if_neg (by simpa using h5)]
       refine j3 _ (fun h=>by simp;omega) (fun h=>by simp;omega) ?_
       rcases hkd with h |h |h |h |h |h |h |h |h |h <;> omega
   by_cases hk1:kd=1
   ·rw[if_pos (by simpa using hk1)]
    exact j2 _ (fun _=>by simpa using hk1) (fun h=>absurd (.inl hk1) h)
   ·rw[if_neg (by simpa using hk1)]
    exact j2 _ (fun h=>by simp;omega) (fun h=>by simp;omega)
  ·right
   rw[if_neg (by simp <;> omega)]
   exact⟨_,rfl,g3,by show out.length≤15;omega,fun x hx=>(g5 x hx).1,g6⟩
 obtain⟨e,e4,z1,z2,z3,z4⟩:=keyE
 rw[e4]
 refine⟨_,_,rfl,z1,⟨⟨by simp only;omega,by simp only;omega,fun x hx=>(z3 x hx).1,fun x hx=>by have:=(z3 x hx).2.1;omega,z4⟩,fun x hx hk=>(z3 x hx).2.2 hk,fun x hx=>(z3 x hx).2.1⟩⟩
end Go.Vl
namespace Go.Vl
open Go Go.Proofs
theorem itR {σ ε:Type} {body:σ→Option (Lp σ ε)} {s:σ} {e:ε} (n:Nat) (h:itN body n s=some e):iter body s=some e:=iter_iff.2 ⟨n,h⟩
abbrev dA:api_Directory:=⟨[1,2],[⟨9,1,0,1⟩]⟩
abbrev eA:api_Estate:=⟨1,[⟨3,5,0,0,0,2,0⟩,⟨4,1,0,1,0,0,0⟩]⟩
theorem dchk:directory_Check dA=some 0:=by
 unfold directory_Check sYContainsFunc_int_at_directory_Check_1 sYIndexFunc_int_at_directory_Check_1
 rw[show iter (sYIndexFunc_int_at_directory_Check_1_l0 dA.Kinds) 0=some (.inl ()) from itR 5 (by kernel_rfl),show iter (directory_Check_l0 dA) (0,0)=some (.inl ()) from itR 5 (by kernel_rfl)]
 kernel_rfl
theorem achk:access_Check eA=some 0:=by
 unfold access_Check
 rw[show iter (access_Check_l0 eA) (0,0)=some (.inl ()) from itR 5 (by kernel_rfl)]
 kernel_rfl
theorem dkn:directory_known dA 0=some true:=by
 unfold directory_known
 rw[dchk]
 kernel_rfl
theorem akn:access_known eA 0=some true:=by
 unfold access_known
 rw[achk]
 kernel_rfl
theorem timesA:exposure_times dA eA=some [3,4,9]:=by
 unfold exposure_times access_Times_own0
 rw[achk,show iter (access_Times_own0_l0 eA) (0,[])=some [3,4] from itR 5 (by kernel_rfl)]
 simp only[Option.bind_some,show((0:Int) != 0)=false from rfl,Bool.false_eq_true,if_false,show sYCompact_int_eat0_own0 [3,4]=some [3,4] from by kernel_rfl]
 rw[show iter (exposure_times_l0 dA) (0,[3,4])=some [3,4,9] from itR 5 (by kernel_rfl)]
 simp only[Option.bind_some]
 have hs:sYSort_int_vec0 [3,4,9]=some [3,4,9]:=by
  unfold sYSort_int_vec0
  rw[ck_t (by simp)]
  exact congrArg some (sortI_id (l:=[3,4,9]) (by simp))
 rw[hs]
 simp only[Option.bind_some,show sYCompact_int_eat0_own0 [3,4,9]=some [3,4,9] from by kernel_rfl]
theorem whereA {t:Int} (h:t=3∨t=4∨t=9):copies_Where eA 2 t=some [0]:=by
 unfold copies_Where
 rw[achk]
 have hat:copies_at eA t=some [4]:=by
  unfold copies_at
  rcases h with rfl |rfl |rfl
  ·rw[show iter (copies_at_l0 eA 3)=iter (copies_at_l0 eA 3) from rfl]
   simp only[show (ck (0≤eA.Places∧eA.Places≤268435456))=some () from ck_t (by decide),Option.bind_some,show List.replicate (Int.toNat eA.Places) (0:Int)=[0] from rfl]
   rw[show iter (copies_at_l0 eA 3) (0,[0])=some [4] from itR 5 (by kernel_rfl)];rfl
  ·simp only[show (ck (0≤eA.Places∧eA.Places≤268435456))=some () from ck_t (by decide),Option.bind_some,show List.replicate (Int.toNat eA.Places) (0:Int)=[0] from rfl]
   rw[show iter (copies_at_l0 eA 4) (0,[0])=some [4] from itR 5 (by kernel_rfl)];rfl
  ·simp only[show (ck (0≤eA.Places∧eA.Places≤268435456))=some () from ck_t (by decide),Option.bind_some,show List.replicate (Int.toNat eA.Places) (0:Int)=[0] from rfl]
   rw[show iter (copies_at_l0 eA 9) (0,[0])=some [4] from itR 5 (by kernel_rfl)];rfl
 rw[hat]
 simp only[Option.bind_some,show((0:Int) != 0)=false from rfl,Bool.false_eq_true,if_false,show access_Content 2=some true from by kernel_rfl,Bool.not_true]
 rw[show iter (copies_Where_l0 [4] 2) (0,[])=some [0] from itR 5 (by kernel_rfl)]
 rfl
theorem linkedA {t:Int} (h:t=3∨t=4∨t=9):access_Linked eA 0 t=some (0,false):=by
 unfold access_Linked
 rw[akn]
 rcases h with rfl |rfl |rfl <;> kernel_rfl
theorem grantedA:access_Granted eA 0 3=some []∧access_Granted eA 0 4=some [1]∧access_Granted eA 0 9=some [1]:=by
 have s1:sortI [1]=[1]:=sortI_id (by simp)
 have s0:sortI []=[]:=sortI_id (by simp)
 refine⟨?_,?_,?_⟩
 ·unfold access_Granted access_grants
  rw[akn,show iter (access_grants_l0 eA 3 0) (0,[])=some [] from itR 5 (by kernel_rfl)]
  simp only[Option.bind_some,Bool.not_true,Bool.false_eq_true,if_false,List.map_nil,s0]
  rw[ck_t (by simp)];rfl
 ·unfold access_Granted access_grants
  rw[akn,show iter (access_grants_l0 eA 4 0) (0,[])=some [(1,1)] from itR 5 (by kernel_rfl)]
  simp only[Option.bind_some,Bool.not_true,Bool.false_eq_true,if_false,List.map_cons,List.map_nil,s1]
  rw[ck_t (by simp)];rfl
 ·unfold access_Granted access_grants
  rw[akn,show iter (access_grants_l0 eA 9 0) (0,[])=some [(1,1)] from itR 5 (by kernel_rfl)]
  simp only[Option.bind_some,Bool.not_true,Bool.false_eq_true,if_false,List.map_cons,List.map_nil,s1]
  rw[ck_t (by simp)];rfl
theorem upA:directory_Upward dA 0 3=some [0]∧directory_Upward dA 0 4=some [0]∧directory_Upward dA 0 9=some [0,1]:=by
 have t0:directory_table_upward [[false,false],[false,false]] 0=some [true,false]:=by
  unfold directory_table_upward
  rw[ck_t (by simp),ck_t (by simp)]
  simp only[Option.bind_some]
  rw[iter_go (s':=(1,[true,false],[])) ?_]
  ·exact itR 1 (by kernel_rfl)
  ·unfold directory_table_upward_l0
   show(idx _ _).bind _=_
   rw[show idx [[false,false],[false,false]] (0:Int)=some [false,false] from rfl]
   simp only[Option.bind_some]
   rw[show iter (directory_table_upward_l1 0 [false,false]) (0,(List.replicate ([[false,false],[false,false]]:List (List Bool)).length false).set (Int.toNat 0) true,[0])=some ([true,false],[0]) from itR 5 (by kernel_rfl)]
   rfl
 have t9:directory_table_upward [[false,true],[false,false]] 0=some [true,true]:=by
  unfold directory_table_upward
  rw[ck_t (by simp),ck_t (by simp)]
  simp only[Option.bind_some]
  rw[iter_go (s':=(1,[true,true],[1])) ?_,iter_go (s':=(2,[true,true],[])) ?_]
  ·exact itR 1 (by kernel_rfl)
  ·unfold directory_table_upward_l0
   show(idx _ _).bind _=_
   rw[show idx [[false,true],[false,false]] (1:Int)=some [false,false] from rfl]
   simp only[Option.bind_some]
   rw[show iter (directory_table_upward_l1 1 [false,false]) (0,[true,true],[1])=some ([true,true],[1]) from itR 5 (by kernel_rfl)]
   rfl
  ·unfold directory_table_upward_l0
   show(idx _ _).bind _=_
   rw[show idx [[false,true],[false,false]] (0:Int)=some [false,true] from rfl]
   simp only[Option.bind_some]
   rw[show iter (directory_table_upward_l1 0 [false,true]) (0,(List.replicate ([[false,true],[false,false]]:List (List Bool)).length false).set (Int.toNat 0) true,[0])=some ([true,true],[0,1]) from itR 5 (by kernel_rfl)]
   rfl
 have th0:directory_those [true,false]=some [0]:=by
  unfold directory_those
  rw[show iter (directory_those_l0 [true,false]) (0,[])=some [0] from itR 5 (by kernel_rfl)];rfl
 have th9:directory_those [true,true]=some [0,1]:=by
  unfold directory_those
  rw[show iter (directory_those_l0 [true,true]) (0,[])=some [0,1] from itR 5 (by kernel_rfl)];rfl
 refine⟨?_,?_,?_⟩
 ·unfold directory_Upward
  rw[dkn,show directory_at dA 3=some [[false,false],[false,false]] from by kernel_rfl]
  simp only[Option.bind_some,Bool.not_true,Bool.false_eq_true,if_false,t0,th0]
 ·unfold directory_Upward
  rw[dkn,show directory_at dA 4=some [[false,false],[false,false]] from by kernel_rfl]
  simp only[Option.bind_some,Bool.not_true,Bool.false_eq_true,if_false,t0,th0]
 ·unfold directory_Upward
  rw[dkn,show directory_at dA 9=some [[false,true],[false,false]] from by kernel_rfl]
  simp only[Option.bind_some,Bool.not_true,Bool.false_eq_true,if_false,t9,th9]
theorem echk:readers_Check dA eA=some 0:=by
 unfold readers_Check
 rw[dchk]
 simp only[Option.bind_some,show((0:Int) != 0)=false from rfl,Bool.false_eq_true,if_false,achk]
theorem fine0:readers_fine dA eA 0 0=some true:=by
 unfold readers_fine
 rw[echk]
 kernel_rfl
theorem fine1:readers_fine dA eA 1 0=some false:=by
 unfold readers_fine
 rw[echk]
 kernel_rfl
theorem may1 {t:Int}:readers_May dA eA 1 0 t=some false:=by
 unfold readers_May
 rw[fine1]
 kernel_rfl
theorem may0:readers_May dA eA 0 0 3=some false∧readers_May dA eA 0 0 4=some false∧readers_May dA eA 0 0 9=some true:=by
 obtain⟨u3,u4,u9⟩:=upA
 obtain⟨g3,g4,g9⟩:=grantedA
 have c0:sYContains_int [0] 1=some false:=by
  unfold sYContains_int sYIndex_int
  rw[show iter (sYIndex_int_l0 [0] 1) 0=some (.inl ()) from itR 5 (by kernel_rfl)];rfl
 have c1:sYContains_int [0,1] 1=some true:=by
  unfold sYContains_int sYIndex_int
  rw[show iter (sYIndex_int_l0 [0,1] 1) 0=some (.inr 1) from itR 5 (by kernel_rfl)];rfl
 refine⟨?_,?_,?_⟩
 ·unfold readers_May readers_grant
  rw[fine0,linkedA (.inl rfl),u3,g3]
  simp only[Option.bind_some,Bool.not_true,Bool.false_eq_true,if_false]
  rw[show iter (readers_grant_l0 [] [0]) 0=some (.inl ()) from itR 5 (by kernel_rfl)]
  rfl
 ·unfold readers_May readers_grant
  rw[fine0,linkedA (.inr (.inl rfl)),u4,g4]
  simp only[Option.bind_some,Bool.not_true,Bool.false_eq_true,if_false]
  rw[iter_go (s':=1) (by
   unfold readers_grant_l0
   rw[show idx ([1]:List Int) 0=some 1 from rfl]
   simp only[Option.bind_some,c0]
   rfl),show iter (readers_grant_l0 [1] [0]) 1=some (.inl ()) from itR 5 (by kernel_rfl)]
  rfl
 ·unfold readers_May readers_grant
  rw[fine0,linkedA (.inr (.inr rfl)),u9,g9]
  simp only[Option.bind_some,Bool.not_true,Bool.false_eq_true,if_false]
  rw[iter_out (e:=.inr (1,true)) (by
   unfold readers_grant_l0
   rw[show idx ([1]:List Int) 0=some 1 from rfl]
   simp only[Option.bind_some,c1]
   rfl)]
  rfl
theorem placeN {p t:Int} (h:t=3∨t=4∨t=9) (hp:p= -1∨(p≠ -1∧readers_May dA eA p 0 t=some false)):exposure_place dA eA 2 p t=some (0,false):=by
 unfold exposure_place
 rw[whereA h]
 simp only[Option.bind_some]
 rw[iter_go (s':=1) (by
  unfold exposure_place_l0
  rw[show idx ([0]:List Int) 0=some 0 from rfl]
  simp only[show decide ((0:Int) < (([0]:List Int).length:Int))=true from rfl,if_true,Option.bind_some,linkedA h]
  rcases hp with rfl |⟨hp,hm⟩
  ·rfl
  ·rw[show (p== -1)=false from by simpa using hp,show(p != -1)=true from by simpa using hp]
   simp only[Bool.false_eq_true,if_false,if_true,hm,Option.bind_some]
   rfl),show iter (exposure_place_l0 [0] eA t p dA) 1=some (.inl ()) from iter_out (by unfold exposure_place_l0;rfl)]
 rfl
theorem place0:exposure_place dA eA 2 0 9=some (0,true):=by
 unfold exposure_place
 rw[whereA (.inr (.inr rfl))]
 simp only[Option.bind_some]
 rw[iter_out (e:=.inr (0,true)) (by
  unfold exposure_place_l0
  rw[show idx ([0]:List Int) 0=some 0 from rfl]
  simp only[show decide ((0:Int) < (([0]:List Int).length:Int))=true from rfl,if_true,Option.bind_some,linkedA (.inr (.inr rfl)),show((0:Int)== -1)=false from rfl,show((0:Int) != -1)=true from rfl,Bool.false_eq_true,if_false,may0.2.2])]
 rfl
theorem sinceN {p:Int} (h:∀t,t=3∨t=4∨t=9→exposure_place dA eA 2 p t=some (0,false)):exposure_since dA eA 2 p=some (0,false):=by
 unfold exposure_since
 rw[timesA]
 simp only[Option.bind_some]
 have s:∀(i t:Int) (j:Int),idx ([3,4,9]:List Int) i=some t→(t=3∨t=4∨t=9)→decide (i < 3)=true→IntKind.i64.wrap (i+1)=j→exposure_since_l0 [3,4,9] dA eA 2 p i=some (.go j):=fun i t j h1 h2 h3 h4=>by
  unfold exposure_since_l0
  rw[h1]
  simp only[show (([3,4,9]:List Int).length:Int)=3 from rfl,h3,if_true,Option.bind_some,h t h2,Bool.false_eq_true,if_false,h4]
 rw[iter_go (s 0 3 1 rfl (.inl rfl) rfl (by kernel_rfl)),iter_go (s 1 4 2 rfl (.inr (.inl rfl)) rfl (by kernel_rfl)),iter_go (s 2 9 3 rfl (.inr (.inr rfl)) rfl (by kernel_rfl)),show iter (exposure_since_l0 [3,4,9] dA eA 2 p) 3=some (.inl ()) from iter_out (by unfold exposure_since_l0;rfl)]
 rfl
theorem since0:exposure_since dA eA 2 0=some (9,true):=by
 unfold exposure_since
 rw[timesA]
 simp only[Option.bind_some]
 have s:∀(i t:Int) (j:Int),idx ([3,4,9]:List Int) i=some t→exposure_place dA eA 2 0 t=some (0,false)→decide (i < 3)=true→IntKind.i64.wrap (i+1)=j→exposure_since_l0 [3,4,9] dA eA 2 0 i=some (.go j):=fun i t j h1 h2 h3 h4=>by
  unfold exposure_since_l0
  rw[h1]
  simp only[show (([3,4,9]:List Int).length:Int)=3 from rfl,h3,if_true,Option.bind_some,h2,Bool.false_eq_true,if_false,h4]
 rw[iter_go (s 0 3 1 rfl (placeN (.inl rfl) (.inr ⟨by decide,may0.1⟩)) rfl (by kernel_rfl)),iter_go (s 1 4 2 rfl (placeN (.inr (.inl rfl)) (.inr ⟨by decide,may0.2.1⟩)) rfl (by kernel_rfl)),iter_out (e:=.inr (9,true)) (by
  unfold exposure_since_l0
  rw[show idx ([3,4,9]:List Int) 2=some 9 from rfl]
  simp only[show decide ((2:Int) < (([3,4,9]:List Int).length:Int))=true from rfl,if_true,Option.bind_some,place0])]
 rfl
theorem allA:exposure_All dA eA 2=some ([⟨0,9⟩],0):=by
 unfold exposure_All exposure_check
 rw[echk]
 simp only[Option.bind_some,show((0:Int) != 0)=false from rfl,Bool.false_eq_true,if_false,show access_Content 2=some true from by kernel_rfl,Bool.not_true]
 have sn:∀(i j:Int) (l:List api_Exposure),exposure_since dA eA 2 i=some (0,false)→decide (i < 2)=true→IntKind.i64.wrap (i+1)=j→exposure_All_l0 dA eA 2 (i,l)=some (.go (j,l)):=fun i j l h1 h2 h3=>by
  unfold exposure_All_l0
  simp only[show ((dA.Kinds).length:Int)=2 from rfl,h2,if_true,h1,Option.bind_some,Bool.false_eq_true,if_false,h3]
 rw[iter_go (sn (-1) 0 [] (sinceN fun t h=>placeN h (.inl rfl)) rfl (by kernel_rfl)),iter_go (s':=(1,[⟨0,9⟩])) (by
  unfold exposure_All_l0
  simp only[show ((dA.Kinds).length:Int)=2 from rfl,show decide ((0:Int) < 2)=true from rfl,if_true,since0,Option.bind_some]
  kernel_rfl),iter_go (sn 1 2 _ (sinceN fun t h=>placeN h (.inr ⟨by decide,may1⟩)) rfl (by kernel_rfl)),show iter (exposure_All_l0 dA eA 2) (2,[⟨0,9⟩])=some [⟨0,9⟩] from iter_out (by unfold exposure_All_l0;rfl)]
 rfl
theorem awake31T:top_awake31=some true:=by
 unfold top_awake31
 rw[show exposure_All (⟨[1,2],[(⟨9,1,0,1⟩:api_Member)]⟩:api_Directory) (⟨1,[(⟨3,5,0,0,0,2,0⟩:api_Access),(⟨4,1,0,1,0,0,0⟩:api_Access)]⟩:api_Estate) 2=some ([⟨0,9⟩],0) from allA]
 kernel_rfl
end Go.Vl
namespace Go.Vl
open Go Go.Proofs
theorem xproves_ok {d:api_Directory} (hd:dirOk d=true) {a:api_Estate} (h:EstOk a) {c:Int} (hc:0≤c∧c≤2) {p:Nat} {j:Nat} {t:Int} (ht:0≤t∧t≤44) {r:api_Reading} (hr1:r.Place=(j:Int)) (hr2:r.Time=t) (hr3:readers_Proves d a (p:Int) r=some true) {w:List Int} (hw:copies_Proves a c (j:Int) t w=some true):exposure_Proves d a c ⟨(p:Int),t⟩ ⟨w,r⟩=some true:=by
 unfold exposure_Proves
 rw[xcheck_sp hd h hc]
 simp only[Option.bind_some]
 rw[if_neg (by decide),hr1,hr2,if_neg (by simp),if_neg (by simp;omega),if_neg (by simp;omega),hw]
 simp only[Option.bind_some]
 rw[if_neg (by decide),if_pos (by rw[bne_iff_ne];omega),hr3]
 rfl
theorem readers_l1 {d:api_Directory} (hd:dirOk d=true) {a:api_Estate} (h:EstOk a) (hf:Few2 a) {c:Int} (hc:0≤c∧c≤2) {p:Nat} (hp:RdOk d p) {t:Int} (ht:0≤t∧t≤44) (f:Int) (m1 m2 m3 m4:zT):∃b,iter (top_TopReaders_l1 (castL (whereN a c t)) (a,m1) (c,m2) (f,t) (d,m3) ((p:Int),m4)) (false,0)=some (.inl b)∧(b=true↔inP d a c p t):=by
 have hpl:=h.places
 have hwl:=whereN_len a c t
 have key:∃e,iter (top_TopReaders_l1 (castL (whereN a c t)) (a,m1) (c,m2) (f,t) (d,m3) ((p:Int),m4)) (false,0)=some e∧(∃b,e=.inl b∧(b=true↔inP d a c p t)):=by
  refine iter_ex (body:=top_TopReaders_l1 (castL (whereN a c t)) (a,m1) (c,m2) (f,t) (d,m3) ((p:Int),m4)) (fun s=>∃i:Nat,s.2=(i:Int)∧i≤(whereN a c t).length∧(s.1=true↔∃j∈(whereN a c t).take i,readers_May d a (p:Int) (j:Int) t=some true)) (fun s=>(whereN a c t).length - s.2.toNat) _ ?_ ⟨0,rfl,Nat.zero_le _,by simp⟩
  rintro⟨b,_⟩ ⟨i,rfl,hi,hb⟩
  simp only at hb
  unfold top_TopReaders_l1
  simp only
  rw[castL_len]
  by_cases hlt:i < (whereN a c t).length
  ·left
   have hm:=List.getElem_mem hlt
   have hplj:=whereN_pl h hm
   obtain⟨w,w1,w2,w3⟩:=way_sp h hf hc t hm
   obtain⟨may,r,S,k1,k2,k3,k4,k5⟩:=readers_law hd h hp hplj t
   have hpr:=cproves_ok h hc (whereN_mem.1 hm).1 w2 w3
   rw[if_pos (by simp;omega),idx_lt (by rw[castL_len];exact hlt),castL_get hlt,w64 (by omega) (by omega)]
   simp only[Option.bind_some]
   rw[w1]
   simp only[Option.bind_some]
   rw[if_neg (by decide),hpr]
   simp only[Option.bind_some]
   rw[if_neg (by decide),k4]
   simp only[Option.bind_some]
   rw[k2]
   simp only[Option.bind_some]
   rw[k3]
   simp only[Option.bind_some]
   have hnx:∀nb:Bool,nb=(b||may)→(nb=true↔∃j∈(whereN a c t).take (i+1),readers_May d a (p:Int) (j:Int) t=some true):=fun nb hnb=>by
    subst hnb
    rw[List.take_succ_eq_append_getElem hlt,Bool.or_eq_true,hb]
    constructor
    ·rintro(⟨j,h1,h2⟩ |h1)
     ·exact⟨j,List.mem_append.2 (.inl h1),h2⟩
     ·exact⟨_,List.mem_append.2 (.inr (List.mem_cons_self ..)),by rw[k1,h1]⟩
    ·rintro⟨j,h1,h2⟩
     rcases List.mem_append.1 h1 with h1 |h1
     ·exact .inl ⟨j,h1,h2⟩
     ·simp at h1
      subst h1
      rw[k1] at h2
      exact .inr (Option.some.inj h2)
   cases may with
   |true=>
    obtain⟨q1,q2,q3⟩:=k5 rfl
    rw[if_neg (by decide),if_pos rfl,q3]
    simp only[Option.bind_some]
    rw[if_neg (by decide),if_pos trivial,xproves_ok hd h hc ht q1 q2 q3 hpr]
    simp only[Option.bind_some]
    rw[if_neg (by decide)]
    exact⟨_,rfl,⟨i+1,rfl,by omega,hnx _ rfl⟩,by simp only;omega⟩
   |false=>
    rw[if_neg (by decide),if_neg (by decide)]
    simp only[Option.bind_some]
    rw[if_neg (by decide),if_neg (by decide)]
    simp only[Option.bind_some]
    rw[if_neg (by decide)]
    exact⟨_,rfl,⟨i+1,rfl,by omega,hnx _ rfl⟩,by simp only;omega⟩
  ·right
   rw[if_neg (by simp;omega)]
   refine⟨_,rfl,b,rfl,?_⟩
   rw[hb,List.take_of_length_le (by omega)]
   rfl
 obtain⟨e,e1,b,rfl,e2⟩:=key
 exact⟨b,e1,e2⟩
theorem readers_l0 {d:api_Directory} (hd:dirOk d=true) {a:api_Estate} (h:EstOk a) (hf:Few2 a) {c:Int} (hc:0≤c∧c≤2) {p:Nat} (hp:RdOk d p) (m1 m2 m3 m4:zT):∃f,iter (top_TopReaders_l0 (a,m1) (c,m2) (d,m3) ((p:Int),m4)) (-1,0)=some (.inl f)∧((f= -1∧∀u,0≤u→u≤44→¬inP d a c p u)∨((0≤f∧f≤44)∧inP d a c p f∧∀u,0≤u→u < f→¬inP d a c p u)):=by
 have key:∃e,iter (top_TopReaders_l0 (a,m1) (c,m2) (d,m3) ((p:Int),m4)) (-1,0)=some e∧(∃f,e=.inl f∧((f= -1∧∀u,0≤u→u≤44→¬inP d a c p u)∨((0≤f∧f≤44)∧inP d a c p f∧∀u,0≤u→u < f→¬inP d a c p u))):=by
  refine iter_ex (body:=top_TopReaders_l0 (a,m1) (c,m2) (d,m3) ((p:Int),m4)) (fun s=>0≤s.2∧s.2≤45∧((s.1= -1∧∀u,0≤u→u < s.2→¬inP d a c p u)∨((0≤s.1∧s.1 < s.2)∧inP d a c p s.1∧∀u,0≤u→u < s.1→¬inP d a c p u))) (fun s=>(45 - s.2).toNat) _ ?_ ⟨by simp,by simp,.inl ⟨rfl,fun u h1 h2=>by simp only at h2;omega⟩⟩
  rintro⟨f,t⟩ ⟨h1,h2,h3⟩
  simp only at h1 h2 h3
  unfold top_TopReaders_l0
  simp only
  by_cases hlt:t < 45
  ·left
   obtain⟨b,b1,b2⟩:=readers_l1 hd h hf hc hp (t:=t) ⟨h1,by omega⟩ f m1 m2 m3 m4
   rw[if_pos (by simpa using hlt),where_sp h hc]
   simp only[Option.bind_some]
   rw[b1,w64 (by omega) (by omega)]
   simp only[Option.bind_some]
   by_cases hv:(b&&decide (f < 0))=true
   ·rw[if_pos hv]
    simp only[Bool.and_eq_true,decide_eq_true_eq] at hv
    refine⟨_,rfl,⟨by simp only;omega,by simp only;omega,.inr ⟨by simp only;omega,b2.1 hv.1,fun u u1 u2=>?_⟩⟩,by simp only;omega⟩
    rcases h3 with h3 |h3
    ·exact h3.2 u u1 u2
    ·omega
   ·rw[if_neg hv]
    simp only[Bool.and_eq_true,decide_eq_true_eq,not_and] at hv
    refine⟨_,rfl,⟨by simp only;omega,by simp only;omega,?_⟩,by simp only;omega⟩
    rcases h3 with h3 |h3
    ·refine .inl ⟨h3.1,fun u u1 u2=>?_⟩
     simp only at u2
     by_cases hu:u < t
     ·exact h3.2 u u1 hu
     ·have:u=t:=by omega
      subst this
      intro hin
      exact hv (b2.2 hin) (by omega)
    ·exact .inr ⟨by simp only;omega,h3.2⟩
  ·right
   rw[if_neg (by simpa using hlt)]
   refine⟨_,rfl,f,rfl,?_⟩
   have:t=45:=by omega
   subst this
   rcases h3 with h3 |h3
   ·exact .inl ⟨h3.1,fun u u1 u2=>h3.2 u u1 (by omega)⟩
   ·exact .inr ⟨by omega,h3.2⟩
 obtain⟨e,e1,f,rfl,e2⟩:=key
 exact⟨f,e1,e2⟩
theorem rreader_sp {d:api_Directory} {p:Nat} (hp:p < d.Kinds.length) (hn:d.Kinds.length≤1000):∃b,ref23_Reader d (p:Int)=some b∧(b=true→RdOk d p):=by
 unfold ref23_Reader
 rw[rexists_sp (by omega),ex_nat hp]
 simp only[Option.bind_some,if_true]
 rw[idx_lt hp]
 refine⟨_,rfl,fun h=>⟨hp,?_⟩⟩
 rw[List.getElem?_eq_getElem hp]
 simpa using h
theorem TopReaders_law (a0:List Int):top_TopReaders a0=some true:=by
 unfold top_TopReaders
 by_cases hlen:500 < (a0.length:Int)
 ·rw[if_pos (by simpa using hlen),awake31T];rfl
 rw[if_neg (by simpa using hlen)]
 have h0:TapeOk ⟨a0,0⟩:=⟨by simp,by simp only;omega⟩
 obtain⟨d,m1,e1,h1,hD⟩:=directory_spT h0
 rw[e1]
 simp only[Option.bind_some]
 obtain⟨a,m2,e2,h2,hE⟩:=estate_spT h1 hD
 rw[e2]
 simp only[Option.bind_some]
 have hb3:=tnextV_bd m2 (n:=3) (by omega)
 rw[next_spT h2 (by omega)]
 simp only[Option.bind_some]
 have h3:=tnextT_ok h2
 generalize tnextV m2 3=c at *
 generalize tnextT m2=m3 at *
 obtain⟨k3,k7⟩:=hD.few
 have hb4:=tnextV_bd m3 (n:=(d.Kinds.length:Int)) (by omega)
 rw[next_spT h3 (by omega)]
 simp only[Option.bind_some]
 generalize tnextV m3 (d.Kinds.length:Int)=p at *
 generalize tnextT m3=m4 at *
 obtain⟨p,rfl⟩:=Int.eq_ofNat_of_zero_le hb4.1
 have hpn:p < d.Kinds.length:=by omega
 obtain⟨b,b1,b2⟩:=rreader_sp hpn (by omega)
 rw[show ref23_Reader d ((p:Nat):Int)=some b from b1]
 simp only[Option.bind_some]
 cases b with
 |false=>rw[if_pos (by decide),awake31T];rfl
 |true=>
  have hp:=b2 rfl
  have hc:0≤c∧c≤2:=by omega
  have hd:=hD.ok
  have ha:=hE.ok
  rw[if_neg (by decide)]
  obtain⟨f,f1,f2⟩:=readers_l0 hd ha hE.few hc hp m2 m3 m1 m4
  rw[f1]
  simp only[Option.bind_some]
  obtain⟨L,r,l1,r1,r2,r3⟩:=since_ex hd ha hc hp
  have hLb:∀x∈L,0≤x∧x≤44:=fun x hx=>by
   rcases(l1 x).1 hx with ⟨e,he,rfl⟩ |⟨e,he,rfl⟩
   ·exact hE.ev e he
   ·have:=hD.ev e he;omega
  have hsin:exposure_Since d a c (p:Int)=some (r.1,r.2):=by
   unfold exposure_Since
   rw[xcheck_sp hd ha hc]
   simp only[Option.bind_some]
   rw[if_neg (by decide),r1]
   rfl
  rw[hsin]
  simp only[Option.bind_some]
  have hfin:(r.2=true∧0≤f∧r.1=f)∨(r.2=false∧f= -1):=by
   rcases f2 with ⟨g1,g2⟩ |⟨g1,g2,g3⟩
   ·right
    refine⟨?_,g1⟩
    cases hr:r.2 with
    |false=>rfl
    |true=>
     obtain⟨q1,q2,q3⟩:=r3 hr
     have:=hLb _ q1
     exact absurd q2 (g2 _ this.1 this.2)
   ·left
    obtain⟨t',t1,t2,t3⟩:=inP_earlier ha hE.few hc l1 g2
    have hb:=hLb _ t1
    have e:t'=f:=by
     by_cases hlt:t' < f
     ·exact absurd t3 (g3 t' hb.1 hlt)
     ·omega
    subst e
    have hr:=r2.2 ⟨t',t1,t3⟩
    obtain⟨q1,q2,q3⟩:=r3 hr
    refine⟨hr,g1.1,?_⟩
    have h9:=q3 t' t1 t3
    have hb2:=hLb _ q1
    by_cases hlt:r.1 < t'
    ·exact absurd q2 (g3 _ hb2.1 hlt)
    ·omega
  rcases hfin with ⟨q1,q2,q3⟩ |⟨q1,q2⟩
  ·rw[q1,if_pos (by simp[q2]),if_neg (by decide),if_pos (by simpa using q3),awake31T]
   rfl
  ·rw[q1,if_pos (by simp[q2]),if_pos (by decide),awake31T]
   rfl
end Go.Vl
