/- ref15.Valid answers as history.Valid, in plain words. Conditions: none. -/
import Derived.Test.YtjnflahicimmlaaGreatGqS
import Derived.Test.YtjnflahicimmlaaGreatGBx
import Derived.Test.YtjnflahicimmlaaGreatGpS
import Derived.Test.YtjnflahicimmlaaGreatGzz
set_option linter.unusedSimpArgs false
set_option linter.unusedVariables false
namespace Go.Vl
open Go
theorem ids_scan:∀(l:List zO) (M:List (Int×Bool)),(M.map (·.1)).Nodup→(∀q∈M,q.2=true)→
  scanL (fun (M:List (Int×Bool)) (o:zO)=>if isS M o.ID=true then(.inl (.inr 7):(Unit ⊕ Int) ⊕ List (Int×Bool)) else .inr (mset inE M o.ID true)) (fun _=>.inl ()) l M=if(M.map (·.1)++l.map (·.ID)).Nodup then .inl () else .inr 7
 |[],M,hn,_=>by simp[scanL,hn]
 |o::l,M,hn,ht=>by
  have hi:isS M o.ID=true↔o.ID∈M.map (·.1):=by
   unfold isS
   constructor
   ·intro hg
    cases hq:mget inE M o.ID with
    |none=>rw[hq] at hg;cases hg
    |some v=>exact List.mem_map.2 ⟨_,mget_some inE_eq hq,rfl⟩
   ·intro hm
    obtain⟨q,hq,e⟩:=List.mem_map.1 hm
    rw[← e,mget_of inE_eq hn (show (q.1,q.2)∈M from hq),ht q hq];rfl
  rw[scanL]
  by_cases h:isS M o.ID=true
  ·rw[if_pos h,if_neg]
   intro hnd
   rw[List.map_cons] at hnd
   have:=(List.nodup_append.1 hnd).2.2 o.ID (hi.1 h) o.ID (by simp)
   exact this rfl
  ·rw[if_neg h]
   have hm:o.ID∉M.map (·.1):=fun q=>h (hi.2 q)
   have hk:=(mset_keys inE_eq M o.ID true).2 hm
   simp only
   rw[ids_scan l (mset inE M o.ID true) (by
    rw[hk,List.map_append]
    refine List.nodup_append.2 ⟨hn,by simp,fun a ha b hb=>?_⟩
    simp only[List.map_cons,List.map_nil,List.mem_singleton] at hb
    subst hb
    exact fun e=>hm (e▸ha)) (fun q hq=>by
    rw[hk] at hq
    rcases List.mem_append.1 hq with hq |hq
    ·exact ht q hq
    ·rw[List.mem_singleton] at hq;subst hq;rfl),hk]
   simp
theorem rids_eq {a0:zR} (hl:a0.Objects.length≤1000000):iter (rYValid_l1 a0) (0,[])=some (if (a0.Objects.map (·.ID)).Nodup then .inl () else .inr 7):=by
 rw[iter_scanL (body:=rYValid_l1 a0) a0.Objects (fun (M:List (Int×Bool)) (o:zO)=>if isS M o.ID=true then(.inl (.inr 7):(Unit ⊕ Int) ⊕ List (Int×Bool)) else .inr (mset inE M o.ID true)) (fun _=>.inl ()) (fun i hi M=>?_) (fun M=>?_),ids_scan _ _ (by simp) (fun q hq=>by cases hq)]
 ·simp
 ·unfold rYValid_l1
  rw[if_pos (by simp;omega),idx_lt hi]
  simp only[Option.bind_some]
  unfold isS
  rw[w64 (by omega) (by omega)]
  split <;> rfl
 ·unfold rYValid_l1
  rw[if_neg (by simp)]
theorem delQ_untimed:∀(l:List zE) (m:List (ByteArray×Bool)),delQ (l.map fun e=>⟨e.Kind,e.Name,e.Commit,0⟩) m=delQ l m∧manyB (l.map fun e=>⟨e.Kind,e.Name,e.Commit,0⟩) m=manyB l m
 |[],m=>⟨rfl,rfl⟩
 |e::l,m=>by
  have e1:nameStep m ⟨e.Kind,e.Name,e.Commit,0⟩=nameStep m e:=rfl
  obtain⟨h1,h2⟩:=delQ_untimed l (nameStep m e)
  simp only[List.map_cons,delQ,manyB,e1,h1,h2,and_self]
open Classical in
theorem rorder_eq {a0:zR} (hl:a0.Events.length≤1000000):iter (rYwhole_l3 a0) 1=some (if sortB a0.Events=true then .inl () else .inr 11):=by
 have key:∀(m i:Nat),1≤i→i+m=a0.Events.length→iter (rYwhole_l3 a0) (i:Int)=some (if ∀j,i≤j→∀(h:j < a0.Events.length),(a0.Events[j - 1]'(by omega)).Time≤a0.Events[j].Time then .inl () else .inr 11):=fun m=>by
  induction m with
  |zero=>
   intro i h1 hi
   rw[if_pos (fun j hj h=>by omega)]
   refine iter_out ?_
   unfold rYwhole_l3
   rw[if_neg (by simp;omega)]
  |succ m ih=>
   intro i h1 hi
   have hil:i < a0.Events.length:=by omega
   have hw:IntKind.i64.wrap ((i:Int) - 1)=((i - 1:Nat):Int):=by rw[w64 (by omega) (by omega)];omega
   by_cases hc:a0.Events[i].Time < (a0.Events[i - 1]'(by omega)).Time
   ·rw[if_neg (fun g=>by have:=g i (Nat.le_refl _) hil;omega)]
    refine iter_out ?_
    unfold rYwhole_l3
    rw[if_pos (by simp;omega),idx_lt hil,hw,idx_lt (show i - 1 < a0.Events.length by omega)]
    simp only[Option.bind_some]
    rw[if_pos (by simpa using hc)]
   ·rw[iter_go (s':=((i+1:Nat):Int)) (by
     unfold rYwhole_l3
     rw[if_pos (by simp;omega),idx_lt hil,hw,idx_lt (show i - 1 < a0.Events.length by omega)]
     simp only[Option.bind_some]
     rw[if_neg (by simpa using hc),w64 (by omega) (by omega)];rfl),ih (i+1) (by omega) (by omega)]
    congr 1
    refine ite_congr (propext ⟨fun g j hj h=>?_,fun g j hj h=>g j (by omega) h⟩) (fun _=>rfl) (fun _=>rfl)
    rcases Nat.lt_or_eq_of_le hj with h3 |h3
    ·exact g j h3 h
    ·subst h3;omega
 have hP:(∀j,1≤j→∀(h:j < a0.Events.length),(a0.Events[j - 1]'(by omega)).Time≤a0.Events[j].Time)↔a0.Events.Pairwise fun x y=>x.Time≤y.Time:=by
  constructor
  ·intro g
   rw[List.pairwise_iff_getElem]
   intro i j hi hj hij
   induction j with
   |zero=>omega
   |succ j ih=>
    have g1:=g (j+1) (by omega) hj
    simp only[Nat.add_sub_cancel] at g1
    rcases Nat.lt_succ_iff_lt_or_eq.1 hij with h3 |h3
    ·have:=ih (by omega) h3;omega
    ·subst h3;exact g1
  ·intro g j hj h
   exact List.pairwise_iff_getElem.1 g (j - 1) j (by omega) h (by omega)
 by_cases h0:a0.Events.length=0
 ·have:a0.Events=[]:=List.eq_nil_of_length_eq_zero h0
  rw[iter_out (e:=.inl ()) (by unfold rYwhole_l3;rw[this];rfl),this]
  simp[sortB]
 ·have:=key (a0.Events.length - 1) 1 (Nat.le_refl _) (by omega)
  have h1:iter (rYwhole_l3 a0) 1=_:=this
  rw[h1]
  unfold sortB
  by_cases hc:a0.Events.Pairwise fun x y=>x.Time≤y.Time
  ·rw[if_pos (hP.2 hc),decide_eq_true hc];rfl
  ·rw[if_neg (fun g=>hc (hP.1 g)),decide_eq_false hc];rfl
theorem rwhole_eq {a0:zR} (hne:a0.Events.length≤300) (hno:a0.Objects.length≤400) (hob:∀o∈a0.Objects,objE o=0) (hw:a0.Events.any wrongB=false) (hu:(a0.Objects.map (·.ID)).Nodup):
  rYwhole a0=some (if (a0.Objects.any (fun o=>!hereB (objM a0.Objects) o)||nlB (objM a0.Objects) a0.Events [])=true then 6 else if cycB (objM a0.Objects)=true then 8 else if a0.Events.any timeB=true then 2 else if sortB a0.Events=false then 11 else if manyB a0.Events []=true then 3 else 0):=by
 have hsz:∀o∈a0.Objects,o.Items.length≤1000000∧o.Parents.length≤1000000:=fun o ho=>by
  have:=(objE_zero.1 (hob o ho)).2.1
  omega
 have hkind:∀e∈a0.Events,e.Kind=1∨e.Kind=2:=fun e he=>by
  have:=List.any_eq_false.1 hw e he
  unfold wrongB at this
  by_cases k1:e.Kind=1
  ·exact .inl k1
  ·by_cases k2:e.Kind=2
   ·exact .inr k2
   ·simp[k1,k2] at this
 have hnl:=nl_split (all:=objM a0.Objects) a0.Events [] [] hkind (by simp) (fun n=>by simp[mget,mfind])
 unfold rYwhole
 rw[iter_allL a0.Objects (hereB (objM a0.Objects)) 6 (fun i hi=>?_) ?_]
 ·have e1:a0.Objects.all (hereB (objM a0.Objects))= !a0.Objects.any (fun o=>!hereB (objM a0.Objects) o):=by
   rw[List.not_any_eq_all_not];simp
  rw[e1]
  cases h5:a0.Objects.any (fun o=>!hereB (objM a0.Objects) o) with
  |true=>rfl
  |false=>
   simp only[Bool.not_false,if_true,Option.bind_some,Bool.false_or]
   rw[iter_allL a0.Events (fun e=>!setBad (objM a0.Objects) e) 6 (fun i hi=>?_) ?_]
   ·have e2:(a0.Events.all fun e=>!setBad (objM a0.Objects) e)= !a0.Events.any (setBad (objM a0.Objects)):=by rw[List.not_any_eq_all_not]
    rw[e2,hnl]
    cases h6:a0.Events.any (setBad (objM a0.Objects)) with
    |true=>rfl
    |false=>
     simp only[Bool.not_false,if_true,Option.bind_some,Bool.false_or]
     rw[runtimed_eq (by omega)]
     simp only[Option.bind_some]
     have hn:rYnames (⟨[],a0.Events.map fun e=>⟨e.Kind,e.Name,e.Commit,0⟩⟩:zR) 0=some (namesW 0 (a0.Events.map fun e=>⟨e.Kind,e.Name,e.Commit,0⟩) ([],true,true)):=by
      unfold rYnames
      rw[ck_t (by simp;omega)];rfl
     rw[hn]
     obtain⟨out',e3,_⟩:=names_fold (t:=0) (a0.Events.map fun e=>⟨e.Kind,e.Name,e.Commit,0⟩) [] [] true true (fun e he=>by obtain⟨e',_,rfl⟩:=List.mem_map.1 he;exact Int.le_refl _) ⟨List.Pairwise.nil,by simp,fun n=>by simp⟩
     rw[e3,(delQ_untimed a0.Events []).1,(delQ_untimed a0.Events []).2]
     simp only[Option.bind_some,Bool.true_and]
     cases h7:delQ a0.Events [] with
     |true=>rfl
     |false=>
      simp only[Bool.not_false,Bool.not_true,Bool.false_eq_true,if_false]
      rw[rcyc_eq ⟨by omega,hsz⟩ hu (fun o ho hk=>?_) (fun o ho j hj=>?_)]
      ·simp only[Option.bind_some]
       cases h8:cycB (objM a0.Objects) with
       |true=>rfl
       |false=>
        simp only[Bool.false_eq_true,if_false]
        rw[iter_allL a0.Events (fun e=>!timeB e) 2 (fun i hi=>?_) ?_]
        ·have e4:(a0.Events.all fun e=>!timeB e)= !a0.Events.any timeB:=by rw[List.not_any_eq_all_not]
         rw[e4]
         cases h9:a0.Events.any timeB with
         |true=>rfl
         |false=>
          simp only[Bool.not_false,if_true,Option.bind_some,Bool.false_eq_true,if_false]
          rw[rorder_eq (by omega)]
          cases h10:sortB a0.Events with
          |false=>rfl
          |true=>
           simp only[if_true,Option.bind_some,Bool.true_eq_false,if_false]
           cases manyB a0.Events [] <;> rfl
        ·unfold rYwhole_l2
         rw[if_neg (by simp)]
        ·unfold rYwhole_l2
         rw[if_pos (by simp;omega),idx_lt hi,w64 (by omega) (by omega)]
         simp only[Option.bind_some]
         unfold timeB
         by_cases c1:a0.Events[i].Time < 0
         ·simp[c1]
         ·by_cases c2:1099511627776 < a0.Events[i].Time <;> simp[c1,c2]
      ·have hr:=(objE_zero.1 (hob o ho)).2.2
       unfold rightB at hr
       by_cases k1:o.Kind=1
       ·rw[if_pos k1] at hr
        unfold otherB at hr
        simp at hr
        exact hr.2.2.1
       ·rw[if_neg k1] at hr
        by_cases k2:o.Kind=2
        ·rw[if_pos k2] at hr
         unfold otherB at hr
         simp at hr
         exact hr.2.1.2.1
        ·rw[if_neg k2,if_neg hk] at hr;cases hr
      ·have h1:=List.any_eq_false.1 h5 o ho
       simp only[Bool.not_eq_true',Bool.not_eq_false] at h1
       have hk:kindM (objM a0.Objects) j≠0:=by
        unfold hereB at h1
        simp only[Bool.and_eq_true,List.all_eq_true,Bool.or_eq_true,beq_iff_eq,bne_iff_ne] at h1
        obtain⟨g1,g2,g3⟩:=h1
        unfold belowO at hj
        rcases List.mem_append.1 hj with hj |hj
        ·obtain⟨x,hx,rfl⟩:=List.mem_map.1 hj
         rcases g1 x hx with e |e <;> rw[e] <;> decide
        ·split at hj
         ·rename_i k3
          rcases List.mem_cons.1 hj with rfl |hj
          ·rcases g3 with e |e
           ·exact absurd k3 e
           ·rw[e];decide
          ·rw[g2 j hj];decide
         ·cases hj
       unfold kindM at hk
       rw[mget_objM] at hk
       cases hf:a0.Objects.find? (fun o=>o.ID==j) with
       |none=>rw[hf] at hk;exact absurd rfl hk
       |some p=>exact⟨p,List.mem_of_find?_eq_some hf,by have:=List.find?_some hf;simpa using this⟩
   ·unfold rYwhole_l1
    rw[if_neg (by simp)]
   ·unfold rYwhole_l1
    rw[if_pos (by simp;omega),idx_lt hi,w64 (by omega) (by omega)]
    simp only[Option.bind_some,rkind_eq (show a0.Objects.length≤1000000 by omega)]
    unfold setBad
    by_cases k1:a0.Events[i].Kind=1
    ·by_cases k2:kindM (objM a0.Objects) a0.Events[i].Commit=3 <;> simp[k1,k2]
    ·simp[k1]
 ·unfold rYwhole_l0
  rw[if_neg (by simp)]
 ·have ho:=hsz _ (List.getElem_mem hi)
  unfold rYwhole_l0
  rw[if_pos (by simp;omega),idx_lt hi,w64 (by omega) (by omega)]
  simp only[Option.bind_some]
  rw[rnamed_eq (by omega) ho.1 ho.2]
  simp only[Option.bind_some]
  cases hereB (objM a0.Objects) a0.Objects[i] <;> rfl
theorem rValid_eq {a0:zR} (hf:FitR a0):rYValid a0=some (validE a0):=by
 unfold rYValid validE
 by_cases h1:400 < a0.Objects.length∨300 < a0.Events.length
 ·rw[if_pos h1]
  have:(decide (400 < ((a0.Objects).length:Int))||decide (300 < ((a0.Events).length:Int)))=true:=by
   simp only[Bool.or_eq_true,decide_eq_true_eq];omega
  rw[this];rfl
 ·rw[if_neg h1]
  have:(decide (400 < ((a0.Objects).length:Int))||decide (300 < ((a0.Events).length:Int)))=false:=by
   simp only[Bool.or_eq_false_iff,decide_eq_false_iff_not];omega
  rw[this]
  simp only[Option.bind_some,Bool.false_eq_true,if_false]
  rw[iter_allL a0.Objects (fun o=>!(objE o != 0)) 1 (fun i hi=>?_) ?_]
  ·have e1:(a0.Objects.all fun o=>!(objE o != 0))= !a0.Objects.any (fun o=>objE o != 0):=by rw[List.not_any_eq_all_not]
   rw[e1]
   cases h2:a0.Objects.any (fun o=>objE o != 0) with
   |true=>rfl
   |false=>
    simp only[Bool.not_false,if_true,Option.bind_some,Bool.false_or]
    rw[revents_eq (by omega) hf.2]
    cases h3:a0.Events.any wrongB with
    |true=>rfl
    |false=>
     simp only[Bool.false_eq_true,if_false,Option.bind_some]
     rw[if_neg (by decide),rids_eq (by omega)]
     by_cases h4:(a0.Objects.map (·.ID)).Nodup
     ·rw[if_pos h4,if_neg (not_not_intro h4)]
      simp only[Option.bind_some]
      rw[rwhole_eq (by omega) (by omega) (fun o ho=>by
       have:=List.any_eq_false.1 h2 o ho
       simpa using this) h3 h4]
      rfl
     ·rw[if_neg h4,if_pos h4];rfl
  ·unfold rYValid_l0
   rw[if_neg (by simp)]
  ·unfold rYValid_l0
   rw[if_pos (by simp;omega),idx_lt hi,w64 (by omega) (by omega)]
   simp only[Option.bind_some]
   rw[rvalid_eq (hf.1 _ (List.getElem_mem hi))]
   simp only[Option.bind_some]
   cases objE a0.Objects[i] != 0 <;> rfl
end Go.Vl
namespace Go.Vl
open Go
theorem nodup_lenE {α:Type}:∀{l m:List α},l.Nodup→l ⊆ m→l.length≤m.length
 |[],_,_,_=>Nat.zero_le _
 |x::l,m,h1,h2=>by
  rw[List.nodup_cons] at h1
  obtain⟨s,t,rfl⟩:=List.append_of_mem (h2 (List.mem_cons_self ..))
  have:l ⊆ s++t:=fun y hy=>by
   rcases List.mem_append.1 (h2 (List.mem_cons_of_mem _ hy)) with h |h
   ·exact List.mem_append_left _ h
   ·rcases List.mem_cons.1 h with rfl |h
    ·exact absurd hy h1.1
    ·exact List.mem_append_right _ h
  have:=nodup_lenE h1.2 this
  simp only[List.length_append,List.length_cons] at this ⊢
  omega
theorem mset_in {κ ν:Type} {e:κ→κ→Bool} {m:List (κ×ν)} {k:κ} {v:ν} {q:κ×ν} (h:q∈mset e m k v):q=(k,v)∨q∈m:=by
 induction m with
 |nil=>rw[mset_nil] at h;exact .inl (List.mem_singleton.1 h)
 |cons r m ih=>
  rw[mset_cons] at h
  split at h
  ·rcases List.mem_cons.1 h with h |h
   ·exact .inl h
   ·exact .inr (List.mem_cons_of_mem _ h)
  ·rcases List.mem_cons.1 h with h |h
   ·exact .inr (h▸List.mem_cons_self ..)
   ·rcases ih h with h |h
    ·exact .inl h
    ·exact .inr (List.mem_cons_of_mem _ h)
theorem refsF_mem {t:Int}:∀{l:List zE} {m:List (ByteArray×Int)} {q:ByteArray×Int},q∈refsF t m l→q∈m∨∃e∈l,e.Kind=1∧e.Time≤t∧q=(e.Name,e.Commit)
 |[],m,q,h=>.inl h
 |e::l,m,q,h=>by
  simp only[refsF] at h
  split at h
  ·exact .inl h
  ·rename_i ht
   rcases refsF_mem h with h |⟨e',h1,h2⟩
   ·unfold refStep at h
    split at h
    ·rename_i hk
     rcases mset_in h with h |h
     ·exact .inr ⟨e,List.mem_cons_self ..,hk,by omega,h⟩
     ·exact .inl h
    ·exact .inl ((mdel_sub m e.Name).subset h)
   ·exact .inr ⟨e',List.mem_cons_of_mem _ h1,h2⟩
theorem nl_commit {all:List (Int×zO)}:∀{l:List zE} {m:List (ByteArray×Bool)},nlB all l m=false→∀e∈l,e.Kind=1→kindM all e.Commit=3
 |[],_,_,e,he,_=>by cases he
 |e'::l,m,h,e,he,hk=>by
  rw[nl_cons,Bool.or_eq_false_iff] at h
  rcases List.mem_cons.1 he with rfl |he
  ·have:=h.1
   unfold bareB at this
   rw[Bool.or_eq_false_iff,Bool.and_eq_false_iff] at this
   rcases this.1 with h2 |h2
   ·simp[hk] at h2
   ·simpa using h2
  ·exact nl_commit h.2 e he hk
theorem wgt_le {n:Nat}:∀{l:List (Int×zO)},(∀q∈l,(namesO q.2).length≤n)→wgt (fun _=>false) l≤l.length * n
 |[],_=>by simp[wgt]
 |q::l,h=>by
  have h1:=h q (by simp)
  have h2:=wgt_le (l:=l) fun r hr=>h r (by simp[hr])
  simp only[wgt,Bool.false_eq_true,if_false,List.length_cons,Nat.add_mul]
  omega
theorem names_len (o:zO):(namesO o).length≤o.Parents.length+o.Items.length+1:=by
 unfold namesO
 split <;> simp <;> omega
section
variable {a0:zR} (V:OkV a0)
include V
theorem OkV.obj {o:zO} (h:o∈a0.Objects):o.Data.length≤65536∧o.Items.length≤64∧o.Parents.length≤8:=(objE_zero.1 (V.ob o h)).2.1
theorem OkV.idx:hYindex a0=some (objM a0.Objects,true):=by
 rw[index_eq (by have:=V.no;omega),decide_eq_true (idxM_single.2 V.nd),idxM_nodup V.nd]
theorem OkV.okH:OkH a0 (objM a0.Objects):=by
 refine⟨by have:=V.ne;omega,by rw[objM_keys];exact V.nd,fun q hq=>?_,?_⟩
 ·obtain⟨o,ho,rfl⟩:=List.mem_map.1 hq
  have:=V.obj ho
  simp only[fitO,Bool.and_eq_true,decide_eq_true_eq];omega
 ·have:=wgt_le (n:=73) (l:=objM a0.Objects) fun q hq=>by
   obtain⟨o,ho,rfl⟩:=List.mem_map.1 hq
   have h1:=V.obj ho
   have h2:=names_len o
   show(namesO o).length≤73
   omega
  have h2:=V.no
  have h3:(objM a0.Objects).length=a0.Objects.length:=by simp[objM]
  rw[h3] at this
  omega
theorem OkV.get {o:zO} (h:o∈a0.Objects):mget inE (objM a0.Objects) o.ID=some o:=mget_of inE_eq (by rw[objM_keys];exact V.nd) (List.mem_map.2 ⟨o,h,rfl⟩)
omit V in
theorem objM_mem {l:List zO} {id:Int} {o:zO} (h:mget inE (objM l) id=some o):o∈l∧o.ID=id:=by
 obtain⟨o',h1,h2⟩:=List.mem_map.1 (mget_some inE_eq h)
 cases h2
 exact⟨h1,rfl⟩
omit V in
theorem kind_in {l:List zO} {id:Int} (h:kindM (objM l) id≠0):∃o∈l,o.ID=id∧kindM (objM l) id=o.Kind:=by
 unfold kindM at h ⊢
 cases hg:mget inE (objM l) id with
 |none=>rw[hg] at h;exact absurd rfl h
 |some o=>exact⟨o,(objM_mem hg).1,(objM_mem hg).2,rfl⟩
theorem OkV.nm {o:zO} (h:o∈a0.Objects):nmO (objM a0.Objects) o.ID=namesO o:=by
 unfold nmO;rw[V.get h];rfl
theorem OkV.named {o:zO} (h:o∈a0.Objects) {j:Int} (hj:j∈namesO o):∃p∈a0.Objects,p.ID=j:=by
 have h1:=V.hr o h
 unfold hereB at h1
 simp only[Bool.and_eq_true,List.all_eq_true,Bool.or_eq_true,beq_iff_eq,bne_iff_ne] at h1
 obtain⟨h2,h3,h4⟩:=h1
 unfold namesO at hj
 simp only[List.mem_append,List.mem_map] at hj
 have hk:kindM (objM a0.Objects) j≠0:=by
  rcases hj with (hj |⟨x,hx,rfl⟩) |hj
  ·rw[h3 j hj];decide
  ·rcases h2 x hx with e |e <;> rw[e] <;> decide
  ·split at hj
   ·rename_i hk
    rw[List.mem_singleton.1 hj]
    rcases h4 with e |e
    ·exact absurd hk e
    ·rw[e];decide
   ·cases hj
 obtain⟨p,hp,h5,_⟩:=kind_in hk
 exact⟨p,hp,h5⟩
theorem OkV.seeds {t id:Int} (h:id∈seedsAt a0 t):∃p∈a0.Objects,p.ID=id∧p.Kind=3:=by
 unfold seedsAt at h
 obtain⟨q,hq,rfl⟩:=List.mem_map.1 h
 rcases refsF_mem hq with h |⟨e,he,hk,_,rfl⟩
 ·cases h
 ·have:=nl_commit V.nl e he hk
  obtain⟨p,hp,h1,h2⟩:=kind_in (l:=a0.Objects) (id:=e.Commit) (by rw[this];decide)
  exact⟨p,hp,h1,by rw[← h2];exact this⟩
theorem OkV.rch {seeds:List Int} (hs:∀id∈seeds,∃p∈a0.Objects,p.ID=id) {id:Int} (h:Rch (objM a0.Objects) seeds id):∃p∈a0.Objects,p.ID=id:=by
 induction h with
 |seed h=>exact hs _ h
 |step _ h2 ih=>
  obtain⟨p,hp,rfl⟩:=ih
  rw[V.nm hp] at h2
  exact V.named hp h2
theorem OkV.rchAt {t id:Int} (h:Rch (objM a0.Objects) (seedsAt a0 t) id):∃p∈a0.Objects,p.ID=id:=V.rch (fun id hid=>by obtain⟨p,hp,h1,_⟩:=V.seeds hid;exact⟨p,hp,h1⟩) h
theorem OkV.reachM (t:Int):∃m,RchM (objM a0.Objects) (seedsAt a0 t) m:=by
 have H:=V.okH
 have hl:=seedsAt_len a0 t
 have hev:=V.ne
 have hz:=H.sz
 obtain⟨m,_,h⟩:=reach_iter (all:=objM a0.Objects) (seeds:=seedsAt a0 t) (ss:=seedsAt a0 t) ⟨H.nd,H.fit,by omega⟩ fun _=>Iff.rfl
 exact⟨m,h⟩
theorem OkV.seenM (n:Nat):∃m,SeenM a0 (objM a0.Objects) n m:=by
 induction n with
 |zero=>exact⟨[],seen_zero _ _⟩
 |succ n ih=>
  obtain⟨m,hm⟩:=ih
  cases he:a0.Events[n]? with
  |none=>exact⟨m,hm.nd,fun id=>by rw[hm.eq];simp only[seenF,he];cases seenF a0 (objM a0.Objects) n id <;> rfl⟩
  |some e=>
   cases hs:sameNext a0.Events n e.Time with
   |true=>exact⟨m,seen_skip he hs hm⟩
   |false=>
    obtain⟨rr,hr⟩:=V.reachM e.Time
    exact⟨_,seen_take he hs hm hr (List.Perm.refl _)⟩
theorem OkV.reach_mem {t x:Int}:x∈reachL (objM a0.Objects) (seedsAt a0 t)↔Rch (objM a0.Objects) (seedsAt a0 t) x:=by
 obtain⟨m,hm⟩:=V.reachM t
 rw[← reachL_eq hm,sortI_mem,hm.iff]
theorem OkV.reach_nd (t:Int):(reachL (objM a0.Objects) (seedsAt a0 t)).Nodup:=by
 obtain⟨m,hm⟩:=V.reachM t
 rw[← reachL_eq hm];exact sortI_nodup hm.nd
theorem OkV.reach_so (t:Int):(reachL (objM a0.Objects) (seedsAt a0 t)).Pairwise (·≤·):=by
 obtain⟨m,hm⟩:=V.reachM t
 rw[← reachL_eq hm];exact sortI_sorted _
omit V in
theorem sub_len {l:List Int} {os:List zO} (h1:l.Nodup) (h2:∀x∈l,∃p∈os,p.ID=x):l.length≤os.length:=by
 have:l ⊆ os.map (·.ID):=fun x hx=>by
  obtain⟨p,hp,rfl⟩:=h2 x hx
  exact List.mem_map_of_mem hp
 have:=nodup_lenE h1 this
 simpa using this
theorem OkV.reach_len (t:Int):(reachL (objM a0.Objects) (seedsAt a0 t)).length≤400:=by
 have:=sub_len (V.reach_nd t) fun x hx=>V.rchAt (V.reach_mem.1 hx)
 have:=V.no
 omega
omit V in
theorem seen_char {all:List (Int×zO)} {id:Int}:∀(n:Nat),(seenF a0 all n id=none→∀i,i < n→∀e,a0.Events[i]? =some e→sameNext a0.Events i e.Time=false→¬Rch all (seedsAt a0 e.Time) id)∧
  ∀u,seenF a0 all n id=some u→∃i,i < n∧∃e,a0.Events[i]? =some e∧sameNext a0.Events i e.Time=false∧Rch all (seedsAt a0 e.Time) id∧u=e.Time∧∀j,j < i→∀e',a0.Events[j]? =some e'→sameNext a0.Events j e'.Time=false→¬Rch all (seedsAt a0 e'.Time) id
 |0=>⟨fun _ i hi=>by omega,fun u h=>by simp[seenF] at h⟩
 |n+1=>by
  obtain⟨h1,h2⟩:=seen_char (all:=all) (id:=id) n
  have hd:seenF a0 all (n+1) id=match seenF a0 all n id with
   |some t=>some t
   |none=>match a0.Events[n]? with
    |some e=>open Classical in if sameNext a0.Events n e.Time=false∧Rch all (seedsAt a0 e.Time) id then some e.Time else none
    |none=>none:=rfl
  cases hg:seenF a0 all n id with
  |some t=>
   rw[hg] at hd
   refine⟨fun h=>(by rw[hd] at h;cases h),fun u h=>?_⟩
   rw[hd] at h
   cases h
   obtain⟨i,hi,e,h3⟩:=h2 t hg
   exact⟨i,by omega,e,h3⟩
  |none=>
   rw[hg] at hd
   have hno:=h1 hg
   cases he:a0.Events[n]? with
   |none=>
    rw[he] at hd
    refine⟨fun _ i hi e hie hs=>?_,fun u h=>(by rw[hd] at h;cases h)⟩
    rcases Nat.lt_succ_iff_lt_or_eq.1 hi with h3 |h3
    ·exact hno i h3 e hie hs
    ·subst h3;rw[he] at hie;cases hie
   |some e=>
    rw[he] at hd
    simp only at hd
    by_cases hc:sameNext a0.Events n e.Time=false∧Rch all (seedsAt a0 e.Time) id
    ·rw[if_pos hc] at hd
     refine⟨fun h=>(by rw[hd] at h;cases h),fun u h=>?_⟩
     rw[hd] at h
     cases h
     exact⟨n,by omega,e,he,hc.1,hc.2,rfl,hno⟩
    ·rw[if_neg hc] at hd
     refine⟨fun _ i hi e' hie hs hr=>?_,fun u h=>(by rw[hd] at h;cases h)⟩
     rcases Nat.lt_succ_iff_lt_or_eq.1 hi with h3 |h3
     ·exact hno i h3 e' hie hs hr
     ·subst h3;rw[he] at hie;cases hie;exact hc ⟨hs,hr⟩
omit V in
theorem seen_rch {n:Nat} {id u:Int} (h:seenF a0 (objM a0.Objects) n id=some u):Rch (objM a0.Objects) (seedsAt a0 u) id:=by
 obtain⟨i,_,e,_,_,h1,rfl,_⟩:=(seen_char n).2 u h
 exact h1
theorem OkV.ever_mem {x:Int}:x∈everL a0 (objM a0.Objects)↔(seenF a0 (objM a0.Objects) a0.Events.length x).isSome=true:=by
 obtain⟨m,hm⟩:=V.seenM a0.Events.length
 rw[← everL_eq hm,sortI_mem];exact seen_key hm x
theorem OkV.ever_nd:(everL a0 (objM a0.Objects)).Nodup:=by
 obtain⟨m,hm⟩:=V.seenM a0.Events.length
 rw[← everL_eq hm];exact sortI_nodup hm.nd
theorem OkV.ever_so:(everL a0 (objM a0.Objects)).Pairwise (·≤·):=by
 obtain⟨m,hm⟩:=V.seenM a0.Events.length
 rw[← everL_eq hm];exact sortI_sorted _
theorem OkV.ever_in {x:Int} (h:x∈everL a0 (objM a0.Objects)):∃p∈a0.Objects,p.ID=x:=by
 have h1:=V.ever_mem.1 h
 obtain⟨u,hu⟩:=Option.isSome_iff_exists.1 h1
 exact V.rchAt (seen_rch hu)
theorem OkV.ever_len:(everL a0 (objM a0.Objects)).length≤400:=by
 have:=sub_len V.ever_nd fun x hx=>V.ever_in hx
 have:=V.no
 omega
theorem OkV.lost_len (t:Int):(lostL a0 (objM a0.Objects) t).length≤400:=Nat.le_trans (List.length_filter_le _ _) V.ever_len
open Classical in
theorem OkV.lost_mem {t x:Int}:x∈lostL a0 (objM a0.Objects) t↔(∃u,seenF a0 (objM a0.Objects) a0.Events.length x=some u∧u≤t)∧¬Rch (objM a0.Objects) (seedsAt a0 t) x:=by
 unfold lostL
 rw[List.mem_filter,V.ever_mem]
 simp only[decide_eq_true_eq]
 constructor
 ·exact fun h=>h.2
 ·rintro⟨⟨u,h1,h2⟩,h3⟩
  exact⟨by rw[h1];rfl,⟨u,h1,h2⟩,h3⟩
theorem OkV.lost_nd (t:Int):(lostL a0 (objM a0.Objects) t).Nodup:=by
 unfold lostL
 exact V.ever_nd.filter _
variable (hf:FitR a0)
include hf
theorem OkV.val:hYValid a0=some 0:=by rw[valid_eq hf,validE_zero.2 V]
theorem OkV.reachable (t:Int):hYReachable a0 t=some (reachL (objM a0.Objects) (seedsAt a0 t)):=by
 unfold hYReachable
 rw[V.val hf,V.idx]
 simp only[Option.bind_some]
 rw[if_neg (by decide),if_pos ⟨V.okH,by have:=V.reach_len t;omega⟩]
theorem OkV.ever:hYEver a0=some (everL a0 (objM a0.Objects)):=by
 unfold hYEver
 rw[V.val hf,V.idx]
 simp only[Option.bind_some]
 rw[if_neg (by decide),if_pos ⟨V.okH,by have:=V.ever_len;omega⟩]
theorem OkV.lost (t:Int):hYLost a0 t=some (lostL a0 (objM a0.Objects) t):=by
 unfold hYLost
 rw[V.val hf,V.idx]
 simp only[Option.bind_some]
 rw[if_neg (by decide),if_pos ⟨V.okH,by have:=V.lost_len t;omega⟩]
theorem OkV.since (id:Int):hYSince a0 id=some ((seenF a0 (objM a0.Objects) a0.Events.length id).getD 0,(seenF a0 (objM a0.Objects) a0.Events.length id).isSome):=by
 unfold hYSince
 rw[V.val hf,V.idx]
 simp only[Option.bind_some]
 rw[if_neg (by decide),if_pos V.okH]
theorem OkV.refs (t:Int):hYRefs a0 t=some (sortIt ((refsF t [] a0.Events).map itemOf)):=by
 unfold hYRefs
 rw[V.val hf]
 simp only[Option.bind_some]
 rw[if_neg (by decide),ck_t (by have:=V.ne;omega)]
 rfl
end
theorem refsF_congr {t t':Int}:∀{l:List zE} {m:List (ByteArray×Int)},(∀e∈l,t < e.Time↔t' < e.Time)→refsF t m l=refsF t' m l
 |[],_,_=>rfl
 |e::l,m,h=>by
  simp only[refsF]
  have h1:=h e (by simp)
  have h2:=refsF_congr (l:=l) (m:=refStep m e) fun x hx=>h x (by simp[hx])
  by_cases hc:t < e.Time
  ·rw[if_pos hc,if_pos (h1.1 hc)]
  ·rw[if_neg hc,if_neg (fun g=>hc (h1.2 g)),h2]
theorem last_ix {p:Nat→Prop}:∀{n:Nat},(∃i,i < n∧p i)→∃i,i < n∧p i∧∀j,i < j→j < n→¬p j
 |0,⟨i,hi,_⟩=>by omega
 |n+1,⟨i,hi,h⟩=>by
  by_cases hn:p n
  ·exact⟨n,by omega,hn,fun j h1 h2=>by omega⟩
  ·rcases Nat.lt_succ_iff_lt_or_eq.1 hi with h3 |h3
   ·obtain⟨k,h4,h5,h6⟩:=last_ix (n:=n) ⟨i,h3,h⟩
    refine⟨k,by omega,h5,fun j h7 h8=>?_⟩
    rcases Nat.lt_succ_iff_lt_or_eq.1 h8 with h9 |h9
    ·exact h6 j h7 h9
    ·subst h9;exact hn
   ·subst h3;exact absurd h hn
theorem rch_nil {all:List (Int×zO)} {id:Int} (h:Rch all [] id):False:=by
 induction h with
 |seed h=>cases h
 |step _ _ ih=>exact ih
theorem refsF_none {t:Int}:∀{l:List zE} {m:List (ByteArray×Int)},(∀e∈l,t < e.Time)→refsF t m l=m
 |[],_,_=>rfl
 |e::l,m,h=>by simp only[refsF];rw[if_pos (h e (by simp))]
theorem rch_seen {a0:zR} {all:List (Int×zO)} (so:a0.Events.Pairwise fun x y=>x.Time≤y.Time) {t id:Int} (h:Rch all (seedsAt a0 t) id):∃u,seenF a0 all a0.Events.length id=some u∧u≤t:=by
 by_cases hx:∃i,i < a0.Events.length∧∃e,a0.Events[i]? =some e∧e.Time≤t
 ·obtain⟨i,hi,⟨e,he,ht⟩,hlast⟩:=last_ix hx
  have hge:a0.Events[i]=e:=by rw[List.getElem?_eq_getElem hi] at he;exact Option.some.inj he
  have hseeds:seedsAt a0 t=seedsAt a0 e.Time:=by
   unfold seedsAt
   rw[refsF_congr fun x hx=>?_]
   obtain⟨j,hj,rfl⟩:=List.getElem_of_mem hx
   by_cases hji:i < j
   ·have h1:=hlast j hji hj
    have h2:t < a0.Events[j].Time:=by
     refine Classical.byContradiction fun hn=>h1 ⟨_,List.getElem?_eq_getElem hj,by omega⟩
    constructor
    ·intro _;omega
    ·intro _;exact h2
   ·have h2:a0.Events[j].Time≤e.Time:=by
     rcases Nat.lt_or_eq_of_le (Nat.le_of_not_lt hji) with h3 |h3
     ·rw[← hge];exact List.pairwise_iff_getElem.1 so j i hj hi h3
     ·subst h3;rw[hge];exact Int.le_refl _
    constructor <;> intro _ <;> omega
  have hs:sameNext a0.Events i e.Time=false:=by
   unfold sameNext
   cases hn:a0.Events[i+1]? with
   |none=>rfl
   |some e'=>
    have hl:i+1 < a0.Events.length:=(List.getElem?_eq_some_iff.1 hn).1
    have h1:=hlast (i+1) (by omega) hl
    have:¬e'.Time≤t:=fun g=>h1 ⟨e',hn,g⟩
    simp only[beq_eq_false_iff_ne]
    omega
  rw[hseeds] at h
  cases hg:seenF a0 all a0.Events.length id with
  |none=>exact absurd h ((seen_char _).1 hg i hi e he hs)
  |some u=>
   refine⟨u,rfl,?_⟩
   obtain⟨k,hk,e',h1,h2,h3,rfl,h4⟩:=(seen_char _).2 u hg
   have hki:k≤i:=by
    refine Nat.le_of_not_lt fun g=>h4 i g e he hs h
   have hge':a0.Events[k]=e':=by rw[List.getElem?_eq_getElem hk] at h1;exact Option.some.inj h1
   rcases Nat.lt_or_eq_of_le hki with h5 |h5
   ·have:=List.pairwise_iff_getElem.1 so k i hk hi h5
    rw[hge,hge'] at this
    omega
   ·subst h5
    rw[he] at h1;cases h1;exact ht
 ·exfalso
  unfold seedsAt at h
  rw[refsF_none fun e he=>?_] at h
  ·exact rch_nil h
  ·obtain⟨i,hi,rfl⟩:=List.getElem_of_mem he
   refine Classical.byContradiction fun hn=>hx ⟨i,hi,_,List.getElem?_eq_getElem hi,by omega⟩
end Go.Vl
namespace Go.Vl
open Go
theorem cont_step {out:List zI} (h:SoI out) (e:zE) (s:Bool×Bool) (x:zI):x∈(namesStep e (out,s)).1↔(e.Kind=1∧x=⟨e.Name,e.Commit⟩)∨(x∈out∧x.Name≠e.Name):=by
 have hsplit:=List.takeWhile_append_dropWhile (p:=bef e.Name) (l:=out)
 have hk:out[refAt e.Name out]? =(out.dropWhile (bef e.Name)).head? :=by rw[← refAt_drop,List.head?_drop]
 have hd1:out.drop (refAt e.Name out+1)=(out.dropWhile (bef e.Name)).tail:=by rw[← refAt_drop,List.tail_drop]
 have hst:∀v,out.set (refAt e.Name out) v=out.takeWhile (bef e.Name)++(out.dropWhile (bef e.Name)).set 0 v:=fun v=>by
  rw[show out.set (refAt e.Name out) v=(out.takeWhile (bef e.Name)++out.dropWhile (bef e.Name)).set (out.takeWhile (bef e.Name)).length v from by rw[hsplit];rfl,List.set_append_right _ _ (Nat.le_refl _),Nat.sub_self]
 have hmem:x∈out↔x∈out.takeWhile (bef e.Name)∨x∈out.dropWhile (bef e.Name):=by
  conv=>lhs;rw[← hsplit]
  exact List.mem_append
 have hAn:∀y∈out.takeWhile (bef e.Name),y.Name≠e.Name:=fun y hy e'=>by
  have:=tw_all _ _ y hy
  unfold bef at this
  rw[e',bl_irr] at this;cases this
 rcases ref_at (n:=e.Name) h with ⟨z,r,hd,hz⟩ |⟨hno,hno2⟩
 ·have hxe:(z.Name.toList==e.Name.toList)=true:=by rw[hz];simp
  have hsr:∀y∈r,y.Name≠e.Name:=fun y hy e'=>by
   have hs:SoI (out.dropWhile (bef e.Name)):=List.Pairwise.sublist (List.dropWhile_sublist _) h
   rw[hd] at hs
   have:=(List.pairwise_cons.1 hs).1 y hy
   rw[e',hz,bl_irr] at this;cases this
  rw[hmem,hd]
  unfold namesStep
  simp only[hk,hd,List.head?_cons,hxe,if_true]
  by_cases hk1:e.Kind=1
  ·simp only[hk1,if_true,true_and]
   rw[hst,hd,List.set_cons_zero,List.mem_append,List.mem_cons,hz]
   constructor
   ·rintro(h1 |rfl |h1)
    ·exact .inr ⟨.inl h1,hAn x h1⟩
    ·exact .inl rfl
    ·exact .inr ⟨.inr (List.mem_cons_of_mem _ h1),hsr x h1⟩
   ·rintro(rfl |⟨h1 |h1,h2⟩)
    ·exact .inr (.inl rfl)
    ·exact .inl h1
    ·rcases List.mem_cons.1 h1 with rfl |h1
     ·exact absurd hz h2
     ·exact .inr (.inr h1)
  ·simp only[hk1,if_false,false_and,false_or]
   rw[refAt_take,hd1,hd,List.tail_cons,List.mem_append]
   constructor
   ·rintro(h1 |h1)
    ·exact⟨.inl h1,hAn x h1⟩
    ·exact⟨.inr (List.mem_cons_of_mem _ h1),hsr x h1⟩
   ·rintro⟨h1 |h1,h2⟩
    ·exact .inl h1
    ·rcases List.mem_cons.1 h1 with rfl |h1
     ·exact absurd hz h2
     ·exact .inr h1
 ·have hr:(namesStep e (out,s)).1=if e.Kind=1 then out.takeWhile (bef e.Name)++([⟨e.Name,e.Commit⟩]++out.dropWhile (bef e.Name)) else out:=by
   unfold namesStep
   cases hd:out.dropWhile (bef e.Name) with
   |nil=>
    simp only[hk,hd,List.head?_nil]
    rw[refAt_take,refAt_drop,hd]
    split <;> rfl
   |cons z r=>
    have hxe:(z.Name.toList==e.Name.toList)=false:=by
     simp only[beq_eq_false_iff_ne,ne_eq]
     exact fun e'=>hno2 z r hd (ba_list.1 e')
    simp only[hk,hd,List.head?_cons,hxe,Bool.false_eq_true,if_false]
    rw[refAt_take,refAt_drop,hd]
    split <;> rfl
  rw[hr]
  by_cases hk1:e.Kind=1
  ·rw[if_pos hk1,List.mem_append,List.mem_append,List.mem_singleton,hmem]
   simp only[hk1,true_and]
   constructor
   ·rintro(h1 |rfl |h1)
    ·exact .inr ⟨.inl h1,hAn x h1⟩
    ·exact .inl rfl
    ·exact .inr ⟨.inr h1,hno x (hmem.2 (.inr h1))⟩
   ·rintro(rfl |⟨h1 |h1,h2⟩)
    ·exact .inr (.inl rfl)
    ·exact .inl h1
    ·exact .inr (.inr h1)
  ·rw[if_neg hk1]
   simp only[hk1,false_and,false_or]
   exact⟨fun h1=>⟨h1,hno x h1⟩,fun h1=>h1.1⟩
theorem mset_memS {m:List (ByteArray×Int)} (hn:(m.map (·.1)).Nodup) (k:ByteArray) (v:Int) (q:ByteArray×Int):q∈mset stE m k v↔q=(k,v)∨(q∈m∧q.1≠k):=by
 have hn2:((mset stE m k v).map (·.1)).Nodup:=by
  by_cases hm:k∈m.map (·.1)
  ·rw[(mset_keys stE_eqQ m k v).1 hm];exact hn
  ·rw[(mset_keys stE_eqQ m k v).2 hm,List.map_append]
   refine List.nodup_append.2 ⟨hn,by simp,fun a ha b hb=>?_⟩
   simp only[List.map_cons,List.map_nil,List.mem_singleton] at hb
   subst hb
   exact fun e=>hm (e▸ha)
 obtain⟨g1,g2⟩:=mget_mset stE_eqQ m k v q.1
 constructor
 ·intro h
  have h1:=mget_of stE_eqQ hn2 (show (q.1,q.2)∈_ from h)
  by_cases e:q.1=k
  ·rw[g1 e] at h1
   exact .inl (Prod.ext e (Option.some.inj h1).symm)
  ·rw[g2 e] at h1
   exact .inr ⟨mget_some stE_eqQ h1,e⟩
 ·rintro(rfl |⟨h1,e⟩)
  ·exact mget_some stE_eqQ (g1 rfl)
  ·have h2:=mget_of stE_eqQ hn (show (q.1,q.2)∈m from h1)
   rw[← g2 e] at h2
   exact mget_some stE_eqQ h2
theorem mdel_memS {m:List (ByteArray×Int)} (hn:(m.map (·.1)).Nodup) (k:ByteArray) (q:ByteArray×Int):q∈mdel stE m k↔q∈m∧q.1≠k:=by
 have hn2:=mdel_nodup (e:=stE) hn k
 obtain⟨g1,g2⟩:=mget_mdel stE_eqQ hn k q.1
 constructor
 ·intro h
  have h1:=mget_of stE_eqQ hn2 (show (q.1,q.2)∈_ from h)
  by_cases e:q.1=k
  ·rw[g1 e] at h1;cases h1
  ·exact⟨(mdel_sub m k).subset h,e⟩
 ·rintro⟨h1,e⟩
  have h2:=mget_of stE_eqQ hn (show (q.1,q.2)∈m from h1)
  rw[← g2 e] at h2
  exact mget_some stE_eqQ h2
structure RefC (out:List zI) (c:List (ByteArray×Int)):Prop where
 so:SoI out
 nd:(c.map (·.1)).Nodup
 mem:∀x,x∈out↔(x.Name,x.ID)∈c
theorem RefC.step {out:List zI} {c:List (ByteArray×Int)} (h:RefC out c) (e:zE) (th few:Bool):∃out' th' few',namesStep e (out,th,few)=(out',th',few')∧RefC out' (refStep c e):=by
 obtain⟨out',e1,h1⟩:=names_step (m:=out.map fun x=>(x.Name,true)) (out:=out) ⟨h.so,by
  rw[List.map_map]
  show(out.map (·.Name)).Nodup
  rw[List.Nodup,List.pairwise_map]
  exact h.so.imp (fun {a b} hab e=>(by rw[e,bl_irr] at hab;cases hab)),fun n=>by
  rw[List.map_map]
  show _↔n∈out.map (·.Name)
  rw[List.mem_map]⟩ e th few
 refine⟨out',_,_,e1,h1.so,?_,fun x=>?_⟩
 ·unfold refStep
  split
  ·by_cases hm:e.Name∈c.map (·.1)
   ·rw[(mset_keys stE_eqQ c e.Name e.Commit).1 hm];exact h.nd
   ·rw[(mset_keys stE_eqQ c e.Name e.Commit).2 hm,List.map_append]
    refine List.nodup_append.2 ⟨h.nd,by simp,fun a ha b hb=>?_⟩
    simp only[List.map_cons,List.map_nil,List.mem_singleton] at hb
    subst hb
    exact fun e=>hm (e▸ha)
  ·exact mdel_nodup h.nd e.Name
 ·have h2:=cont_step h.so e (th,few) x
  rw[e1] at h2
  rw[h2]
  unfold refStep
  by_cases hk:e.Kind=1
  ·rw[if_pos hk,mset_memS h.nd,h.mem]
   simp only[hk,true_and]
   constructor
   ·rintro(rfl |h3)
    ·exact .inl rfl
    ·exact .inr h3
   ·rintro(h3 |h3)
    ·left
     cases x
     simp only[Prod.mk.injEq] at h3
     rw[h3.1,h3.2]
    ·exact .inr h3
  ·rw[if_neg hk,mdel_memS h.nd,h.mem]
   simp only[hk,false_and,false_or]
theorem names_refs (t:Int):∀(l:List zE) (out:List zI) (c:List (ByteArray×Int)) (th few:Bool),RefC out c→RefC (namesW t l (out,th,few)).1 (refsF t c l)
 |[],out,c,th,few,h=>h
 |e::l,out,c,th,few,h=>by
  simp only[namesW,refsF]
  by_cases ht:t < e.Time
  ·rw[if_pos ht,if_pos ht];exact h
  ·rw[if_neg ht,if_neg ht]
   obtain⟨o',t',f',e1,h1⟩:=h.step e th few
   rw[e1]
   exact names_refs t l o' (refStep c e) t' f' h1
theorem refC_nil:RefC [] []:=⟨List.Pairwise.nil,by simp,fun x=>by simp⟩
theorem cfI_lt {x y:zI}:decide (cfI y x < 0)=Op.bytesLess y.Name.toList x.Name.toList:=by
 unfold cfI cmpS
 cases Op.bytesLess y.Name.toList x.Name.toList with
 |true=>rfl
 |false=>
  simp only[Bool.false_eq_true,if_false]
  split <;> rfl
theorem bl_asym {a b:List UInt8} (h:Op.bytesLess a b=true):Op.bytesLess b a=false:=by
 rw[bl_not] at h
 simp only[Bool.not_eq_true',Bool.or_eq_false_iff] at h
 exact h.1
theorem bl_nle {a b:List UInt8} (h:Op.bytesLess a b=false):Op.bytesLess b a=true∨b=a:=by
 rw[bl_not] at h
 simp only[Bool.not_eq_false',Bool.or_eq_true,beq_iff_eq] at h
 exact h
theorem names_sort {t:Int} {l:List zE}:(namesW t l ([],true,true)).1=sortIt ((refsF t [] l).map itemOf):=by
 have h:=names_refs t l [] [] true true refC_nil
 generalize (namesW t l ([],true,true)).1=out at h ⊢
 generalize refsF t [] l=c at h ⊢
 have hnd:out.Nodup:=h.so.imp fun {a b} hab e=>by rw[e,bl_irr] at hab;cases hab
 have hnc:(c.map itemOf).Nodup:=by
  rw[List.Nodup,List.pairwise_map]
  have:=h.nd
  rw[List.Nodup,List.pairwise_map] at this
  exact this.imp fun {a b} hab e=>hab (by
   have:=congrArg zI.Name e
   exact this)
 have hmem:∀x,x∈out↔x∈c.map itemOf:=fun x=>by
  rw[h.mem,List.mem_map]
  constructor
  ·intro hx;exact⟨_,hx,rfl⟩
  ·rintro⟨q,hq,rfl⟩;exact hq
 have hperm:out.Perm (sortIt (c.map itemOf)):=((List.perm_ext_iff_of_nodup hnd hnc).2 hmem).trans (List.mergeSort_perm ..).symm
 refine List.Perm.eq_of_pairwise (le:=fun x y:zI=>Op.bytesLess y.Name.toList x.Name.toList=false) (fun x y hx hy h1 h2=>?_) (h.so.imp fun {a b} hab=>bl_asym hab) ?_ hperm
 ·have he:x.Name=y.Name:=by
   rcases bl_nle h1 with h3 |h3
   ·rw[h3] at h2;cases h2
   ·exact ba_list.1 h3
  have hy2:y∈out:=(hmem y).2 ((List.mergeSort_perm ..).subset hy)
  have a1:=mget_of stE_eqQ h.nd ((h.mem x).1 hx)
  have a2:=mget_of stE_eqQ h.nd ((h.mem y).1 hy2)
  rw[he,a2] at a1
  cases x;cases y
  simp only[Option.some.injEq] at a1 he ⊢
  subst he;subst a1;rfl
 ·unfold sortIt
  refine List.Pairwise.imp (fun {a b} hab=>?_) (List.pairwise_mergeSort (le:=fun x y:zI=>!decide (cfI y x < 0)) (fun a b c h1 h2=>?_) (fun a b=>?_) (c.map itemOf))
  ·rw[cfI_lt] at hab;simpa using hab
  ·rw[cfI_lt] at h1 h2 ⊢
   simp only[Bool.not_eq_true'] at h1 h2 ⊢
   cases h3:Op.bytesLess c.Name.toList a.Name.toList with
   |false=>rfl
   |true=>
    rcases bl_nle h1 with h4 |h4
    ·rw[bl_trans _ _ _ h3 h4] at h2;cases h2
    ·rw[h4,h2] at h3;cases h3
  ·rw[cfI_lt,cfI_lt]
   cases h1:Op.bytesLess b.Name.toList a.Name.toList with
   |false=>rfl
   |true=>rw[bl_asym h1];rfl
def chO (l:List zO) (id:Int):List Int:=belowO (findO l id)
inductive From (l:List zO) (roots:List Int):Int→Prop
 |root {x:Int} (h:x∈roots):From l roots x
 |step {x j:Int} (h:From l roots x) (hj:j∈chO l x):From l roots j
theorem From.mono {l:List zO} {r r':List Int} (h:∀x∈r,From l r' x) {x:Int} (hx:From l r x):From l r' x:=by
 induction hx with
 |root hr=>exact h _ hr
 |step _ hj ih=>exact .step ih hj
structure Dfs (l:List zO) (roots:List Int) (M M':List (Int×Bool)):Prop where
 nd:(M'.map (·.1)).Nodup
 tt:∀q∈M',q.2=true
 sub:∀x∈M.map (·.1),x∈M'.map (·.1)
 rt:∀x∈roots,x∈M'.map (·.1)
 snd:∀x∈M'.map (·.1),x∈M.map (·.1)∨From l roots x
 cls:∀x∈M'.map (·.1),x∉M.map (·.1)→∀j∈chO l x,j∈M'.map (·.1)
theorem Dfs.nil {l:List zO} {M:List (Int×Bool)} (h1:(M.map (·.1)).Nodup) (h2:∀q∈M,q.2=true):Dfs l [] M M:=⟨h1,h2,fun _ h=>h,(fun x h=>by cases h),fun _ h=>.inl h,fun x h1 h2=>absurd h1 h2⟩
theorem Dfs.comp {l:List zO} {j:Int} {js:List Int} {M M1 M':List (Int×Bool)} (h1:Dfs l [j] M M1) (h2:Dfs l js M1 M'):Dfs l (j::js) M M' where
 nd:=h2.nd
 tt:=h2.tt
 sub:=fun x hx=>h2.sub x (h1.sub x hx)
 rt:=fun x hx=>by
  rcases List.mem_cons.1 hx with rfl |hx
  ·exact h2.sub _ (h1.rt _ (by simp))
  ·exact h2.rt x hx
 snd:=fun x hx=>by
  rcases h2.snd x hx with h |h
  ·rcases h1.snd x h with h |h
   ·exact .inl h
   ·exact .inr (h.mono fun y hy=>.root (by simp at hy;simp[hy]))
  ·exact .inr (h.mono fun y hy=>.root (List.mem_cons_of_mem _ hy))
 cls:=fun x hx hn j' hj=>by
  by_cases hm:x∈M1.map (·.1)
  ·exact h2.sub _ (h1.cls x hm hn j' hj)
  ·exact h2.cls x hx hm j' hj
theorem isS_iff {M:List (Int×Bool)} (hn:(M.map (·.1)).Nodup) (ht:∀q∈M,q.2=true) {id:Int}:(mget inE M id).getD false=true↔id∈M.map (·.1):=by
 constructor
 ·intro hg
  cases hq:mget inE M id with
  |none=>rw[hq] at hg;cases hg
  |some v=>exact List.mem_map.2 ⟨_,mget_some inE_eq hq,rfl⟩
 ·intro hm
  obtain⟨q,hq,rfl⟩:=List.mem_map.1 hm
  rw[mget_of inE_eq hn (show (q.1,q.2)∈M from hq),ht q hq];rfl
theorem fold_dfs {l:List zO} {f:List (Int×Bool)→Int→Option (List (Int×Bool))} (hf:∀(M:List (Int×Bool)) (j:Int) (M':List (Int×Bool)),(M.map (·.1)).Nodup→(∀q∈M,q.2=true)→f M j=some M'→Dfs l [j] M M'):
  ∀(js:List Int) (M M':List (Int×Bool)),(M.map (·.1)).Nodup→(∀q∈M,q.2=true)→js.foldlM f M=some M'→Dfs l js M M'
 |[],M,M',h1,h2,h=>by
  simp only[List.foldlM_nil,Option.pure_def,Option.some.injEq] at h
  subst h
  exact Dfs.nil h1 h2
 |j::js,M,M',h1,h2,h=>by
  rw[List.foldlM_cons] at h
  obtain⟨M1,e1,e2⟩:=Option.bind_eq_some_iff.1 h
  have d1:=hf M j M1 h1 h2 e1
  exact d1.comp (fold_dfs hf js M1 M' d1.nd d1.tt e2)
theorem reach_dfs {l:List zO}:∀(n:Nat) (M:List (Int×Bool)) (id:Int) (M':List (Int×Bool)),(M.map (·.1)).Nodup→(∀q∈M,q.2=true)→reachN l n id M=some M'→Dfs l [id] M M'
 |0,M,id,M',_,_,h=>by simp[reachN] at h
 |n+1,M,id,M',h1,h2,h=>by
  unfold reachN at h
  by_cases hs:(mget inE M id).getD false=true
  ·rw[if_pos hs] at h
   cases h
   exact⟨h1,h2,fun _ h=>h,(fun x hx=>by simp at hx;subst hx;exact(isS_iff h1 h2).1 hs),fun _ h=>.inl h,fun x h1 h2=>absurd h1 h2⟩
  ·rw[if_neg hs] at h
   have hm:id∉M.map (·.1):=fun q=>hs ((isS_iff h1 h2).2 q)
   have hk:=(mset_keys inE_eq M id true).2 hm
   have hn0:((mset inE M id true).map (·.1)).Nodup:=by
    rw[hk,List.map_append]
    refine List.nodup_append.2 ⟨h1,by simp,fun a ha b hb=>?_⟩
    simp only[List.map_cons,List.map_nil,List.mem_singleton] at hb
    subst hb
    exact fun e=>hm (e▸ha)
   have ht0:∀q∈mset inE M id true,q.2=true:=fun q hq=>by
    rw[hk] at hq
    rcases List.mem_append.1 hq with hq |hq
    ·exact h2 q hq
    ·rw[List.mem_singleton] at hq;subst hq;rfl
   have d:=fold_dfs (l:=l) (f:=fun M j=>reachN l n j M) (fun M j M' a b c=>reach_dfs n M j M' a b c) (belowO (findO l id)) _ M' hn0 ht0 h
   have hk0:∀x,x∈(mset inE M id true).map (·.1)↔x∈M.map (·.1)∨x=id:=fun x=>by
    rw[hk,List.map_append,List.mem_append];simp
   refine⟨d.nd,d.tt,fun x hx=>d.sub x ((hk0 x).2 (.inl hx)),fun x hx=>?_,fun x hx=>?_,fun x hx hn j hj=>?_⟩
   ·simp at hx;subst hx
    exact d.sub _ ((hk0 _).2 (.inr rfl))
   ·rcases d.snd x hx with h |h
    ·rcases(hk0 x).1 h with h |rfl
     ·exact .inl h
     ·exact .inr (.root (by simp))
    ·exact .inr (h.mono fun y hy=>.step (.root (x:=id) (by simp)) hy)
   ·by_cases hid:x=id
    ·subst hid
     exact d.rt j hj
    ·exact d.cls x hx (fun q=>by
      rcases(hk0 x).1 q with q |q
      ·exact hn q
      ·exact hid q) j hj
def restN (l:List zO) (M:List (Int×Bool)):Nat:=(l.filter fun o=>!(mget inE M o.ID).getD false).length
theorem filt_le {α:Type} {p q:α→Bool}:∀{l:List α},(∀x∈l,p x=true→q x=true)→(l.filter p).length≤(l.filter q).length
 |[],_=>Nat.le_refl _
 |x::l,h=>by
  have ih:=filt_le (p:=p) (q:=q) (l:=l) fun y hy=>h y (List.mem_cons_of_mem _ hy)
  rw[List.filter_cons,List.filter_cons]
  cases hp:p x with
  |true=>rw[h x (by simp) hp];simp;exact ih
  |false=>
   cases q x <;> simp <;> omega
theorem filt_lt {α:Type} {p q:α→Bool}:∀{l:List α},(∀x∈l,p x=true→q x=true)→(∃x∈l,p x=false∧q x=true)→(l.filter p).length < (l.filter q).length
 |[],_,⟨x,hx,_⟩=>by cases hx
 |x::l,h,⟨y,hy,h1,h2⟩=>by
  have hle:=filt_le (p:=p) (q:=q) (l:=l) fun y hy=>h y (List.mem_cons_of_mem _ hy)
  rw[List.filter_cons,List.filter_cons]
  rcases List.mem_cons.1 hy with rfl |hy
  ·rw[h1,h2];simp;omega
  ·have ih:=filt_lt (p:=p) (q:=q) (l:=l) (fun y hy=>h y (List.mem_cons_of_mem _ hy)) ⟨y,hy,h1,h2⟩
   cases hp:p x with
   |true=>rw[h x (by simp) hp];simp;exact ih
   |false=>cases q x <;> simp <;> omega
theorem restN_le {l:List zO} {M M':List (Int×Bool)} (hn:(M.map (·.1)).Nodup) (ht:∀q∈M,q.2=true) (hn':(M'.map (·.1)).Nodup) (ht':∀q∈M',q.2=true) (hs:∀x∈M.map (·.1),x∈M'.map (·.1)):restN l M'≤restN l M:=by
 refine filt_le fun o _ h=>?_
 cases hc:(mget inE M o.ID).getD false with
 |false=>rfl
 |true=>
  have:=(isS_iff hn' ht').2 (hs _ ((isS_iff hn ht).1 hc))
  rw[this] at h;cases h
theorem reach_tot {l:List zO} (hX:∀o∈l,∀j∈belowO o,∃p∈l,p.ID=j) (hF:∀o∈l,∃p∈l,findO l o.ID=p):∀(n:Nat) (M:List (Int×Bool)) (id:Int),(∃p∈l,p.ID=id)→(M.map (·.1)).Nodup→(∀q∈M,q.2=true)→restN l M < n→∃M',reachN l n id M=some M'
 |0,_,_,_,_,_,h=>by omega
 |n+1,M,id,hid,h1,h2,h=>by
  unfold reachN
  by_cases hs:(mget inE M id).getD false=true
  ·exact⟨M,if_pos hs⟩
  ·rw[if_neg hs]
   have hm:id∉M.map (·.1):=fun q=>hs ((isS_iff h1 h2).2 q)
   have hk:=(mset_keys inE_eq M id true).2 hm
   have hn0:((mset inE M id true).map (·.1)).Nodup:=by
    rw[hk,List.map_append]
    refine List.nodup_append.2 ⟨h1,by simp,fun a ha b hb=>?_⟩
    simp only[List.map_cons,List.map_nil,List.mem_singleton] at hb
    subst hb
    exact fun e=>hm (e▸ha)
   have ht0:∀q∈mset inE M id true,q.2=true:=fun q hq=>by
    rw[hk] at hq
    rcases List.mem_append.1 hq with hq |hq
    ·exact h2 q hq
    ·rw[List.mem_singleton] at hq;subst hq;rfl
   have hr:restN l (mset inE M id true) < n:=by
    obtain⟨p,hp,e⟩:=hid
    have:restN l (mset inE M id true) < restN l M:=by
     refine filt_lt (fun o _ ho=>?_) ⟨p,hp,?_,?_⟩
     ·obtain⟨g1,g2⟩:=mget_mset inE_eq M id true o.ID
      by_cases ho2:o.ID=id
      ·rw[g1 ho2] at ho;cases ho
      ·rw[g2 ho2] at ho;exact ho
     ·rw[(mget_mset inE_eq M id true p.ID).1 e];rfl
     ·rw[e];simpa using hs
    omega
   have key:∀(js:List Int),(∀j∈js,∃p∈l,p.ID=j)→∀(M:List (Int×Bool)),(M.map (·.1)).Nodup→(∀q∈M,q.2=true)→restN l M < n→∃M',js.foldlM (fun M j=>reachN l n j M) M=some M':=fun js=>by
    induction js with
    |nil=>intro _ M _ _ _;exact⟨M,rfl⟩
    |cons j js ih=>
     intro hj M a b c
     obtain⟨M1,e1⟩:=reach_tot hX hF n M j (hj j (by simp)) a b c
     have d:=reach_dfs n M j M1 a b e1
     have:=restN_le (l:=l) a b d.nd d.tt d.sub
     obtain⟨M2,e2⟩:=ih (fun x hx=>hj x (by simp[hx])) M1 d.nd d.tt (by omega)
     exact⟨M2,by rw[List.foldlM_cons,e1];exact e2⟩
   refine key _ (fun j hj=>?_) _ hn0 ht0 hr
   obtain⟨p,hp,e⟩:=hid
   obtain⟨p',hp',e'⟩:=hF p hp
   rw[e] at e'
   rw[e'] at hj
   exact hX p' hp' j hj
end Go.Vl
namespace Go.Vl
open Go
theorem par_nil {o:zO} (h:objE o=0) (hk:o.Kind≠3):o.Parents=[]:=by
 have hr:=(objE_zero.1 h).2.2
 unfold rightB at hr
 by_cases k1:o.Kind=1
 ·rw[if_pos k1] at hr
  unfold otherB at hr
  simp at hr
  exact hr.2.2.1
 ·rw[if_neg k1] at hr
  by_cases k2:o.Kind=2
  ·rw[if_pos k2] at hr
   unfold otherB at hr
   simp at hr
   exact hr.2.1.2.1
  ·rw[if_neg k2,if_neg hk] at hr;cases hr
theorem sorted_ext {a b:List Int} (ha:a.Pairwise (·≤·)) (hb:b.Pairwise (·≤·)) (na:a.Nodup) (nb:b.Nodup) (h:∀x,x∈a↔x∈b):a=b:=
 List.Perm.eq_of_pairwise (le:=fun x y:Int=>x≤y) (fun x y _ _ h1 h2=>by omega) ha hb ((List.perm_ext_iff_of_nodup na nb).2 h)
theorem asc_at {out:List Int} (hs:out.Pairwise (·≤·)) (hl:out.length≤1000000) (i:Int) (o:zO):∃k:Nat,k≤out.length∧iter (rYascending_l1 (i,out) o) (out.length:Int)=some (k:Int)∧(∀x∈out.take k,x≤o.ID)∧∀x∈out.drop k,o.ID < x:=by
 have key:∀n:Nat,n≤out.length→(∀x∈out.drop n,o.ID < x)→∃k:Nat,k≤out.length∧iter (rYascending_l1 (i,out) o) (n:Int)=some (k:Int)∧(∀x∈out.take k,x≤o.ID)∧∀x∈out.drop k,o.ID < x:=fun n=>by
  induction n with
  |zero=>
   intro _ hd
   refine⟨0,by omega,iter_out ?_,by simp,hd⟩
   unfold rYascending_l1
   rw[if_neg (by simp)];rfl
  |succ n ih=>
   intro hn hd
   have hnl:n < out.length:=by omega
   have hw:IntKind.i64.wrap (((n+1:Nat):Int) - 1)=(n:Int):=by rw[w64 (by omega) (by omega)];omega
   by_cases hc:o.ID < out[n]
   ·obtain⟨k,h1,h2,h3⟩:=ih (by omega) (fun x hx=>by
     rw[List.drop_eq_getElem_cons hnl] at hx
     rcases List.mem_cons.1 hx with rfl |hx
     ·exact hc
     ·exact hd x hx)
    refine⟨k,h1,?_,h3⟩
    rw[← h2]
    refine iter_go ?_
    unfold rYascending_l1
    rw[if_pos (by simp <;> omega),hw,ck_t (by simp;omega),idx_lt hnl]
    simp only[Option.bind_some]
    rw[decide_eq_true hc,if_pos rfl]
   ·refine⟨n+1,hn,iter_out ?_,fun x hx=>?_,hd⟩
    ·unfold rYascending_l1
     rw[if_pos (by simp <;> omega),hw,ck_t (by simp;omega),idx_lt hnl]
     simp only[Option.bind_some]
     rw[decide_eq_false hc,if_neg (by decide)]
    ·obtain⟨j,hj,rfl⟩:=List.getElem_of_mem hx
     rw[List.getElem_take]
     have hj':j < n+1:=by simp at hj;omega
     rcases Nat.lt_succ_iff_lt_or_eq.1 hj' with h3 |h3
     ·have:=List.pairwise_iff_getElem.1 hs j n (by omega) hnl h3
      omega
     ·subst h3;omega
 exact key out.length (Nat.le_refl _) (by simp)
theorem asc_eq {a0:zR} (hl:a0.Objects.length≤400) (M:List (Int×Bool)):∃out,rYascending a0 M=some out∧out.Pairwise (·≤·)∧out.Perm ((a0.Objects.filter fun o=>(mget inE M o.ID).getD false).map (·.ID)):=by
 have key:∀(m i:Nat) (out:List Int),i+m=a0.Objects.length→out.Pairwise (·≤·)→out.length≤i→∃out',iter (rYascending_l0 a0 M) ((i:Int),out)=some out'∧out'.Pairwise (·≤·)∧out'.Perm (out++((a0.Objects.drop i).filter fun o=>(mget inE M o.ID).getD false).map (·.ID)):=fun m=>by
  induction m with
  |zero=>
   intro i out hi hs ho
   have:i=a0.Objects.length:=by omega
   subst this
   refine⟨out,iter_out ?_,hs,?_⟩
   ·unfold rYascending_l0
    rw[if_neg (by simp)]
   ·rw[List.drop_eq_nil_of_le (Nat.le_refl _)];simp
  |succ m ih=>
   intro i out hi hs ho
   have hil:i < a0.Objects.length:=by omega
   rw[List.drop_eq_getElem_cons hil,List.filter_cons]
   by_cases hc:(mget inE M a0.Objects[i].ID).getD false=true
   ·rw[hc]
    obtain⟨k,h1,h2,h3,h4⟩:=asc_at hs (by omega) (i:Int) a0.Objects[i]
    have hdt:(out.drop k).take (out.length - k)=out.drop k:=List.take_of_length_le (by simp)
    have hsn:(out.take k++([a0.Objects[i].ID]++out.drop k)).Pairwise (·≤·):=by
     rw[List.pairwise_append,List.singleton_append,List.pairwise_cons]
     refine⟨hs.sublist (List.take_sublist ..),⟨fun x hx=>by have:=h4 x hx;omega,hs.sublist (List.drop_sublist ..)⟩,fun x hx y hy=>?_⟩
     have:=h3 x hx
     rcases List.mem_cons.1 hy with rfl |hy
     ·exact this
     ·have:=h4 y hy;omega
    have hp:(out.take k++([a0.Objects[i].ID]++out.drop k)).Perm (a0.Objects[i].ID::out):=by
     rw[List.singleton_append]
     refine(List.perm_middle).trans ?_
     rw[List.take_append_drop]
    obtain⟨out',e1,e2,e3⟩:=ih (i+1) (out.take k++([a0.Objects[i].ID]++out.drop k)) (by omega) hsn (by have:=hp.length_eq;simp at this ⊢;omega)
    refine⟨out',?_,e2,e3.trans ?_⟩
    ·rw[← e1]
     refine iter_go ?_
     unfold rYascending_l0
     rw[if_pos (by simp;omega),idx_lt hil]
     simp only[Option.bind_some]
     rw[if_neg (by rw[hc];decide),h2]
     simp only[Option.bind_some,Int.toNat_natCast]
     rw[ck_t (by omega)]
     simp only[Option.bind_some]
     rw[ck_t (by omega)]
     simp only[Option.bind_some]
     rw[ck_t (by rw[hdt];simp;omega)]
     simp only[Option.bind_some]
     rw[ck_t (by omega)]
     simp only[Option.bind_some]
     rw[ck_t (by rw[hdt];simp;omega)]
     simp only[Option.bind_some]
     rw[hdt,w64 (by omega) (by omega)]
     rfl
    ·rw[if_pos rfl,List.map_cons]
     refine(hp.append_right _).trans ?_
     exact(List.perm_middle).symm
   ·have hc':(mget inE M a0.Objects[i].ID).getD false=false:=by simpa using hc
    rw[hc']
    obtain⟨out',e1,e2,e3⟩:=ih (i+1) out (by omega) hs (by omega)
    refine⟨out',?_,e2,by rw[if_neg (by decide)];exact e3⟩
    rw[← e1]
    refine iter_go ?_
    unfold rYascending_l0
    rw[if_pos (by simp;omega),idx_lt hil]
    simp only[Option.bind_some]
    rw[if_pos (by rw[hc'];decide),w64 (by omega) (by omega)]
    rfl
 obtain⟨out,e1,e2,e3⟩:=key a0.Objects.length 0 [] (by omega) List.Pairwise.nil (by simp)
 have e1':iter (rYascending_l0 a0 M) (0,[])=some out:=e1
 unfold rYascending
 rw[e1']
 exact⟨out,rfl,e2,by simpa using e3⟩
theorem asc_mem {a0:zR} (hl:a0.Objects.length≤400) (hu:(a0.Objects.map (·.ID)).Nodup) {M:List (Int×Bool)} (hn:(M.map (·.1)).Nodup) (ht:∀q∈M,q.2=true) (hsub:∀x∈M.map (·.1),∃o∈a0.Objects,o.ID=x):∃out,rYascending a0 M=some out∧out.Pairwise (·≤·)∧out.Nodup∧∀x,x∈out↔x∈M.map (·.1):=by
 obtain⟨out,e1,e2,e3⟩:=asc_eq hl M
 refine⟨out,e1,e2,e3.nodup_iff.2 (hu.sublist (List.filter_sublist.map _)),fun x=>?_⟩
 rw[e3.mem_iff,List.mem_map]
 constructor
 ·rintro⟨o,ho,rfl⟩
  exact(isS_iff hn ht).1 (List.mem_filter.1 ho).2
 ·intro hx
  obtain⟨o,ho,rfl⟩:=hsub x hx
  exact⟨o,List.mem_filter.2 ⟨ho,(isS_iff hn ht).2 hx⟩,rfl⟩
theorem findO_eq (l:List zO) (id:Int):findO l id=(mget inE (objM l) id).getD ⟨0,0,[],[],0,[],ByteArray.empty,0⟩:=by rw[mget_objM];rfl
section
variable {a0:zR} (V:OkV a0)
include V
theorem OkV.ch_iff {id j:Int}:j∈chO a0.Objects id↔j∈nmO (objM a0.Objects) id:=by
 unfold chO nmO
 rw[findO_eq]
 refine belowO_mem fun hk=>?_
 cases hg:mget inE (objM a0.Objects) id with
 |none=>rfl
 |some o=>
  rw[hg] at hk
  exact par_nil (V.ob o (objM_mem hg).1) hk
theorem OkV.from_iff {roots seeds:List Int} (h:∀x,x∈roots↔x∈seeds) {x:Int}:From a0.Objects roots x↔Rch (objM a0.Objects) seeds x:=by
 constructor
 ·intro hx
  induction hx with
  |root hr=>exact .seed ((h _).1 hr)
  |step _ hj ih=>exact .step ih (V.ch_iff.1 hj)
 ·intro hx
  induction hx with
  |seed hr=>exact .root ((h _).2 hr)
  |step _ hj ih=>exact .step ih (V.ch_iff.2 hj)
theorem OkV.roots (t:Int):∃r th few,rYnames a0 t=some (r,th,few)∧∀x,x∈r.map (·.ID)↔x∈seedsAt a0 t:=by
 have hne:=V.ne
 refine⟨(namesW t a0.Events ([],true,true)).1,(namesW t a0.Events ([],true,true)).2.1,(namesW t a0.Events ([],true,true)).2.2,?_,fun x=>?_⟩
 ·unfold rYnames
  rw[ck_t (by omega)];rfl
 ·have h:=names_refs t a0.Events [] [] true true refC_nil
  unfold seedsAt
  rw[List.mem_map,List.mem_map]
  constructor
  ·rintro⟨y,hy,rfl⟩
   exact⟨_,(h.mem y).1 hy,rfl⟩
  ·rintro⟨q,hq,rfl⟩
   exact⟨⟨q.1,q.2⟩,(h.mem ⟨q.1,q.2⟩).2 hq,rfl⟩
theorem OkV.at_ (t:Int):∃m,rYAt a0 t=some m∧RchM (objM a0.Objects) (seedsAt a0 t) m:=by
 obtain⟨r,th,few,e1,hr⟩:=V.roots t
 have hno:=V.no
 have hfold:∀n,atN a0.Objects n r=(r.map (·.ID)).foldlM (fun M j=>reachN a0.Objects n j M) []:=fun n=>by
  unfold atN
  rw[List.foldlM_map]
 have hpart:∀n m,atN a0.Objects n r=some m→RchM (objM a0.Objects) (seedsAt a0 t) m:=fun n m h=>by
  rw[hfold] at h
  have d:=fold_dfs (l:=a0.Objects) (f:=fun M j=>reachN a0.Objects n j M) (fun M j M' a b c=>reach_dfs n M j M' a b c) (r.map (·.ID)) [] m (by simp) (fun q hq=>by cases hq) h
  refine⟨d.nd,d.tt,fun x=>?_⟩
  rw[← V.from_iff hr]
  constructor
  ·intro hx
   rcases d.snd x hx with h |h
   ·simp at h
   ·exact h
  ·intro hx
   induction hx with
   |root h=>exact d.rt _ h
   |step _ hj ih=>exact d.cls _ ih (by simp) _ hj
 have hX:∀o∈a0.Objects,∀j∈belowO o,∃p∈a0.Objects,p.ID=j:=fun o ho j hj=>V.named ho ((belowO_mem fun hk=>par_nil (V.ob o ho) hk).1 hj)
 have hF:∀o∈a0.Objects,∃p∈a0.Objects,findO a0.Objects o.ID=p:=fun o ho=>⟨o,ho,by rw[findO_eq,V.get ho];rfl⟩
 have htot:∃m,atN a0.Objects (a0.Objects.length+1) r=some m:=by
  rw[hfold]
  have key:∀(js:List Int),(∀j∈js,∃p∈a0.Objects,p.ID=j)→∀(M:List (Int×Bool)),(M.map (·.1)).Nodup→(∀q∈M,q.2=true)→∃M',js.foldlM (fun M j=>reachN a0.Objects (a0.Objects.length+1) j M) M=some M':=fun js=>by
   induction js with
   |nil=>intro _ M _ _;exact⟨M,rfl⟩
   |cons j js ih=>
    intro hj M a b
    obtain⟨M1,e1⟩:=reach_tot hX hF (a0.Objects.length+1) M j (hj j (by simp)) a b (Nat.lt_succ_of_le (List.length_filter_le _ _))
    have d:=reach_dfs _ M j M1 a b e1
    obtain⟨M2,e2⟩:=ih (fun x hx=>hj x (by simp[hx])) M1 d.nd d.tt
    exact⟨M2,by rw[List.foldlM_cons,e1];exact e2⟩
  exact key _ (fun j hj=>by
   obtain⟨p,hp,e,_⟩:=V.seeds ((hr j).1 hj)
   exact⟨p,hp,e⟩) [] (by simp) (fun q hq=>by cases hq)
 unfold rYAt
 rw[e1]
 simp only[Option.bind_some]
 have hex:∃n m,atN a0.Objects n r=some m:=⟨_,htot⟩
 rw[ck_t ⟨by omega,fun o ho=>by have:=V.obj ho;omega⟩]
 simp only[Option.bind_some]
 rw[dif_pos hex]
 exact⟨_,rfl,hpart _ _ (Classical.choose_spec (Classical.choose_spec hex))⟩
end
end Go.Vl
namespace Go.Vl
open Go
def firStep (t:Int) (y:List (Int×Bool)) (F:List (Int×Int)) (o:zO):List (Int×Int):=if(!(mget inE F o.ID).isSome&&(mget inE y o.ID).getD false)=true then mset inE F o.ID t else F
theorem fir_pass {a0:zR} (hl:a0.Objects.length≤400) (y:List (Int×Bool)) (e:zE) (F:List (Int×Int)):iter (rYFirst_l1 a0 y e) (0,F)=some (a0.Objects.foldl (firStep e.Time y) F):=by
 refine iter_foldl (body:=rYFirst_l1 a0 y e) a0.Objects (firStep e.Time y) (fun s=>s) (fun _ _=>True) (fun i hi s _=>⟨?_,trivial⟩) (fun s _=>?_) F trivial
 ·unfold rYFirst_l1
  rw[if_pos (by simp;omega),idx_lt hi]
  simp only[Option.bind_some]
  rw[w64 (by omega) (by omega)]
  unfold firStep
  split <;> rfl
 ·unfold rYFirst_l1
  rw[if_neg (by simp)]
open Classical in
theorem fir_get {t:Int} {y:List (Int×Bool)} {id:Int}:∀(l:List zO) (F:List (Int×Int)),(F.map (·.1)).Nodup→((l.foldl (firStep t y) F).map (·.1)).Nodup∧mget inE (l.foldl (firStep t y) F) id=match mget inE F id with |some u=>some u |none=>if(∃o∈l,o.ID=id)∧(mget inE y id).getD false=true then some t else none
 |[],F,hn=>⟨hn,by cases h:mget inE F id <;> simp[h]⟩
 |o::l,F,hn=>by
  rw[List.foldl_cons]
  have hn1:((firStep t y F o).map (·.1)).Nodup:=by
   unfold firStep
   split
   ·by_cases hm:o.ID∈F.map (·.1)
    ·rw[(mset_keys inE_eq F o.ID t).1 hm];exact hn
    ·rw[(mset_keys inE_eq F o.ID t).2 hm,List.map_append]
     refine List.nodup_append.2 ⟨hn,by simp,fun a ha b hb=>?_⟩
     simp only[List.map_cons,List.map_nil,List.mem_singleton] at hb
     subst hb
     exact fun e=>hm (e▸ha)
   ·exact hn
  obtain⟨h1,h2⟩:=fir_get l (firStep t y F o) hn1
  refine⟨h1,?_⟩
  rw[h2]
  have h3:mget inE (firStep t y F o) id=match mget inE F id with |some u=>some u |none=>if o.ID=id∧(mget inE y id).getD false=true then some t else none:=by
   unfold firStep
   obtain⟨g1,g2⟩:=mget_mset inE_eq F o.ID t id
   by_cases hid:id=o.ID
   ·subst hid
    cases hg:mget inE F o.ID with
    |some u=>simp[hg]
    |none=>
     cases hy:(mget inE y o.ID).getD false with
     |true=>
      simp only[Option.isSome_none,Bool.not_false,Bool.true_and,if_true,true_and]
      exact g1 rfl
     |false=>simp[hg]
   ·have hid':¬o.ID=id:=fun e=>hid e.symm
    split
    ·rw[g2 hid]
     cases mget inE F id <;> simp[hid']
    ·cases mget inE F id <;> simp[hid']
  rw[h3]
  cases mget inE F id with
  |some u=>rfl
  |none=>
   simp only
   by_cases c1:o.ID=id∧(mget inE y id).getD false=true
   ·rw[if_pos c1]
    simp only
    rw[if_pos ⟨⟨o,List.mem_cons_self ..,c1.1⟩,c1.2⟩]
   ·rw[if_neg c1]
    simp only
    refine ite_congr (propext ?_) (fun _=>rfl) (fun _=>rfl)
    constructor
    ·rintro⟨⟨p,hp,e⟩,hy⟩
     exact⟨⟨p,by simp[hp],e⟩,hy⟩
    ·rintro⟨⟨p,hp,e⟩,hy⟩
     rcases List.mem_cons.1 hp with rfl |hp
     ·exact absurd ⟨e,hy⟩ c1
     ·exact⟨⟨p,hp,e⟩,hy⟩
def takeM (p:Int→Bool) (S:List (Int×Bool)) (o:zO):List (Int×Bool):=if p o.ID=true then mset inE S o.ID true else S
theorem take_inv {p:Int→Bool}:∀(l:List zO) (S:List (Int×Bool)),(S.map (·.1)).Nodup→(∀q∈S,q.2=true)→
  ((l.foldl (takeM p) S).map (·.1)).Nodup∧(∀q∈l.foldl (takeM p) S,q.2=true)∧∀x,x∈(l.foldl (takeM p) S).map (·.1)↔x∈S.map (·.1)∨((∃o∈l,o.ID=x)∧p x=true)
 |[],S,h1,h2=>⟨h1,h2,fun x=>by simp⟩
 |o::l,S,h1,h2=>by
  rw[List.foldl_cons]
  have hs:((takeM p S o).map (·.1)).Nodup∧(∀q∈takeM p S o,q.2=true)∧∀x,x∈(takeM p S o).map (·.1)↔x∈S.map (·.1)∨(o.ID=x∧p x=true):=by
   unfold takeM
   by_cases hp:p o.ID=true
   ·rw[if_pos hp]
    obtain⟨m1,m2⟩:=mset_keys inE_eq S o.ID true
    by_cases hm:o.ID∈S.map (·.1)
    ·refine⟨by rw[m1 hm];exact h1,fun q hq=>?_,fun x=>?_⟩
     ·have hn2:((mset inE S o.ID true).map (·.1)).Nodup:=by rw[m1 hm];exact h1
      have hq2:=mget_of inE_eq hn2 (show (q.1,q.2)∈_ from hq)
      obtain⟨g1,g2⟩:=mget_mset inE_eq S o.ID true q.1
      by_cases e:q.1=o.ID
      ·rw[g1 e] at hq2;exact(Option.some.inj hq2).symm
      ·rw[g2 e] at hq2
       exact h2 _ (mget_some inE_eq hq2)
     ·rw[m1 hm]
      constructor
      ·exact .inl
      ·rintro(h |⟨rfl,_⟩)
       ·exact h
       ·exact hm
    ·rw[m2 hm]
     refine⟨?_,fun q hq=>?_,fun x=>?_⟩
     ·rw[List.map_append]
      refine List.nodup_append.2 ⟨h1,by simp,fun a ha b hb=>?_⟩
      simp only[List.map_cons,List.map_nil,List.mem_singleton] at hb
      subst hb
      exact fun e=>hm (e▸ha)
     ·rcases List.mem_append.1 hq with hq |hq
      ·exact h2 q hq
      ·rw[List.mem_singleton] at hq;subst hq;rfl
     ·rw[List.map_append,List.mem_append]
      simp only[List.map_cons,List.map_nil,List.mem_singleton]
      constructor
      ·rintro(h |rfl)
       ·exact .inl h
       ·exact .inr ⟨rfl,hp⟩
      ·rintro(h |⟨rfl,_⟩)
       ·exact .inl h
       ·exact .inr rfl
   ·rw[if_neg hp]
    refine⟨h1,h2,fun x=>⟨.inl,?_⟩⟩
    rintro(h |⟨rfl,h⟩)
    ·exact h
    ·exact absurd h hp
  obtain⟨i1,i2,i3⟩:=take_inv l (takeM p S o) hs.1 hs.2.1
  refine⟨i1,i2,fun x=>?_⟩
  rw[i3,hs.2.2]
  constructor
  ·rintro((h |⟨rfl,h⟩) |⟨⟨q,hq,e⟩,h⟩)
   ·exact .inl h
   ·exact .inr ⟨⟨o,by simp,rfl⟩,h⟩
   ·exact .inr ⟨⟨q,by simp[hq],e⟩,h⟩
  ·rintro(h |⟨⟨q,hq,e⟩,h⟩)
   ·exact .inl (.inl h)
   ·rcases List.mem_cons.1 hq with rfl |hq
    ·exact .inl (.inr ⟨e,h⟩)
    ·exact .inr ⟨⟨q,hq,e⟩,h⟩
section
variable {a0:zR} (V:OkV a0)
include V
open Classical in
theorem OkV.first:∃F,rYFirst a0=some F∧SeenM a0 (objM a0.Objects) a0.Events.length F:=by
 have hne:=V.ne
 have hno:=V.no
 have key:∀(m i:Nat) (F:List (Int×Int)),i+m=a0.Events.length→SeenM a0 (objM a0.Objects) i F→∃F',iter (rYFirst_l0 a0) ((i:Int),F)=some F'∧SeenM a0 (objM a0.Objects) a0.Events.length F':=fun m=>by
  induction m with
  |zero=>
   intro i F hi h
   have:i=a0.Events.length:=by omega
   subst this
   refine⟨F,iter_out ?_,h⟩
   unfold rYFirst_l0
   rw[if_neg (by simp)]
  |succ m ih=>
   intro i F hi h
   have hil:i < a0.Events.length:=by omega
   have he:a0.Events[i]? =some a0.Events[i]:=List.getElem?_eq_getElem hil
   have hsn:(if (decide ((IntKind.i64.wrap ((i:Int)+1)) < ((a0.Events).length:Int)))=true then
    (Go.Vl.idx a0.Events (IntKind.i64.wrap ((i:Int)+1))).bind fun x10=>some (x10.Time==a0.Events[i].Time) else some false)=some (sameNext a0.Events i a0.Events[i].Time):=by
    rw[w64 (by omega) (by omega)]
    unfold sameNext
    by_cases hlt:i+1 < a0.Events.length
    ·rw[if_pos (by simp;omega),show((i:Int)+1)=((i+1:Nat):Int) by omega,idx_lt hlt,List.getElem?_eq_getElem hlt];rfl
    ·rw[if_neg (by simp;omega),List.getElem?_eq_none (by omega)]
   cases hs:sameNext a0.Events i a0.Events[i].Time with
   |true=>
    obtain⟨F',e1,e2⟩:=ih (i+1) F (by omega) (seen_skip he hs h)
    refine⟨F',?_,e2⟩
    rw[← e1]
    refine iter_go ?_
    unfold rYFirst_l0
    rw[if_pos (by simp;omega),idx_lt hil]
    simp only[Option.bind_some]
    rw[hsn,hs]
    simp only[Option.bind_some]
    rw[if_pos (by trivial),w64 (by omega) (by omega)];rfl
   |false=>
    obtain⟨y,hy,hr⟩:=V.at_ a0.Events[i].Time
    have hF:SeenM a0 (objM a0.Objects) (i+1) (a0.Objects.foldl (firStep a0.Events[i].Time y) F):=by
     refine⟨(fir_get (id:=0) a0.Objects F h.nd).1,fun id=>?_⟩
     rw[(fir_get (id:=id) a0.Objects F h.nd).2,h.eq]
     simp only[seenF,he]
     cases seenF a0 (objM a0.Objects) i id with
     |some u=>rfl
     |none=>
      simp only
      refine ite_congr (propext ?_) (fun _=>rfl) (fun _=>rfl)
      rw[isS_iff hr.nd hr.tt,hr.iff]
      constructor
      ·rintro⟨_,h⟩;exact⟨hs,h⟩
      ·rintro⟨_,h⟩;exact⟨V.rchAt h,h⟩
    obtain⟨F',e1,e2⟩:=ih (i+1) _ (by omega) hF
    refine⟨F',?_,e2⟩
    rw[← e1]
    refine iter_go ?_
    unfold rYFirst_l0
    rw[if_pos (by simp;omega),idx_lt hil]
    simp only[Option.bind_some]
    rw[hsn,hs]
    simp only[Option.bind_some]
    rw[if_neg (by decide),hy]
    simp only[Option.bind_some]
    rw[fir_pass V.no]
    simp only[Option.bind_some]
    rw[w64 (by omega) (by omega)];rfl
 obtain⟨F,e1,e2⟩:=key a0.Events.length 0 [] (by omega) (seen_zero _ _)
 have e1':iter (rYFirst_l0 a0) (0,[])=some F:=e1
 unfold rYFirst
 rw[e1']
 exact⟨F,rfl,e2⟩
theorem OkV.until_ (t:Int):∃l,rYUntil a0 t=some l∧l.Pairwise (·≤·)∧l.Nodup∧∀x,x∈l↔∃u,seenF a0 (objM a0.Objects) a0.Events.length x=some u∧u≤t:=by
 obtain⟨F,e1,hF⟩:=V.first
 have hno:=V.no
 have e2:iter (rYUntil_l0 a0 F t) (0,[])=some (a0.Objects.foldl (takeM fun x=>(mget inE F x).isSome&&decide ((mget inE F x).getD 0≤t)) []):=by
  refine iter_foldl (body:=rYUntil_l0 a0 F t) a0.Objects (takeM fun x=>(mget inE F x).isSome&&decide ((mget inE F x).getD 0≤t)) (fun s=>s) (fun _ _=>True) (fun i hi s _=>⟨?_,trivial⟩) (fun s _=>?_) [] trivial
  ·unfold rYUntil_l0
   rw[if_pos (by simp;omega),idx_lt hi]
   simp only[Option.bind_some]
   rw[w64 (by omega) (by omega)]
   unfold takeM
   split <;> rfl
  ·unfold rYUntil_l0
   rw[if_neg (by simp)]
 obtain⟨i1,i2,i3⟩:=take_inv (p:=fun x=>(mget inE F x).isSome&&decide ((mget inE F x).getD 0≤t)) a0.Objects [] (by simp) (fun q hq=>by cases hq)
 have hmem:∀x,((∃o∈a0.Objects,o.ID=x)∧((mget inE F x).isSome&&decide ((mget inE F x).getD 0≤t))=true)↔∃u,seenF a0 (objM a0.Objects) a0.Events.length x=some u∧u≤t:=fun x=>by
  rw[hF.eq]
  cases hs:seenF a0 (objM a0.Objects) a0.Events.length x with
  |none=>simp
  |some u=>
   simp only[Option.isSome_some,Option.getD_some,Bool.true_and,decide_eq_true_eq,Option.some.injEq,exists_eq_left']
   exact⟨fun h=>h.2,fun h=>⟨V.rchAt (seen_rch hs),h⟩⟩
 obtain⟨l,e3,s1,s2,s3⟩:=asc_mem V.no V.nd i1 i2 (fun x hx=>by
  rcases(i3 x).1 hx with h |⟨h,_⟩
  ·simp at h
  ·exact h)
 refine⟨l,?_,s1,s2,fun x=>?_⟩
 ·unfold rYUntil
  rw[e1]
  simp only[Option.bind_some]
  rw[e2]
  simp only[Option.bind_some]
  rw[e3];rfl
 ·rw[s3,i3,←hmem]
  simp
variable (hf:FitR a0)
include hf
theorem OkV.rval:rYValid a0=some 0:=by rw[rValid_eq hf,validE_zero.2 V]
theorem OkV.rsince (id:Int):rYSince a0 id=some ((seenF a0 (objM a0.Objects) a0.Events.length id).getD 0,(seenF a0 (objM a0.Objects) a0.Events.length id).isSome):=by
 obtain⟨F,e1,hF⟩:=V.first
 unfold rYSince
 rw[V.rval hf,e1]
 simp only[Option.bind_some]
 rw[if_neg (by decide),hF.eq]
theorem OkV.rrefs (t:Int):rYRefs a0 t=some (sortIt ((refsF t [] a0.Events).map itemOf)):=by
 have hne:=V.ne
 unfold rYRefs rYnames
 rw[V.rval hf,ck_t (by omega)]
 simp only[Option.bind_some]
 rw[if_neg (by decide),names_sort]
theorem OkV.rever:rYEver a0=some (everL a0 (objM a0.Objects)):=by
 obtain⟨l,e1,s1,s2,s3⟩:=V.until_ 1099511627776
 unfold rYEver
 rw[V.rval hf,e1]
 simp only[Option.bind_some]
 rw[if_neg (by decide)]
 congr 1
 refine sorted_ext s1 V.ever_so s2 V.ever_nd fun x=>?_
 rw[s3,V.ever_mem,Option.isSome_iff_exists]
 constructor
 ·rintro⟨u,h,_⟩;exact⟨u,h⟩
 ·rintro⟨u,h⟩
  refine⟨u,h,?_⟩
  obtain⟨i,hi,e,he,_,_,rfl,_⟩:=(seen_char _).2 u h
  have:=V.tm e (List.mem_of_getElem? he)
  unfold timeB at this
  simp at this
  omega
theorem OkV.rreachable (t:Int):rYReachable a0 t=some (reachL (objM a0.Objects) (seedsAt a0 t)):=by
 obtain⟨m,e1,hm⟩:=V.at_ t
 obtain⟨l,e3,s1,s2,s3⟩:=asc_mem V.no V.nd hm.nd hm.tt (fun x hx=>V.rchAt ((hm.iff x).1 hx))
 unfold rYReachable
 rw[V.rval hf,e1]
 simp only[Option.bind_some]
 rw[if_neg (by decide),e3]
 simp only[Option.bind_some]
 congr 1
 exact sorted_ext s1 (V.reach_so t) s2 (V.reach_nd t) fun x=>by rw[s3,hm.iff,V.reach_mem]
theorem OkV.rlost (t:Int):rYLost a0 t=some (lostL a0 (objM a0.Objects) t):=by
 obtain⟨m,e1,hm⟩:=V.at_ t
 obtain⟨l,e2,s1,s2,s3⟩:=V.until_ t
 have hll:l.length≤400:=by
  have:=sub_len s2 (fun x hx=>by
   obtain⟨u,hu,_⟩:=(s3 x).1 hx
   exact V.rchAt (seen_rch hu))
  have:=V.no
  omega
 have e3:iter (rYLost_l0 l m) (0,[])=some (l.filter fun x=>!(mget inE m x).getD false):=by
  have:=iter_foldl (body:=rYLost_l0 l m) l (fun s x=>if(!(mget inE m x).getD false)=true then s++[x] else s) (fun s=>s) (fun i s=>s.length≤i) (fun i hi s hs=>⟨?_,?_⟩) (fun s hs=>?_) [] (by simp)
  ·rw[this]
   have hfo:∀(l:List Int) (s:List Int),l.foldl (fun s x=>if(!(mget inE m x).getD false)=true then s++[x] else s) s=s++l.filter fun x=>!(mget inE m x).getD false:=fun l=>by
    induction l with
    |nil=>intro s;simp
    |cons x l ih=>
     intro s
     rw[List.foldl_cons,ih,List.filter_cons]
     cases (!(mget inE m x).getD false) <;> simp
   rw[hfo];rfl
  ·unfold rYLost_l0
   rw[if_pos (by simp;omega),idx_lt hi]
   simp only[Option.bind_some]
   rw[w64 (by omega) (by omega)]
   cases hc:(!(mget inE m l[i]).getD false) with
   |true=>
    rw[if_pos rfl,ck_t (by simp;omega)]
    simp only[Option.bind_some,if_true];rfl
   |false=>rfl
  ·split
   ·simp;omega
   ·omega
  ·unfold rYLost_l0
   rw[if_neg (by simp)]
 unfold rYLost
 rw[V.rval hf,e1]
 simp only[Option.bind_some]
 rw[if_neg (by decide),e2]
 simp only[Option.bind_some]
 rw[e3]
 simp only[Option.bind_some]
 congr 1
 refine sorted_ext (s1.sublist List.filter_sublist) ?_ (s2.sublist List.filter_sublist) (V.lost_nd t) fun x=>?_
 ·unfold lostL
  exact V.ever_so.sublist List.filter_sublist
 ·rw[List.mem_filter,V.lost_mem,s3]
  refine and_congr_right fun _=>?_
  rw[← hm.iff,←isS_iff hm.nd hm.tt]
  simp
theorem OkV.rfind (id:Int):rYFind a0 id=some ((mget inE (objM a0.Objects) id).getD ⟨0,0,[],[],0,[],ByteArray.empty,0⟩,(mget inE (objM a0.Objects) id).isSome)∧hYFind a0 id=some ((mget inE (objM a0.Objects) id).getD ⟨0,0,[],[],0,[],ByteArray.empty,0⟩,(mget inE (objM a0.Objects) id).isSome):=by
 constructor
 ·unfold rYFind
  rw[V.rval hf]
  simp only[Option.bind_some]
  rw[if_neg (by decide),rfind_eq (by have:=V.no;omega),mget_objM]
  cases a0.Objects.find? (fun o=>o.ID==id) <;> rfl
 ·unfold hYFind
  rw[V.val hf,V.idx]
  simp only[Option.bind_some]
  rw[if_neg (by decide)]
  have hc:oYCopied ((mget inE (objM a0.Objects) id).getD ⟨0,0,[],[],0,[],ByteArray.empty,0⟩)=some ((mget inE (objM a0.Objects) id).getD ⟨0,0,[],[],0,[],ByteArray.empty,0⟩):=by
   have hs:((mget inE (objM a0.Objects) id).getD ⟨0,0,[],[],0,[],ByteArray.empty,0⟩).Data.length≤65536∧((mget inE (objM a0.Objects) id).getD ⟨0,0,[],[],0,[],ByteArray.empty,0⟩).Items.length≤64∧((mget inE (objM a0.Objects) id).getD ⟨0,0,[],[],0,[],ByteArray.empty,0⟩).Parents.length≤8:=by
    cases hg:mget inE (objM a0.Objects) id with
    |none=>simp
    |some o=>exact V.obj (objM_mem hg).1
   generalize (mget inE (objM a0.Objects) id).getD ⟨0,0,[],[],0,[],ByteArray.empty,0⟩=o at hs ⊢
   unfold oYCopied sYClone_byte sYClone_api_Item sYClone_int
   rw[ck_t (by omega),ck_t (by omega),ck_t (by omega)]
   rfl
  rw[hc];rfl
end
end Go.Vl
namespace Go.Vl
open Go
def TB (m:zT) (b:Int):Prop:=0≤m.at_∧m.at_≤b
theorem TB.mono {m:zT} {b c:Int} (h:TB m b) (hc:b≤c):TB m c:=⟨h.1,Int.le_trans h.2 hc⟩
theorem next_b {m:zT} {b:Int} (h:TB m b) (hb:b≤1000000000) {n:Int} (hn:0 < n):∃v m',zT_Next m n=some (v,m')∧0≤v∧v < n∧TB m' (b+1):=by
 obtain⟨h1,h2⟩:=h
 unfold zT_Next
 by_cases hx:(m.L.length:Int)≤m.at_
 ·rw[if_pos (by simpa using hx)]
  exact⟨0,m,rfl,by omega,hn,h1,by omega⟩
 ·rw[if_neg (by simpa using hx),idx_toNat h1 (by omega)]
  simp only[Option.bind_some,ck_t (show n≠0 by omega),bAnd16]
  rw[Int.tmod_eq_emod_of_nonneg (Int.emod_nonneg _ (by omega)),w64 (by omega) (by omega)]
  exact⟨_,_,rfl,Int.emod_nonneg _ (by omega),Int.emod_lt_of_pos _ hn,by simp only;omega,by simp only;omega⟩
theorem between_b {m:zT} {b:Int} (h:TB m b) (hb:b≤1000000000) {x y:Int} (hxy:x≤y) (hx: -1000000≤x) (hy:y≤1000000):∃v m',zT_Between m x y=some (v,m')∧x≤v∧v≤y∧TB m' (b+1):=by
 unfold zT_Between
 rw[w64 (x:=y - x) (by omega) (by omega),w64 (x:=y - x+1) (by omega) (by omega)]
 obtain⟨v,m',h1,h2,h3,h4⟩:=next_b h hb (n:=y - x+1) (by omega)
 rw[h1]
 simp only[Option.bind_some]
 rw[w64 (by omega) (by omega)]
 exact⟨_,_,rfl,by omega,by omega,h4⟩
theorem sidxB {b:ByteArray} {i:Int} (h0:0≤i) (h1:i < b.size):∃x,sidx b i=some x∧0≤x∧x < 256:=by
 have h2:i.toNat < b.size:=by omega
 have h3:=(b[i.toNat]).toNat_lt
 exact⟨((b[i.toNat]).toNat:Int),by unfold sidx;rw[if_pos h0,getElem?_pos b i.toNat h2];rfl,by omega,by omega⟩
theorem bytes_j {x0:Int×zT} {m:zT} {b:Int} (hm:TB m b) (hb:b≤1000000) {n i:Int} (hi:0≤i) (hn:n≤1000000) (hin:i < n) {L:List Int} {p:Int} {out:List Int} (ho:(out.length:Int)=i) (w:Bool):
  ∃s',mYBytes_j1 (x0.1,m) (i,L,p,out) w=some (.go s')∧s'.1=i+1∧(s'.2.2.2.length:Int)=i+1∧TB ⟨s'.2.1,s'.2.2.1⟩ (b+1):=by
 unfold mYBytes_j1
 cases w with
 |true=>
  obtain⟨v,m1,e1,v1,v2,t1⟩:=next_b hm (by omega) (n:=10) (by omega)
  simp only[if_true,e1,Option.bind_some]
  rw[ck_t (by simp <;> omega),w64 (x:=i+1) (by omega) (by omega)]
  exact⟨_,rfl,rfl,by simp <;> omega,t1⟩
 |false=>
  obtain⟨v,m1,e1,v1,v2,t1⟩:=next_b hm (by omega) (n:=8) (by omega)
  obtain⟨x,ex,_,_⟩:=sidxB (b:=(⟨#[97,98,99,100,101,102,116,107]⟩:ByteArray)) (i:=v) v1 (by exact v2)
  simp only[Bool.false_eq_true,if_false,e1,Option.bind_some,ex]
  rw[ck_t (by simp <;> omega),w64 (x:=i+1) (by omega) (by omega)]
  exact⟨_,rfl,rfl,by simp <;> omega,t1⟩
theorem bytes_b {m:zT} {b:Int} (h:TB m b) (hb:b≤100000) {n:Int} (h0:0≤n) (hn:n≤1000):∃l m',mYBytes m n=some (l,m')∧(l.length:Int)=n∧TB m' (b+3 * n):=by
 unfold mYBytes
 have key:∃e,iter (mYBytes_l0 n) (0,m.L,m.at_,[])=some e∧(TB ⟨e.1,e.2.1⟩ (b+3 * n)∧(e.2.2.length:Int)=n):=by
  refine iter_ex (body:=mYBytes_l0 n) (fun s=>0≤s.1∧s.1≤n∧TB ⟨s.2.1,s.2.2.1⟩ (b+3 * s.1)∧(s.2.2.2.length:Int)=s.1) (fun s=>(n - s.1).toNat) _ ?_ ⟨by simp,h0,by simpa using h,by simp⟩
  rintro⟨i,L,p,out⟩ ⟨g1,g2,g3,g4⟩
  simp only at g1 g2 g3 g4
  unfold mYBytes_l0
  simp only
  by_cases hi:i < n
  ·left
   obtain⟨v,m1,e1,v1,v2,t1⟩:=next_b g3 (by omega) (n:=8) (by omega)
   rw[if_pos (by simpa using hi),e1]
   simp only[Option.bind_some]
   by_cases c0:v=0
   ·rw[if_pos (by simpa using c0)]
    obtain⟨v',m2,e2,w1,w2,t2⟩:=next_b t1 (by omega) (n:=8) (by omega)
    obtain⟨x,ex,_,_⟩:=sidxB (b:=(⟨#[32,10,61,37,43,47,45,46]⟩:ByteArray)) (i:=v') w1 (by exact w2)
    simp only[e2,Option.bind_some,ex]
    rw[ck_t (by simp <;> omega),w64 (x:=i+1) (by omega) (by omega)]
    refine⟨_,rfl,⟨by simp only;omega,by simp only;omega,t2.mono (by simp only;omega),by simp <;> omega⟩,by simp only;omega⟩
   ·rw[if_neg (by simpa using c0)]
    by_cases c1:v=1
    ·rw[if_pos (by simpa using c1)]
     obtain⟨v',m2,e2,w1,w2,t2⟩:=next_b t1 (by omega) (n:=256) (by omega)
     simp only[e2,Option.bind_some]
     rw[ck_t (by simp <;> omega),w64 (x:=i+1) (by omega) (by omega)]
     refine⟨_,rfl,⟨by simp only;omega,by simp only;omega,t2.mono (by simp only;omega),by simp <;> omega⟩,by simp only;omega⟩
    ·rw[if_neg (by simpa using c1)]
     have hj:=fun w=>bytes_j (x0:=(v,m1)) t1 (by omega) g1 (n:=n) (by omega) hi (L:=L) (p:=p) g4 w
     split
     ·obtain⟨s',e2,r1,r2,r3⟩:=hj (v==2)
      exact⟨s',e2,⟨by omega,by omega,r3.mono (by omega),by omega⟩,by omega⟩
     ·obtain⟨s',e2,r1,r2,r3⟩:=hj (v==3)
      exact⟨s',e2,⟨by omega,by omega,r3.mono (by omega),by omega⟩,by omega⟩
  ·right
   have:i=n:=by omega
   subst this
   rw[if_neg (by simp)]
   exact⟨_,rfl,g3,g4⟩
 obtain⟨e,h1,h2,h3⟩:=key
 rw[h1]
 exact⟨_,_,rfl,h3,h2⟩
def kAt (os:List zO) (id k:Int):Prop:=∃o∈os,o.ID=id∧o.Kind=k
theorem kAt.mono {os l:List zO} {id k:Int} (h:kAt os id k):kAt (os++l) id k:=by
 obtain⟨o,h1,h2⟩:=h
 exact⟨o,List.mem_append_left _ h1,h2⟩
abbrev nA:ByteArray:=⟨#[97]⟩
abbrev nB:ByteArray:=⟨#[98]⟩
abbrev nD:ByteArray:=⟨#[100]⟩
abbrev nAnn:ByteArray:=⟨#[97,110,110]⟩
inductive MObj (os:List zO) (o:zO):Prop
 |blob:o.Kind=1→o.Data.length≤20→o.Items=[]→o.Tree=0→o.Parents=[]→o.Author=ByteArray.empty→o.Time=0→MObj os o
 |tree:o.Kind=2→o.Data=[]→(o.Items.map (·.Name)).Sublist [nA,nB,nD]→(∀x∈o.Items,x.ID < o.ID∧(kAt os x.ID 1∨kAt os x.ID 2))→o.Tree=0→o.Parents=[]→o.Author=ByteArray.empty→o.Time=0→MObj os o
 |commit:o.Kind=3→o.Data=[]→o.Items=[]→o.Tree < o.ID→kAt os o.Tree 2→(∀p∈o.Parents,p < o.ID∧kAt os p 3)→o.Parents.Nodup→o.Parents.length≤2→o.Author=nAnn→0≤o.Time→o.Time≤20→MObj os o
theorem MObj.mono {os l:List zO} {o:zO} (h:MObj os o):MObj (os++l) o:=by
 cases h with
 |blob h1 h2 h3 h4 h5 h6 h7=>exact .blob h1 h2 h3 h4 h5 h6 h7
 |tree h1 h2 h3 h4 h5 h6 h7 h8=>exact .tree h1 h2 h3 (fun x hx=>⟨(h4 x hx).1,(h4 x hx).2.imp kAt.mono kAt.mono⟩) h5 h6 h7 h8
 |commit h1 h2 h3 h4 h5 h6 h7 h8 h9 h10 h11=>exact .commit h1 h2 h3 h4 h5.mono (fun p hp=>⟨(h6 p hp).1,(h6 p hp).2.mono⟩) h7 h8 h9 h10 h11
structure MadeO (os:List zO):Prop where
 ids:∀(i:Nat) (h:i < os.length),os[i].ID=(i:Int)+1
 obj:∀o∈os,MObj os o
def tn (os:List zO):Nat:=(os.filter fun o=>o.Kind==2).length
theorem tn_push (os:List zO) (o:zO):tn (os++[o])=tn os+if o.Kind=2 then 1 else 0:=by
 unfold tn
 rw[List.filter_append,List.length_append]
 congr 1
 by_cases h:o.Kind=2 <;> simp[h]
theorem MadeO.nil:MadeO []:=⟨fun i h=>by simp at h,fun o h=>by cases h⟩
theorem MadeO.le {os:List zO} (M:MadeO os) {id k:Int} (h:kAt os id k):1≤id∧id≤os.length:=by
 obtain⟨o,ho,rfl,_⟩:=h
 obtain⟨i,hi,rfl⟩:=List.getElem_of_mem ho
 rw[M.ids i hi]
 omega
theorem MadeO.push {os:List zO} (M:MadeO os) {o:zO} (hid:o.ID=(os.length:Int)+1) (ho:MObj os o):MadeO (os++[o]):=by
 refine⟨fun i h=>?_,fun x hx=>?_⟩
 ·rw[List.getElem_append]
  split
  ·exact M.ids i _
  ·have:i=os.length:=by simp at h;omega
   subst this
   simpa using hid
 ·rcases List.mem_append.1 hx with h |h
  ·exact(M.obj x h).mono
  ·rw[List.mem_singleton.1 h];exact ho.mono
theorem MadeO.nd {os:List zO} (M:MadeO os):(os.map (·.ID)).Nodup:=by
 refine List.pairwise_iff_getElem.2 fun i j hi hj hij=>?_
 have hj':j < os.length:=by simpa using hj
 simp only[List.getElem_map]
 rw[M.ids,M.ids]
 omega
theorem add_eq {o:zO} {os:List zO} {ev:List zE} {id:Int} (h:id=os.length) (hl:os.length≤1000):
  mYRepository_1_cbbo0 o id ⟨os,ev⟩=some (id+1,id+1,⟨os++[⟨id+1,o.Kind,o.Data,o.Items,o.Tree,o.Parents,o.Author,o.Time⟩],ev⟩):=by
 unfold mYRepository_1_cbbo0
 rw[ck_t (by simp <;> omega),w64 (x:=id+1) (by omega) (by omega)]
 rfl
theorem l0_ex {m:zT} (h:TB m 10) {K:Int} (h1:1≤K) (h4:K≤4):∃e,iter mYRepository_l0 (K,m.L,m.at_,[],0,[],[])=some e∧
  (TB ⟨e.1,e.2.1⟩ 200∧e.2.2.1=[]∧e.2.2.2.1=(e.2.2.2.2.2.length:Int)∧(MadeO e.2.2.2.2.2∧tn e.2.2.2.2.2=0)∧(e.2.2.2.2.2.length:Int)≤4∧(e.2.2.2.2.1.length:Int)=K∧∀x∈e.2.2.2.2.1,kAt e.2.2.2.2.2 x 1):=by
 refine iter_ex (body:=mYRepository_l0) (fun s=>0≤s.1∧s.1≤K∧TB ⟨s.2.1,s.2.2.1⟩ (10+40 * (K - s.1))∧s.2.2.2.1=[]∧s.2.2.2.2.1=(s.2.2.2.2.2.2.length:Int)∧(MadeO s.2.2.2.2.2.2∧tn s.2.2.2.2.2.2=0)∧(s.2.2.2.2.2.2.length:Int)+s.1=K∧(s.2.2.2.2.2.1.length:Int)+s.1=K∧∀x∈s.2.2.2.2.2.1,kAt s.2.2.2.2.2.2 x 1) (fun s=>s.1.toNat) _ ?_ ⟨by simp only;omega,by simp only;omega,h.mono (by simp only;omega),rfl,rfl,⟨MadeO.nil,rfl⟩,by simp,by simp,by simp⟩
 rintro⟨k,L,p,ev,id,bl,os⟩ ⟨g1,g2,g3,g4,g5,g6,g7,g8,g9⟩
 simp only at g1 g2 g3 g4 g5 g6 g7 g8 g9
 unfold mYRepository_l0
 simp only
 by_cases hk:0 < k
 ·left
  obtain⟨v,m1,e1,v1,v2,t1⟩:=next_b g3 (by omega) (n:=12) (by omega)
  obtain⟨d,m2,e2,d1,t2⟩:=bytes_b t1 (by omega) v1 (by omega)
  rw[if_pos (by simpa using hk),e1]
  simp only[Option.bind_some,e2]
  rw[add_eq g5 (by omega)]
  simp only[Option.bind_some]
  rw[ck_t (by simp <;> omega),w64 (x:=k - 1) (by omega) (by omega)]
  refine⟨_,rfl,⟨by simp only;omega,by simp only;omega,t2.mono (by simp only;omega),g4,by simp <;> omega,?_,by simp <;> omega,by simp <;> omega,?_⟩,by simp only;omega⟩
  ·refine⟨g6.1.push (by simp only;omega) (.blob rfl (by simp only;omega) rfl rfl rfl rfl rfl),?_⟩
   simp only[tn_push,g6.2]
   rfl
  ·intro x hx
   simp only[List.mem_append,List.mem_singleton] at hx
   rcases hx with hx |rfl
   ·exact(g9 x hx).mono
   ·exact⟨_,List.mem_append_right _ (List.mem_singleton.2 rfl),rfl,rfl⟩
 ·right
  have:k=0:=by omega
  subst this
  rw[if_neg (by simp)]
  exact⟨_,rfl,g3.mono (by omega),g4,g5,g6,by simp only;omega,by simp only;omega,g9⟩
theorem l4_ex {v2:(List Int)×Int×(List zE)×Int×(List Int)×(List zO)} {s18:Int×(List Int)×Int×(List zE)×Int×(List zO)×(List Int)} {m:zT} {b:Int} (h:TB m b) (hb:b≤10000) {os:List zO}
  (hbl:1≤v2.2.2.2.2.1.length) (hbl2:v2.2.2.2.2.1.length≤1000) (h1:∀x∈v2.2.2.2.2.1,kAt os x 1) (htl:s18.2.2.2.2.2.2.length≤1000) (h2:∀x∈s18.2.2.2.2.2.2,kAt os x 2):
  ∃e,iter (mYRepository_l4 [nA,nB,nD] v2 s18) (0,m.L,m.at_,[])=some e∧(TB ⟨e.1,e.2.1⟩ (b+6)∧(e.2.2.map (·.Name)).Sublist [nA,nB,nD]∧∀x∈e.2.2,kAt os x.ID 1∨kAt os x.ID 2):=by
 refine iter_ex (body:=mYRepository_l4 [nA,nB,nD] v2 s18) (fun s=>0≤s.1∧s.1≤3∧TB ⟨s.2.1,s.2.2.1⟩ (b+2 * s.1)∧(s.2.2.2.map (·.Name)).Sublist ([nA,nB,nD].take s.1.toNat)∧∀x∈s.2.2.2,kAt os x.ID 1∨kAt os x.ID 2) (fun s=>(3 - s.1).toNat) _ ?_ ⟨by simp,by simp,h.mono (by simp only;omega),by simp,by simp⟩
 rintro⟨i,L,p,it⟩ ⟨g1,g2,g3,g4,g5⟩
 simp only at g1 g2 g3 g4 g5
 unfold mYRepository_l4
 simp only
 have hln:it.length≤3:=by
  have:=g4.length_le
  simp at this
  omega
 by_cases hi:i < 3
 ·left
  rw[if_pos (by simp <;> omega),ck_t (by simp <;> omega),idx_toNat g1 (by simp <;> omega)]
  simp only[Option.bind_some]
  obtain⟨v,m1,e1,v1,v2',t1⟩:=next_b g3 (by omega) (n:=3) (by omega)
  rw[e1,w64 (x:=i+1) (by omega) (by omega)]
  simp only[Option.bind_some]
  obtain⟨j,rfl⟩:∃j:Nat,i=(j:Int):=⟨i.toNat,by omega⟩
  have hj:j < [nA,nB,nD].length:=by simp <;> omega
  simp only[Int.toNat_natCast] at g4 ⊢
  have hsub:∀id,((it++[(⟨[nA,nB,nD][j],id⟩:zI)]).map (·.Name)).Sublist ([nA,nB,nD].take ((j:Int)+1).toNat):=fun id=>by
   have e:((j:Int)+1).toNat=j+1:=by omega
   rw[e,List.take_succ_eq_append_getElem hj,List.map_append]
   exact g4.append (List.Sublist.refl _)
  have hsub2:(it.map (·.Name)).Sublist ([nA,nB,nD].take ((j:Int)+1).toNat):=by
   have e:((j:Int)+1).toNat=j+1:=by omega
   rw[e,List.take_succ_eq_append_getElem hj]
   exact g4.trans (List.sublist_append_left _ _)
  have hput:∀id,(kAt os id 1∨kAt os id 2)→∀x∈it++[(⟨[nA,nB,nD][j],id⟩:zI)],kAt os x.ID 1∨kAt os x.ID 2:=fun id hid x hx=>by
   rcases List.mem_append.1 hx with hx |hx
   ·exact g5 x hx
   ·rw[List.mem_singleton.1 hx];exact hid
  by_cases c0:v=0
  ·rw[if_pos (by simpa using c0)]
   obtain⟨v',m2,e2,w1,w2,t2⟩:=next_b t1 (by omega) (n:=(v2.2.2.2.2.1.length:Int)) (by omega)
   rw[e2]
   simp only[Option.bind_some]
   rw[ck_t (by omega),idx_toNat w1 (by omega)]
   simp only[Option.bind_some]
   rw[ck_t (by simp <;> omega)]
   refine⟨_,rfl,⟨by simp only;omega,by simp only;omega,t2.mono (by simp only;omega),hsub _,hput _ (.inl (h1 _ (List.getElem_mem _)))⟩,by simp only;omega⟩
  ·rw[if_neg (by simpa using c0)]
   by_cases c1:v=1
   ·rw[if_pos (by simpa using c1)]
    by_cases c2:0 < (s18.2.2.2.2.2.2.length:Int)
    ·rw[if_pos (by simpa using c2)]
     obtain⟨v',m2,e2,w1,w2,t2⟩:=next_b t1 (by omega) (n:=(s18.2.2.2.2.2.2.length:Int)) c2
     rw[e2]
     simp only[Option.bind_some]
     rw[ck_t (by omega),idx_toNat w1 (by omega)]
     simp only[Option.bind_some]
     rw[ck_t (by simp <;> omega)]
     refine⟨_,rfl,⟨by simp only;omega,by simp only;omega,t2.mono (by simp only;omega),hsub _,hput _ (.inr (h2 _ (List.getElem_mem _)))⟩,by simp only;omega⟩
    ·rw[if_neg (by simpa using c2)]
     exact⟨_,rfl,⟨by simp only;omega,by simp only;omega,t1.mono (by simp only;omega),hsub2,g5⟩,by simp only;omega⟩
   ·rw[if_neg (by simpa using c1)]
    exact⟨_,rfl,⟨by simp only;omega,by simp only;omega,t1.mono (by simp only;omega),hsub2,g5⟩,by simp only;omega⟩
 ·right
  have:i=3:=by omega
  subst this
  rw[if_neg (by simp)]
  exact⟨_,rfl,g3.mono (by omega),g4,g5⟩
theorem l1_ex {v2:(List Int)×Int×(List zE)×Int×(List Int)×(List zO)} {m:zT} (h:TB m 210) {os0:List zO} (M:MadeO os0) (Mt:tn os0=0) (hl0:os0.length≤4) (hbl:1≤v2.2.2.2.2.1.length) (hbl2:v2.2.2.2.2.1.length≤1000) (hb:∀x∈v2.2.2.2.2.1,kAt os0 x 1) {id0:Int} (hid:id0=os0.length) {K:Int} (h1:1≤K) (h4:K≤4):
  ∃e,iter (mYRepository_l1 v2) (K,m.L,m.at_,[],id0,os0,[])=some e∧(TB ⟨e.1,e.2.1⟩ 300∧e.2.2.1=[]∧e.2.2.2.1=(e.2.2.2.2.1.length:Int)∧(MadeO e.2.2.2.2.1∧tn e.2.2.2.2.1≤4)∧(e.2.2.2.2.1.length:Int)≤8∧(e.2.2.2.2.2.length:Int)=K∧∀x∈e.2.2.2.2.2,kAt e.2.2.2.2.1 x 2):=by
 refine iter_ex (body:=mYRepository_l1 v2) (fun s=>0≤s.1∧s.1≤K∧TB ⟨s.2.1,s.2.2.1⟩ (210+10 * (K - s.1))∧s.2.2.2.1=[]∧s.2.2.2.2.1=(s.2.2.2.2.2.1.length:Int)∧(MadeO s.2.2.2.2.2.1∧(tn s.2.2.2.2.2.1:Int)+s.1≤4)∧(s.2.2.2.2.2.1.length:Int)+s.1≤8∧(s.2.2.2.2.2.2.length:Int)+s.1=K∧(∀x∈s.2.2.2.2.2.2,kAt s.2.2.2.2.2.1 x 2)∧∀x∈v2.2.2.2.2.1,kAt s.2.2.2.2.2.1 x 1) (fun s=>s.1.toNat) _ ?_ ⟨by simp only;omega,by simp only;omega,h.mono (by simp only;omega),rfl,hid,⟨M,by simp only;omega⟩,by simp only;omega,by simp,by simp,hb⟩
 rintro⟨k,L,p,ev,id,os,tr⟩ ⟨g1,g2,g3,g4,g5,g6,g7,g8,g9,g10⟩
 simp only at g1 g2 g3 g4 g5 g6 g7 g8 g9 g10
 unfold mYRepository_l1
 simp only
 by_cases hk:0 < k
 ·left
  obtain⟨e,e1,t1,i1,i2⟩:=l4_ex (s18:=(k,L,p,ev,id,os,tr)) g3 (by omega) hbl hbl2 g10 (by simp only;omega) g9
  rw[if_pos (by simpa using hk)]
  simp only[Option.bind_some]
  have e1':iter (mYRepository_l4 [(⟨#[97]⟩:ByteArray),(⟨#[98]⟩:ByteArray),(⟨#[100]⟩:ByteArray)] v2 (k,L,p,ev,id,os,tr)) (0,L,p,[])=some e:=e1
  rw[e1']
  simp only[Option.bind_some]
  rw[add_eq g5 (by omega)]
  simp only[Option.bind_some]
  rw[ck_t (by simp <;> omega),w64 (x:=k - 1) (by omega) (by omega)]
  refine⟨_,rfl,⟨by simp only;omega,by simp only;omega,t1.mono (by simp only;omega),g4,by simp <;> omega,?_,by simp <;> omega,by simp <;> omega,?_,fun x hx=>(g10 x hx).mono⟩,by simp only;omega⟩
  ·refine⟨g6.1.push (by simp only;omega) (.tree rfl rfl i1 (fun x hx=>⟨?_,i2 x hx⟩) rfl rfl rfl rfl),by simp only[tn_push];have:=g6.2;simp;omega⟩
   rcases i2 x hx with h |h
   ·have:=g6.1.le h;simp only;omega
   ·have:=g6.1.le h;simp only;omega
  ·intro x hx
   simp only[List.mem_append,List.mem_singleton] at hx
   rcases hx with hx |rfl
   ·exact(g9 x hx).mono
   ·exact⟨_,List.mem_append_right _ (List.mem_singleton.2 rfl),rfl,rfl⟩
 ·right
  have:k=0:=by omega
  subst this
  rw[if_neg (by simp)]
  exact⟨_,rfl,g3.mono (by omega),g4,g5,⟨g6.1,by have:=g6.2;simp only;omega⟩,by simp only;omega,by simp only;omega,g9⟩
theorem l3_ex {s8:Int×(List Int)×Int×(List zE)×Int×(List zO)×(List Int)} {m:zT} {b:Int} (h:TB m b) (hb:b≤10000) (hl:s8.2.2.2.2.2.2.length≤1000) (hn:s8.2.2.2.2.2.2.Nodup):
  ∃e,iter (mYRepository_l3 s8) (IntKind.i64.wrap (((s8.2.2.2.2.2.2).length:Int) - 1),m.L,m.at_,[])=some e∧(TB ⟨e.1,e.2.1⟩ (b+s8.2.2.2.2.2.2.length)∧e.2.2.Nodup∧e.2.2.length≤2∧∀x∈e.2.2,x∈s8.2.2.2.2.2.2):=by
 generalize hcs:s8.2.2.2.2.2.2=cs at *
 rw[w64 (by omega) (by omega)]
 refine iter_ex (body:=mYRepository_l3 s8) (fun s=> -1≤s.1∧s.1 < cs.length∧TB ⟨s.2.1,s.2.2.1⟩ (b+(cs.length - 1 - s.1))∧s.2.2.2.Nodup∧s.2.2.2.length≤2∧∀x∈s.2.2.2,∃j:Nat,s.1 < (j:Int)∧cs[j]? =some x) (fun s=>(s.1+1).toNat) _ ?_ ⟨by simp only;omega,by simp only;omega,h.mono (by simp only;omega),.nil,by simp,by simp⟩
 rintro⟨q,L,p,ps⟩ ⟨g1,g2,g3,g4,g5,g6⟩
 simp only at g1 g2 g3 g4 g5 g6
 unfold mYRepository_l3
 simp only[Option.bind_some]
 by_cases hc:0≤q∧ps.length < 2
 ·left
  have hcb:(decide (0≤q)&&decide ((ps.length:Int) < 2))=true:=by simp only[Bool.and_eq_true,decide_eq_true_eq];omega
  rw[if_pos hcb]
  obtain⟨v,m1,e1,v1,v2,t1⟩:=next_b g3 (by omega) (n:=2) (by omega)
  rw[e1,w64 (x:=q - 1) (by omega) (by omega)]
  simp only[Option.bind_some]
  by_cases c0:v=0
  ·rw[if_pos (by simpa using c0),hcs,ck_t (by omega),idx_toNat hc.1 (by omega)]
   simp only[Option.bind_some]
   rw[ck_t (by simp <;> omega)]
   refine⟨_,rfl,⟨by simp only;omega,by simp only;omega,t1.mono (by simp only;omega),?_,by simp <;> omega,fun x hx=>?_⟩,by simp only;omega⟩
   ·rw[List.nodup_append]
    refine⟨g4,by simp,fun a ha c hc'=>?_⟩
    rw[List.mem_singleton] at hc'
    subst hc'
    obtain⟨j,h1,h2⟩:=g6 a ha
    intro e
    subst e
    have hj:j < cs.length:=(List.getElem?_eq_some_iff.1 h2).1
    have:=(List.pairwise_iff_getElem.1 hn) q.toNat j (by omega) hj (by omega)
    rw[List.getElem?_eq_getElem hj] at h2
    exact this (Option.some.inj h2).symm
   ·simp only[List.mem_append,List.mem_singleton] at hx
    rcases hx with hx |rfl
    ·obtain⟨j,h1,h2⟩:=g6 x hx
     exact⟨j,by simp only;omega,h2⟩
    ·exact⟨q.toNat,by simp only;omega,List.getElem?_eq_getElem (by omega)⟩
  ·rw[if_neg (by simpa using c0)]
   refine⟨_,rfl,⟨by simp only;omega,by simp only;omega,t1.mono (by simp only;omega),g4,g5,fun x hx=>?_⟩,by simp only;omega⟩
   obtain⟨j,h1,h2⟩:=g6 x hx
   exact⟨j,by simp only;omega,h2⟩
 ·right
  have hcb:¬(decide (0≤q)&&decide ((ps.length:Int) < 2))=true:=by simp only[Bool.and_eq_true,decide_eq_true_eq];omega
  rw[if_neg hcb]
  refine⟨_,rfl,g3.mono (by omega),g4,g5,fun x hx=>?_⟩
  obtain⟨j,_,h2⟩:=g6 x hx
  exact List.mem_of_getElem? h2
theorem l2_ex {v4:(List Int)×Int×(List zE)×Int×(List zO)×(List Int)} {m:zT} (h:TB m 310) {os0:List zO} (M:MadeO os0) (Mt:tn os0≤4) (hl0:os0.length≤8) (htl:1≤v4.2.2.2.2.2.length) (htl2:v4.2.2.2.2.2.length≤1000) (hb:∀x∈v4.2.2.2.2.2,kAt os0 x 2) {id0:Int} (hid:id0=os0.length) {K:Int} (h1:1≤K) (h4:K≤5):
  ∃e,iter (mYRepository_l2 v4) (K,m.L,m.at_,[],id0,os0,[])=some e∧(TB ⟨e.1,e.2.1⟩ 400∧e.2.2.1=[]∧(MadeO e.2.2.2.1∧tn e.2.2.2.1≤4)∧(e.2.2.2.1.length:Int)≤13∧(e.2.2.2.2.length:Int)=K∧∀x∈e.2.2.2.2,kAt e.2.2.2.1 x 3):=by
 refine iter_ex (body:=mYRepository_l2 v4) (fun s=>0≤s.1∧s.1≤K∧TB ⟨s.2.1,s.2.2.1⟩ (310+10 * (K - s.1))∧s.2.2.2.1=[]∧s.2.2.2.2.1=(s.2.2.2.2.2.1.length:Int)∧(MadeO s.2.2.2.2.2.1∧tn s.2.2.2.2.2.1≤4)∧(s.2.2.2.2.2.1.length:Int)+s.1≤13∧((s.2.2.2.2.2.2.length:Int)+s.1=K∧s.2.2.2.2.2.2.Nodup)∧(∀x∈s.2.2.2.2.2.2,kAt s.2.2.2.2.2.1 x 3)∧∀x∈v4.2.2.2.2.2,kAt s.2.2.2.2.2.1 x 2) (fun s=>s.1.toNat) _ ?_ ⟨by simp only;omega,by simp only;omega,h.mono (by simp only;omega),rfl,hid,⟨M,Mt⟩,by simp only;omega,⟨by simp,.nil⟩,by simp,hb⟩
 rintro⟨k,L,p,ev,id,os,cs⟩ ⟨g1,g2,g3,g4,g5,g6,g7,⟨g8,g8n⟩,g9,g10⟩
 simp only at g1 g2 g3 g4 g5 g6 g7 g8 g8n g9 g10
 unfold mYRepository_l2
 simp only
 by_cases hk:0 < k
 ·left
  obtain⟨v,m1,e1,v1,v2,t1⟩:=next_b g3 (by omega) (n:=(v4.2.2.2.2.2.length:Int)) (by omega)
  rw[if_pos (by simpa using hk),e1]
  simp only[Option.bind_some]
  rw[ck_t (by omega),idx_toNat v1 (by omega)]
  simp only[Option.bind_some]
  obtain⟨u,m2,e2,u1,u2,t2⟩:=next_b t1 (by omega) (n:=20) (by omega)
  rw[e2]
  simp only[Option.bind_some]
  obtain⟨e,e3,t3,i1,i2,i3⟩:=l3_ex (s8:=(k,L,p,ev,id,os,cs)) t2 (by omega) (by simp only;omega) g8n
  simp only at e3 t3 i3
  rw[e3]
  simp only[Option.bind_some]
  rw[add_eq g5 (by omega)]
  simp only[Option.bind_some]
  rw[ck_t (by simp <;> omega),w64 (x:=k - 1) (by omega) (by omega)]
  have hT:kAt os (v4.2.2.2.2.2[v.toNat]'(by omega)) 2:=g10 _ (List.getElem_mem _)
  refine⟨_,rfl,⟨by simp only;omega,by simp only;omega,t3.mono (by simp only;omega),g4,by simp <;> omega,?_,by simp <;> omega,⟨by simp <;> omega,?_⟩,?_,fun x hx=>(g10 x hx).mono⟩,by simp only;omega⟩
  ·refine⟨g6.1.push (by simp only;omega) (.commit rfl rfl rfl ?_ hT (fun x hx=>⟨?_,g9 x (i3 x hx)⟩) i1 i2 rfl u1 (by simp only;omega)),by simp only[tn_push];have:=g6.2;simp;omega⟩
   ·have:=g6.1.le hT;simp only;omega
   ·have:=g6.1.le (g9 x (i3 x hx));simp only;omega
  ·simp only
   rw[List.nodup_append]
   refine⟨g8n,by simp,fun a ha c hc=>?_⟩
   rw[List.mem_singleton] at hc
   subst hc
   have:=g6.1.le (g9 a ha)
   omega
  ·intro x hx
   simp only[List.mem_append,List.mem_singleton] at hx
   rcases hx with hx |rfl
   ·exact(g9 x hx).mono
   ·exact⟨_,List.mem_append_right _ (List.mem_singleton.2 rfl),rfl,rfl⟩
 ·right
  have:k=0:=by omega
  subst this
  rw[if_neg (by simp)]
  exact⟨_,rfl,g3.mono (by omega),g4,g6,by simp only;omega,by simp only;omega,g9⟩
abbrev nMain:ByteArray:=⟨#[109,97,105,110]⟩
abbrev nOld:ByteArray:=⟨#[111,108,100]⟩
abbrev nX:ByteArray:=⟨#[120]⟩
abbrev nNew:ByteArray:=⟨#[110,101,119]⟩
structure EvOk (os:List zO) (e:zE):Prop where
 k:(e.Kind=1∧kAt os e.Commit 3)∨(e.Kind=2∧e.Commit=0)
 n:e.Name∈[nMain,nOld,nX,nNew]
 t:0≤e.Time∧e.Time≤100
noncomputable def nmF (l:List zE):List (ByteArray×Bool):=l.foldl (fun m e=>mset stE m e.Name (e.Kind==1)) []
noncomputable def delB:List zE→List (ByteArray×Bool)→Bool
 |[],_=>true
 |e::l,m=>(e.Kind != 2||(mget stE m e.Name).getD false)&&delB l (mset stE m e.Name (e.Kind==1))
theorem delB_append:∀(l l2:List zE) (m:List (ByteArray×Bool)),delB (l++l2) m=(delB l m&&delB l2 (l.foldl (fun m e=>mset stE m e.Name (e.Kind==1)) m))
 |[],l2,m=>by simp[delB]
 |e::l,l2,m=>by simp only[List.cons_append,delB,List.foldl_cons,delB_append l l2];rw[Bool.and_assoc]
structure MadeE (os:List zO) (l:List zE):Prop where
 ok:∀e∈l,EvOk os e
 so:l.Pairwise fun x y=>x.Time≤y.Time
 dl:delB l []=true
theorem events_ex {m:zT} (h:TB m 400) {os:List zO} {cs:List Int} (hl:1≤cs.length) (hl2:cs.length≤1000) (hc:∀x∈cs,kAt os x 3):∃l m',mYEvents m cs=some (l,m')∧MadeE os l∧l.length≤7∧(∀e∈l,e.Time≤20)∧TB m' 500:=by
 unfold mYEvents
 obtain⟨v,m1,e1,v1,v2,t1⟩:=next_b h (by omega) (n:=4) (by omega)
 rw[e1]
 simp only[Option.bind_some]
 obtain⟨K,m2,e2,u1,u2,t2⟩:=next_b t1 (by omega) (n:=8) (by omega)
 rw[e2]
 simp only[Option.bind_some]
 have key:∃e,iter (mYEvents_l0 cs) (v,K,m2.L,m2.at_,[],[])=some e∧(TB ⟨e.1,e.2.1⟩ 500∧MadeE os e.2.2∧e.2.2.length≤7∧∀x∈e.2.2,x.Time≤20):=by
  refine iter_ex (body:=mYEvents_l0 cs) (fun s=>0≤s.2.1∧s.2.1≤7∧(0≤s.1∧s.1+2 * s.2.1≤20)∧TB ⟨s.2.2.1,s.2.2.2.1⟩ (410+5 * (7 - s.2.1))∧s.2.2.2.2.1=nmF s.2.2.2.2.2∧(s.2.2.2.2.2.length:Int)+s.2.1≤7∧MadeE os s.2.2.2.2.2∧∀e∈s.2.2.2.2.2,e.Time≤s.1) (fun s=>s.2.1.toNat) _ ?_ ⟨u1,by simp only;omega,⟨v1,by simp only;omega⟩,t2.mono (by simp only;omega),rfl,by simp only[List.length_nil];omega,⟨by simp,.nil,rfl⟩,by simp⟩
  rintro⟨now,k,L,p,th,out⟩ ⟨g1,g2,⟨g3,g3'⟩,g4,g5,g6,g7,g8⟩
  simp only at g1 g2 g3 g3' g4 g5 g6 g7 g8
  unfold mYEvents_l0
  simp only
  by_cases hk:0 < k
  ·left
   rw[if_pos (by simpa using hk)]
   obtain⟨a,m3,e3,a1,a2,t3⟩:=next_b g4 (by omega) (n:=3) (by omega)
   rw[e3]
   simp only[Option.bind_some]
   obtain⟨b,m4,e4,b1,b2,t4⟩:=next_b t3 (by omega) (n:=3) (by omega)
   rw[e4]
   simp only[Option.bind_some]
   rw[ck_t (by simp <;> omega),idx_toNat b1 (by simp <;> omega)]
   simp only[Option.bind_some]
   have hnm:([nMain,nOld,nX][b.toNat]'(by simp <;> omega))∈[nMain,nOld,nX,nNew]:=by
    have:([nMain,nOld,nX][b.toNat]'(by simp <;> omega))∈[nMain,nOld,nX]:=List.getElem_mem _
    exact List.mem_append_left [nNew] this
   rw[show ([(⟨#[109,97,105,110]⟩:ByteArray),(⟨#[111,108,100]⟩:ByteArray),(⟨#[120]⟩:ByteArray)][b.toNat]'(by simp <;> omega))=([nMain,nOld,nX][b.toNat]'(by simp <;> omega)) from rfl]
   generalize [nMain,nOld,nX][b.toNat]'(by simp <;> omega)=nm at hnm ⊢
   rw[w64 (x:=now+a) (by omega) (by omega),w64 (x:=k - 1) (by omega) (by omega)]
   have hfin:∀(e:zE),EvOk os e→e.Time=now+a→e.Name=nm→(e.Kind=2→(mget stE th nm).getD false=true)→MadeE os (out++[e])∧(∀x∈out++[e],x.Time≤now+a)∧mset stE th nm (e.Kind==1)=nmF (out++[e]):=fun e hok ht hn hd=>by
    refine⟨⟨fun x hx=>?_,?_,?_⟩,fun x hx=>?_,?_⟩
    ·rcases List.mem_append.1 hx with h |h
     ·exact g7.ok x h
     ·rw[List.mem_singleton.1 h];exact hok
    ·rw[List.pairwise_append]
     exact⟨g7.so,List.pairwise_singleton _ _,fun x hx y hy=>by rw[List.mem_singleton.1 hy,ht];have:=g8 x hx;omega⟩
    ·rw[delB_append,g7.dl]
     have:out.foldl (fun m e=>mset stE m e.Name (e.Kind==1)) []=th:=g5.symm
     rw[this]
     simp only[delB,Bool.true_and,Bool.and_true,hn]
     by_cases k2:e.Kind=2
     ·rw[hd k2];simp
     ·simp[k2]
    ·rcases List.mem_append.1 hx with h |h
     ·have:=g8 x h;omega
     ·rw[List.mem_singleton.1 h,ht];exact Int.le_refl _
    ·unfold nmF
     rw[List.foldl_append,List.foldl_cons,List.foldl_nil]
     have:out.foldl (fun m e=>mset stE m e.Name (e.Kind==1)) []=th:=g5.symm
     rw[this,hn]
   have hset:∀(L':List Int) (p':Int),TB ⟨L',p'⟩ (413+5 * (7 - k))→∃s',((zT_Next (⟨L',p'⟩:zT) ((cs).length:Int)).bind fun y9=>
     (idx cs y9.1).bind fun x10=>
     (ck ((out).length+([(⟨1,nm,x10,now+a⟩:zE)]).length≤268435456)).bind fun _=>
     some (Lp.go (ε:=(List Int)×Int×(List zE)) (now+a,k - 1,y9.2.L,y9.2.at_,(mset stE th nm true),(out++[(⟨1,nm,x10,now+a⟩:zE)]))))=some (.go s')∧(0≤s'.2.1∧s'.2.1≤7∧(0≤s'.1∧s'.1+2 * s'.2.1≤20)∧TB ⟨s'.2.2.1,s'.2.2.2.1⟩ (410+5 * (7 - s'.2.1))∧s'.2.2.2.2.1=nmF s'.2.2.2.2.2∧(s'.2.2.2.2.2.length:Int)+s'.2.1≤7∧MadeE os s'.2.2.2.2.2∧∀e∈s'.2.2.2.2.2,e.Time≤s'.1)∧s'.2.1.toNat < k.toNat:=fun L' p' ht=>by
    obtain⟨c,m5,e5,c1,c2,t5⟩:=next_b ht (by omega) (n:=(cs.length:Int)) (by omega)
    rw[e5]
    simp only[Option.bind_some]
    rw[idx_toNat c1 (by omega)]
    simp only[Option.bind_some]
    rw[ck_t (by simp <;> omega)]
    obtain⟨f1,f2,f3⟩:=hfin ⟨1,nm,cs[c.toNat]'(by omega),now+a⟩ ⟨.inl ⟨rfl,hc _ (List.getElem_mem _)⟩,hnm,by simp only;omega⟩ rfl rfl (fun h=>by cases h)
    exact⟨_,rfl,⟨by simp only;omega,by simp only;omega,⟨by simp only;omega,by simp only;omega⟩,t5.mono (by simp only;omega),f3,by simp <;> omega,f1,f2⟩,by simp only;omega⟩
   by_cases hth:(mget stE th nm).getD false=true
   ·rw[if_pos hth]
    obtain⟨d,m5,e5,d1,d2,t5⟩:=next_b t4 (by omega) (n:=3) (by omega)
    rw[e5]
    simp only[Option.bind_some]
    by_cases c0:d=0
    ·rw[if_pos (by simpa using c0),ck_t (by simp <;> omega)]
     obtain⟨f1,f2,f3⟩:=hfin ⟨2,nm,0,now+a⟩ ⟨.inr ⟨rfl,rfl⟩,hnm,by simp only;omega⟩ rfl rfl (fun _=>hth)
     exact⟨_,rfl,⟨by simp only;omega,by simp only;omega,⟨by simp only;omega,by simp only;omega⟩,t5.mono (by simp only;omega),f3,by simp <;> omega,f1,f2⟩,by simp only;omega⟩
    ·rw[if_neg (by simpa using c0)]
     exact hset m5.L m5.at_ (t5.mono (by omega))
   ·rw[if_neg hth]
    simp only[Option.bind_some,Bool.false_eq_true,if_false]
    exact hset m4.L m4.at_ (t4.mono (by omega))
  ·right
   have:k=0:=by omega
   subst this
   rw[if_neg (by simp)]
   exact⟨_,rfl,g4.mono (by omega),g7,by simp only;omega,fun e he=>by have:=g8 e he;omega⟩
 obtain⟨e,h1,h2,h3,h4,h5⟩:=key
 rw[h1]
 exact⟨_,_,rfl,h3,h4,h5,h2⟩
structure MadeR (r:zR):Prop where
 o:MadeO r.Objects
 lo:r.Objects.length≤13
 cm:∃o∈r.Objects,o.Kind=3
 e:MadeE r.Objects r.Events
 le:r.Events.length≤10
 tn:tn r.Objects≤4
theorem repo_ex (a:List Int):∃r m,mYRepository ⟨a,0⟩=some (r,m)∧MadeR r∧r.Events.length≤7∧(∀e∈r.Events,e.Time≤20)∧TB m 500:=by
 unfold mYRepository
 obtain⟨k1,m1,e1,a1,b1,t1⟩:=between_b (m:=⟨a,0⟩) (b:=0) ⟨Int.le_refl _,Int.le_refl _⟩ (by omega) (x:=1) (y:=4) (by omega) (by omega) (by omega)
 rw[e1]
 simp only[Option.bind_some]
 obtain⟨⟨L1,p1,ev1,id1,bl1,os1⟩,e2,t2,x1,x2,x3,x4,x5,x6⟩:=l0_ex (t1.mono (by omega)) a1 b1
 rw[e2]
 simp only at t2 x1 x2 x3 x4 x5 x6
 simp only[Option.bind_some]
 subst x1
 obtain⟨k2,m2,e3,a2,b2,t3⟩:=between_b t2 (by omega) (x:=1) (y:=4) (by omega) (by omega) (by omega)
 rw[e3]
 simp only[Option.bind_some]
 obtain⟨⟨L2,p2,ev2,id2,os2,tr2⟩,e4,t4,y1,y2,y3,y4,y5,y6⟩:=l1_ex (v2:=(L1,p1,[],id1,bl1,os1)) (t3.mono (by omega)) x3.1 x3.2 (by omega) (by simp only;omega) (by simp only;omega) x6 x2 a2 b2
 rw[e4]
 simp only at t4 y1 y2 y3 y4 y5 y6
 simp only[Option.bind_some]
 subst y1
 obtain⟨k3,m3,e5,a3,b3,t5⟩:=between_b t4 (by omega) (x:=1) (y:=5) (by omega) (by omega) (by omega)
 rw[e5]
 simp only[Option.bind_some]
 obtain⟨⟨L3,p3,ev3,os3,cs3⟩,e6,t6,z1,z2,z3,z4,z5⟩:=l2_ex (v4:=(L2,p2,[],id2,os2,tr2)) (t5.mono (by omega)) y3.1 y3.2 (by omega) (by simp only;omega) (by simp only;omega) y6 y2 a3 b3
 rw[e6]
 simp only at t6 z1 z2 z3 z4 z5
 simp only[Option.bind_some]
 obtain⟨ev,m4,e7,w1,w2,w3,t7⟩:=events_ex t6 (cs:=cs3) (by omega) (by omega) z5
 rw[e7]
 simp only[Option.bind_some]
 refine⟨_,_,rfl,⟨z2.1,by simp only;omega,?_,w1,by simp only;omega,z2.2⟩,w2,w3,t7⟩
 obtain⟨o,h1,_,h2⟩:=z5 (cs3[0]'(by omega)) (List.getElem_mem _)
 exact⟨o,h1,h2⟩
end Go.Vl
namespace Go.Vl
open Go
theorem stE_eqR (a b:ByteArray):stE a b=true↔a=b:=by
 unfold stE
 rw[beq_iff_eq,ByteArray.toList_eq,ByteArray.toList_eq]
 exact⟨fun h=>ByteArray.ext (Array.toList_inj.1 h),fun h=>by rw[h]⟩
theorem nodup_len {α:Type}:∀{l m:List α},l.Nodup→l ⊆ m→l.length≤m.length
 |[],_,_,_=>Nat.zero_le _
 |x::l,m,h1,h2=>by
  rw[List.nodup_cons] at h1
  obtain⟨s,t,rfl⟩:=List.append_of_mem (h2 (List.mem_cons_self ..))
  have:l ⊆ s++t:=fun y hy=>by
   rcases List.mem_append.1 (h2 (List.mem_cons_of_mem _ hy)) with h |h
   ·exact List.mem_append_left _ h
   ·rcases List.mem_cons.1 h with rfl |h
    ·exact absurd hy h1.1
    ·exact List.mem_append_right _ h
  have:=nodup_len h1.2 this
  simp only[List.length_append,List.length_cons] at this ⊢
  omega
theorem leave_sub (l:List (Int×zO)):(leaveL l).Sublist l:=List.filter_sublist
theorem min_key:∀{l:List (Int×zO)},l≠[]→∃q∈l,∀r∈l,q.1≤r.1
 |[],h=>absurd rfl h
 |[q],_=>⟨q,by simp,by simp⟩
 |q::r::l,_=>by
  obtain⟨p,hp,h⟩:=min_key (l:=r::l) (by simp)
  by_cases hc:q.1≤p.1
  ·refine⟨q,by simp,fun x hx=>?_⟩
   rcases List.mem_cons.1 hx with rfl |hx
   ·exact Int.le_refl _
   ·exact Int.le_trans hc (h x hx)
  ·refine⟨p,List.mem_cons_of_mem _ hp,fun x hx=>?_⟩
   rcases List.mem_cons.1 hx with rfl |hx
   ·omega
   ·exact h x hx
theorem leave_lt {l:List (Int×zO)} (h:∀q∈l,∀j∈namesO q.2,j < q.1) (hne:l≠[]):(leaveL l).length < l.length:=by
 obtain⟨q,hq,hmin⟩:=min_key hne
 refine List.length_filter_lt_length_iff_exists.2 ⟨q,hq,?_⟩
 rw[Bool.not_eq_true]
 refine List.any_eq_false.2 fun j hj hk=>?_
 unfold hasK at hk
 rw[mget_mem inE_eq] at hk
 obtain⟨r,hr,h2⟩:=List.mem_map.1 hk
 have h1:=h q hq j hj
 have h3:=hmin r hr
 omega
theorem cycN_nil:∀(n:Nat) {l:List (Int×zO)},(∀q∈l,∀j∈namesO q.2,j < q.1)→l.length≤n→cycN n l=[]
 |0,l,_,hl=>by
  have:l=[]:=List.eq_nil_of_length_eq_zero (by omega)
  subst this;rfl
 |n+1,l,h,hl=>by
  rw[cycN]
  refine cycN_nil n (fun q hq=>h q ((leave_sub l).subset hq)) ?_
  by_cases hne:l=[]
  ·subst hne;simp[leaveL]
  ·have:=leave_lt h hne;omega
theorem cyc_no {l:List (Int×zO)} (h:∀q∈l,∀j∈namesO q.2,j < q.1):cycB l=false:=by
 unfold cycB
 rw[cycN_nil l.length h (Nat.le_refl _)];rfl
theorem many_no {ns:List ByteArray} (hn:ns.length≤32):∀{l:List zE} {m:List (ByteArray×Bool)},(∀e∈l,e.Name∈ns)→(m.map (·.1)).Nodup→(∀k∈m.map (·.1),k∈ns)→manyB l m=false
 |[],_,_,_,_=>rfl
 |e::l,m,h,h1,h2=>by
  have h3:((nameStep m e).map (·.1)).Nodup:=by
   unfold nameStep
   split
   ·exact mset_nodup stE_eqR h1 _ _
   ·exact mdel_nodup h1 _
  have h4:∀k∈(nameStep m e).map (·.1),k∈ns:=by
   intro k hk
   unfold nameStep at hk
   split at hk
   ·rcases(mset_mem stE_eqR).1 hk with rfl |hk
    ·exact h e (by simp)
    ·exact h2 k hk
   ·exact h2 k (((mdel_mem stE_eqR h1).1 hk).2)
  have h5:=nodup_len h3 h4
  rw[manyB,many_no hn (fun x hx=>h x (by simp[hx])) h3 h4]
  simp at h5 ⊢
  omega
theorem nlB_iff {all:List (Int×zO)}:∀{l:List zE} {m:List (ByteArray×Bool)},(∀e∈l,e.Kind=1→kindM all e.Commit=3)→delB l m=true→nlB all l m=false
 |[],_,_,_=>nl_nil _ _
 |e::l,m,h,hd=>by
  rw[delB,Bool.and_eq_true] at hd
  rw[nl_cons,nlB_iff (fun x hx=>h x (by simp[hx])) hd.2,Bool.or_false]
  unfold bareB
  rw[Bool.or_eq_false_iff]
  constructor
  ·by_cases k1:e.Kind=1
   ·simp[h e (by simp) k1]
   ·simp[k1]
  ·cases hb:e.Kind==2 with
   |false=>rfl
   |true=>
    have:=hd.1
    unfold bne at this
    rw[hb] at this
    simpa using this
theorem MadeO.kind {os:List zO} (M:MadeO os) {id k:Int} (h:kAt os id k):kindM (objM os) id=k:=by
 obtain⟨o,ho,rfl,rfl⟩:=h
 unfold kindM
 have:mget inE (objM os) o.ID=some o:=mget_of inE_eq (v:=o) (by rw[objM_keys];exact M.nd) (List.mem_map.2 ⟨o,ho,rfl⟩)
 rw[this];rfl
theorem MadeO.id_le {os:List zO} (M:MadeO os) {o:zO} (h:o∈os):1≤o.ID∧o.ID≤os.length:=M.le ⟨o,h,rfl,rfl⟩
theorem nm3:nmB nA=true∧nmB nB=true∧nmB nD=true∧nmB nAnn=true:=by
 refine⟨?_,?_,?_,?_⟩ <;> decide +kernel
theorem nmz4:∀n∈[nMain,nOld,nX,nNew],nmB n=true:=by
 intro n hn
 simp only[List.mem_cons,List.not_mem_nil,or_false] at hn
 rcases hn with rfl |rfl |rfl |rfl <;> decide +kernel
theorem lt3:[nA,nB,nD].Pairwise fun x y=>Op.bytesLess x.toList y.toList=true:=by
 simp only[List.pairwise_cons,List.mem_cons,List.not_mem_nil,or_false,ByteArray.toList_eq]
 refine⟨?_,?_,?_,.nil⟩
 ·rintro y (rfl |rfl) <;> decide +kernel
 ·rintro y rfl;decide +kernel
 ·intro y h;cases h
theorem other_no {o:zO} (h1:o.Tree=0) (h2:o.Parents=[]) (h3:o.Author=ByteArray.empty) (h4:o.Time=0):otherB o=false:=by
 unfold otherB
 rw[h1,h2,h3,h4]
 have:ByteArray.empty=(⟨#[]⟩:ByteArray):=rfl
 rw[this]
 simp
theorem items_ok {l:List zI} (h:(l.map (·.Name)).Sublist [nA,nB,nD]) (hid:∀x∈l,numB x.ID=true):∀i,i < l.length→treeB l i=true:=by
 intro i hi
 have hp:=List.Pairwise.sublist h lt3
 have hn:∀x∈l,nmB x.Name=true:=fun x hx=>by
  have:=h.subset (List.mem_map_of_mem (f:=(·.Name)) hx)
  simp only[List.mem_cons,List.not_mem_nil,or_false] at this
  rcases this with e |e |e <;> rw[e]
  ·exact nm3.1
  ·exact nm3.2.1
  ·exact nm3.2.2.1
 unfold treeB
 rw[List.getElem?_eq_getElem hi]
 simp only
 rw[hn _ (List.getElem_mem hi),hid _ (List.getElem_mem hi)]
 cases i with
 |zero=>rfl
 |succ i=>
  simp only[Nat.add_sub_cancel,List.getElem?_eq_getElem (show i < l.length by omega)]
  have:=List.pairwise_iff_getElem.1 hp i (i+1) (by simp;omega) (by simp;omega) (by omega)
  simp only[List.getElem_map] at this
  rw[this];simp
theorem parents_ok {l:List Int} (h:l.Nodup) (hid:∀x∈l,numB x=true):∀i,i < l.length→parB l i=true:=by
 intro i hi
 unfold parB
 rw[List.getElem?_eq_getElem hi]
 simp only
 rw[hid _ (List.getElem_mem hi),Bool.true_and,Bool.not_eq_true',List.contains_eq_mem,decide_eq_false_iff_not]
 intro hm
 obtain⟨j,hj,e⟩:=List.getElem_of_mem hm
 rw[List.getElem_take] at e
 have hji:j < i:=by simp at hj;omega
 have:=(List.pairwise_iff_getElem.1 h) j i (by omega) hi hji
 exact this e
theorem numB_of {x:Int} (h:1≤x∧x≤1000):numB x=true:=by
 unfold numB
 simp only[Bool.and_eq_true,decide_eq_true_eq]
 omega
theorem sub3_len {l:List zI} (h:(l.map (·.Name)).Sublist [nA,nB,nD]):l.length≤3:=by
 have:=h.length_le
 simpa using this
theorem MadeO.objE {os:List zO} (M:MadeO os) (hl:os.length≤1000) {o:zO} (ho:o∈os):objE o=0:=by
 have hid:=M.id_le ho
 refine objE_zero.2 ⟨numB_of (by omega),?_,?_⟩
 ·cases M.obj o ho with
  |blob h1 h2 h3 h4 h5=>rw[h3,h5];simp;omega
  |tree h1 h2 h3 h4 h5 h6=>rw[h2,h6];have:=sub3_len h3;simp;omega
  |commit h1 h2 h3 h4 h5 h6 h7 h8=>rw[h2,h3];simp;omega
 ·unfold rightB
  cases M.obj o ho with
  |blob h1 h2 h3 h4 h5 h6 h7=>rw[if_pos h1,h3,other_no h4 h5 h6 h7];rfl
  |tree h1 h2 h3 h4 h5 h6 h7 h8=>
   rw[if_neg (by omega),if_pos h1,h2,other_no h5 h6 h7 h8]
   rw[decide_eq_true (items_ok h3 fun x hx=>?_)]
   ·rfl
   ·rcases(h4 x hx).2 with h |h
    ·have:=M.le h;exact numB_of (by omega)
    ·have:=M.le h;exact numB_of (by omega)
  |commit h1 h2 h3 h4 h5 h6 h7 h8 h9 h10 h11=>
   rw[if_neg (by omega),if_neg (by omega),if_pos h1,h2,h3]
   have hT:=M.le h5
   unfold commitB
   rw[decide_eq_true (parents_ok h7 fun x hx=>numB_of (by have:=M.le (h6 x hx).2;omega)),numB_of (by omega),h9,nm3.2.2.2]
   simp
   omega
theorem MadeO.here {os:List zO} (M:MadeO os) {o:zO} (ho:o∈os):hereB (objM os) o=true:=by
 unfold hereB
 simp only[Bool.and_eq_true,List.all_eq_true,Bool.or_eq_true,beq_iff_eq,bne_iff_ne]
 cases M.obj o ho with
 |blob h1 h2 h3 h4 h5=>rw[h3,h5];exact⟨by simp,by simp,.inl (by omega)⟩
 |tree h1 h2 h3 h4 h5 h6=>rw[h6];exact⟨fun x hx=>(h4 x hx).2.imp M.kind M.kind,by simp,.inl (by omega)⟩
 |commit h1 h2 h3 h4 h5 h6=>rw[h3];exact⟨by simp,fun p hp=>M.kind (h6 p hp).2,.inr (M.kind h5)⟩
theorem MadeO.down {os:List zO} (M:MadeO os) {o:zO} (ho:o∈os) {j:Int} (hj:j∈namesO o):j < o.ID:=by
 unfold namesO at hj
 simp only[List.mem_append,List.mem_map] at hj
 cases M.obj o ho with
 |blob h1 h2 h3 h4 h5=>rw[h3,h5,if_neg (by omega)] at hj;simp at hj
 |tree h1 h2 h3 h4 h5 h6=>
  rw[h6,if_neg (by omega)] at hj
  rcases hj with (hj |⟨x,hx,rfl⟩) |hj
  ·cases hj
  ·exact(h4 x hx).1
  ·cases hj
 |commit h1 h2 h3 h4 h5 h6=>
  rw[h3,if_pos h1] at hj
  rcases hj with (hj |⟨x,hx,rfl⟩) |hj
  ·exact(h6 j hj).1
  ·cases hx
  ·rw[List.mem_singleton.1 hj];exact h4
theorem MadeR.ok {r:zR} (M:MadeR r):OkV r:=by
 have hlo:=M.lo
 have hle:=M.le
 refine⟨by omega,by omega,fun o ho=>M.o.objE (by omega) ho,fun e he=>?_,M.o.nd,fun o ho=>M.o.here ho,nlB_iff (fun e he hk=>?_) M.e.dl,cyc_no fun q hq j hj=>?_,fun e he=>?_,M.e.so,many_no (ns:=[nMain,nOld,nX,nNew]) (by simp) (fun e he=>(M.e.ok e he).n) (by simp) (by simp)⟩
 ·have h:=M.e.ok e he
  unfold wrongB
  rw[nmz4 _ h.n]
  rcases h.k with ⟨h1,_⟩ |⟨h1,h2⟩
  ·simp[h1]
  ·simp[h1,h2]
 ·rcases(M.e.ok e he).k with ⟨_,h2⟩ |⟨h1,_⟩
  ·exact M.o.kind h2
  ·omega
 ·obtain⟨o,ho,rfl⟩:=List.mem_map.1 hq
  exact M.o.down ho hj
 ·have h:=(M.e.ok e he).t
  unfold timeB
  simp
  omega
theorem nsz4:∀n∈[nMain,nOld,nX,nNew],n.size≤1000:=by
 intro n hn
 simp only[List.mem_cons,List.not_mem_nil,or_false] at hn
 rcases hn with rfl |rfl |rfl |rfl <;> decide
theorem MadeR.fit {r:zR} (M:MadeR r):FitR r:=by
 refine⟨fun o ho=>?_,fun e he=>by have:=nsz4 _ (M.e.ok e he).n;omega⟩
 cases M.o.obj o ho with
 |blob h1 h2 h3 h4 h5 h6 h7=>exact⟨by rw[h3];simp,by rw[h6];decide⟩
 |tree h1 h2 h3 h4 h5 h6 h7 h8=>
  refine⟨fun x hx=>?_,by rw[h7];decide⟩
  have:=h3.subset (List.mem_map_of_mem (f:=(·.Name)) hx)
  simp only[List.mem_cons,List.not_mem_nil,or_false] at this
  rcases this with e |e |e <;> rw[e] <;> decide
 |commit h1 h2 h3 h4 h5 h6 h7 h8 h9=>exact⟨by rw[h3];simp,by rw[h9];decide⟩
end Go.Vl
namespace Go.Vl
open Go
abbrev aw1:zO:=⟨1,2,[],[],0,[],ByteArray.empty,0⟩
abbrev aw2:zO:=⟨2,3,[],[],1,[],(⟨#[97]⟩:ByteArray),0⟩
abbrev aw3:zO:=⟨3,3,[],[],1,[],(⟨#[98]⟩:ByteArray),0⟩
abbrev awR:zR:=⟨[aw1,aw2,aw3],[⟨1,(⟨#[109]⟩:ByteArray),2,5⟩,⟨1,(⟨#[109]⟩:ByteArray),3,9⟩]⟩
theorem aw_fit:FitR awR:=by
 refine⟨fun o ho=>?_,fun e he=>?_⟩
 ·simp only[List.mem_cons,List.not_mem_nil,or_false] at ho
  rcases ho with rfl |rfl |rfl <;> exact⟨by simp,by decide⟩
 ·simp only[List.mem_cons,List.not_mem_nil,or_false] at he
  rcases he with rfl |rfl <;> decide
theorem aw_nm:nmB (⟨#[97]⟩:ByteArray)=true∧nmB (⟨#[98]⟩:ByteArray)=true∧nmB (⟨#[109]⟩:ByteArray)=true:=by
 refine⟨?_,?_,?_⟩ <;> decide +kernel
theorem aw_ok:OkV awR:=by
 obtain⟨n1,n2,n3⟩:=aw_nm
 refine⟨by simp,by simp,fun o ho=>?_,fun e he=>?_,by simp,fun o ho=>?_,?_,?_,fun e he=>?_,by simp,?_⟩
 ·refine objE_zero.2 ?_
  simp only[List.mem_cons,List.not_mem_nil,or_false] at ho
  rcases ho with rfl |rfl |rfl
  ·exact⟨rfl,by simp,by unfold rightB;rw[other_no rfl rfl rfl rfl];simp⟩
  ·exact⟨rfl,by simp,by unfold rightB commitB;rw[n1];simp[numB]⟩
  ·exact⟨rfl,by simp,by unfold rightB commitB;rw[n2];simp[numB]⟩
 ·simp only[List.mem_cons,List.not_mem_nil,or_false] at he
  rcases he with rfl |rfl <;> (unfold wrongB;rw[n3];rfl)
 ·simp only[List.mem_cons,List.not_mem_nil,or_false] at ho
  rcases ho with rfl |rfl |rfl <;> simp[hereB,kindM,objM,mget_cons,inE,mget_nil]
 ·exact nlB_iff (fun e he hk=>by
   simp only[List.mem_cons,List.not_mem_nil,or_false] at he
   rcases he with rfl |rfl <;> simp[kindM,objM,mget_cons,inE,mget_nil]) (by simp[delB])
 ·refine cyc_no fun q hq j hj=>?_
  obtain⟨o,ho,rfl⟩:=List.mem_map.1 hq
  simp only[List.mem_cons,List.not_mem_nil,or_false] at ho
  rcases ho with rfl |rfl |rfl <;> simp[namesO] at hj ⊢ <;> omega
 ·simp only[List.mem_cons,List.not_mem_nil,or_false] at he
  rcases he with rfl |rfl <;> rfl
 ·exact many_no (ns:=[(⟨#[109]⟩:ByteArray)]) (by simp) (by simp) (by simp) (by simp)
theorem aw_seeds (t:Int):seedsAt awR t=if t < 5 then [] else if t < 9 then [2] else [3]:=by
 unfold seedsAt
 simp only[refsF]
 by_cases h1:t < 5
 ·rw[if_pos h1,if_pos h1];rfl
 ·rw[if_neg h1,if_neg h1]
  by_cases h2:t < 9
  ·rw[if_pos h2,if_pos h2];simp[refStep,mset_nil]
  ·rw[if_neg h2,if_neg h2];simp[refStep,mset_nil,mset_cons,stE]
theorem aw_nmO (id:Int):nmO (objM awR.Objects) id=if id=2∨id=3 then [1] else []:=by
 unfold nmO
 simp only[objM,List.map_cons,List.map_nil,mget_cons,mget_nil,inE,beq_iff_eq]
 by_cases h1:id=1
 ·subst h1;simp[namesO]
 ·by_cases h2:id=2
  ·subst h2;simp[namesO]
  ·by_cases h3:id=3
   ·subst h3;simp[namesO]
   ·simp[h1,h2,h3,namesO]
theorem aw_rch {s:Int} (hs:s=2∨s=3) {id:Int}:Rch (objM awR.Objects) [s] id↔id=s∨id=1:=by
 constructor
 ·intro h
  induction h with
  |seed h=>exact .inl (List.mem_singleton.1 h)
  |step _ h ih=>
   rw[aw_nmO] at h
   split at h
   ·exact .inr (List.mem_singleton.1 h)
   ·cases h
 ·rintro(rfl |rfl)
  ·exact .seed (by simp)
  ·exact .step (id:=s) (.seed (by simp)) (by rw[aw_nmO,if_pos hs];simp)
theorem aw_reach {s:Int} (hs:s=2∨s=3):reachL (objM awR.Objects) [s]=[1,s]:=by
 have hm:RchM (objM awR.Objects) [s] [(1,true),(s,true)]:=⟨by rcases hs with rfl |rfl <;> simp,by simp,fun id=>by rw[aw_rch hs];simp;exact or_comm⟩
 rw[← reachL_eq hm]
 rw[show ([(1,true),(s,true)]:List (Int×Bool)).map (·.1)=[1,s] from rfl]
 exact sortI_id (by rcases hs with rfl |rfl <;> simp)
theorem aw_lost:lostL awR (objM awR.Objects) 9=[2]:=by
 have hn:(lostL awR (objM awR.Objects) 9).Nodup:=aw_ok.lost_nd 9
 have hmem:∀x,x∈lostL awR (objM awR.Objects) 9↔x=2:=fun x=>by
  rw[aw_ok.lost_mem,aw_seeds 9,if_neg (by omega),if_neg (by omega),aw_rch (.inr rfl)]
  constructor
  ·rintro⟨⟨u,h1,h2⟩,h3⟩
   obtain⟨i,hi,e,he,hs,hr,rfl,_⟩:=(seen_char _).2 u h1
   rw[aw_seeds] at hr
   split at hr
   ·exact absurd hr rch_nil
   ·split at hr
    ·rcases(aw_rch (.inl rfl)).1 hr with h |h
     ·exact h
     ·omega
    ·have:=(aw_rch (.inr rfl)).1 hr;omega
  ·rintro rfl
   have h:=rch_seen aw_ok.so (t:=5) (id:=2) (all:=objM awR.Objects) (by rw[aw_seeds 5,if_neg (by omega),if_pos (by omega)];exact .seed (by simp))
   obtain⟨u,h1,h2⟩:=h
   exact⟨⟨u,h1,by omega⟩,by omega⟩
 refine List.Perm.eq_of_pairwise (le:=fun x y:Int=>x≤y) (fun x y _ _ h1 h2=>by omega) ?_ (by simp) ((List.perm_ext_iff_of_nodup hn (by simp)).2 fun x=>by rw[hmem];simp)
 unfold lostL
 exact List.Pairwise.filter _ aw_ok.ever_so
theorem awake15:lYawake=some true:=by
 unfold lYawake
 rw[show (⟨[(⟨1,2,[],[],0,[],ByteArray.empty,0⟩:zO),(⟨2,3,[],[],1,[],(⟨#[97]⟩:ByteArray),0⟩:zO),(⟨3,3,[],[],1,[],(⟨#[98]⟩:ByteArray),0⟩:zO)],[(⟨1,(⟨#[109]⟩:ByteArray),2,5⟩:zE),(⟨1,(⟨#[109]⟩:ByteArray),3,9⟩:zE)]⟩:zR)=awR from rfl]
 rw[aw_ok.reachable aw_fit,aw_ok.lost aw_fit,aw_lost,aw_seeds 8,if_neg (by omega),if_pos (by omega),aw_reach (.inl rfl)]
 rfl
end Go.Vl
namespace Go.Vl
open Go
theorem ints_selfQ {l:List Int} (hl:l.length≤1000000):rYInts l l=some true:=by
 unfold rYInts
 rw[if_neg (by simp),iter_allL l (fun _=>true) false (fun i hi=>?_) ?_]
 ·simp
 ·unfold rYInts_l0
  rw[if_neg (by simp)]
 ·unfold rYInts_l0
  rw[if_pos (by simp;omega),idx_lt hi]
  simp only[Option.bind_some]
  rw[if_neg (by simp),w64 (by omega) (by omega)];rfl
theorem items_selfQ {l:List zI} (hl:l.length≤1000000):rYItems l l=some true:=by
 unfold rYItems
 rw[if_neg (by simp),iter_allL l (fun _=>true) false (fun i hi=>?_) ?_]
 ·simp
 ·unfold rYItems_l0
  rw[if_neg (by simp)]
 ·unfold rYItems_l0
  rw[if_pos (by simp;omega),idx_lt hi]
  simp only[Option.bind_some]
  rw[if_neg (by simp),w64 (by omega) (by omega)];rfl
structure Alike (r:zR):Prop where
 va:∃v,hYValid r=some v∧rYValid r=some v
 ev:∃l,hYEver r=some l∧rYEver r=some l∧l.length≤1000000
 rf:∀t,∃l,hYRefs r t=some l∧rYRefs r t=some l∧l.length≤1000000
 rc:∀t,∃l,hYReachable r t=some l∧rYReachable r t=some l∧l.length≤1000000
 lo:∀t,∃l,hYLost r t=some l∧rYLost r t=some l∧l.length≤1000000
 si:∀id,∃p,hYSince r id=some p∧rYSince r id=some p
 fi:∀id,∃p,hYFind r id=some p∧rYFind r id=some p
theorem refsF_lenQ {t:Int}:∀{l:List zE} {m:List (ByteArray×Int)},(refsF t m l).length≤m.length+l.length
 |[],m=>by simp[refsF]
 |e::l,m=>by
  simp only[refsF]
  split
  ·simp
  ·have h1:=refsF_lenQ (t:=t) (l:=l) (m:=refStep m e)
   have h2:=refStep_len m e
   simp only[List.length_cons];omega
theorem alike {r:zR} (hf:FitR r):Alike r:=by
 by_cases hv:validE r=0
 ·have V:=validE_zero.1 hv
  refine⟨⟨0,V.val hf,V.rval hf⟩,⟨_,V.ever hf,V.rever hf,by have:=V.ever_len;omega⟩,fun t=>⟨_,V.refs hf t,V.rrefs hf t,?_⟩,fun t=>⟨_,V.reachable hf t,V.rreachable hf t,by have:=V.reach_len t;omega⟩,fun t=>⟨_,V.lost hf t,V.rlost hf t,by have:=V.lost_len t;omega⟩,fun id=>⟨_,V.since hf id,V.rsince hf id⟩,fun id=>⟨_,(V.rfind hf id).2,(V.rfind hf id).1⟩⟩
  have h1:=refsF_lenQ (t:=t) (l:=r.Events) (m:=[])
  have h2:=V.ne
  have h3:(sortIt ((refsF t [] r.Events).map itemOf)).length=(refsF t [] r.Events).length:=by unfold sortIt;rw[List.length_mergeSort,List.length_map]
  simp at h1
  omega
 ·have h1:=valid_eq hf
  have h2:=rValid_eq hf
  have hne:(validE r != 0)=true:=by simpa using hv
  refine⟨⟨_,h1,h2⟩,⟨[],?_,?_,by simp⟩,fun t=>⟨[],?_,?_,by simp⟩,fun t=>⟨[],?_,?_,by simp⟩,fun t=>⟨[],?_,?_,by simp⟩,fun id=>⟨(0,false),?_,?_⟩,fun id=>⟨(⟨0,0,[],[],0,[],ByteArray.empty,0⟩,false),?_,?_⟩⟩
  ·unfold hYEver;rw[h1];simp only[Option.bind_some];rw[if_pos hne]
  ·unfold rYEver;rw[h2];simp only[Option.bind_some];rw[if_pos hne]
  ·unfold hYRefs;rw[h1];simp only[Option.bind_some];rw[if_pos hne]
  ·unfold rYRefs;rw[h2];simp only[Option.bind_some];rw[if_pos hne]
  ·unfold hYReachable;rw[h1];simp only[Option.bind_some];rw[if_pos hne]
  ·unfold rYReachable;rw[h2];simp only[Option.bind_some];rw[if_pos hne]
  ·unfold hYLost;rw[h1];simp only[Option.bind_some];rw[if_pos hne]
  ·unfold rYLost;rw[h2];simp only[Option.bind_some];rw[if_pos hne]
  ·unfold hYSince;rw[h1];simp only[Option.bind_some];rw[if_pos hne]
  ·unfold rYSince;rw[h2];simp only[Option.bind_some];rw[if_pos hne]
  ·unfold hYFind;rw[h1];simp only[Option.bind_some];rw[if_pos hne]
  ·unfold rYFind;rw[h2];simp only[Option.bind_some];rw[if_pos hne]
theorem bentItems_ok:∀(l:List zI) {m:zT} {b:Int},TB m b→b+l.length≤1000000000→(∀x∈l,x.Name.size≤9223372036854775807)→∃l' m',bentItems l m=some (l',m')∧(∀x∈l',x.Name.size≤9223372036854775807)∧TB m' (b+l.length)
 |[],m,b,h,_,hf=>⟨[],m,rfl,(fun x hx=>by cases hx),by simpa using h⟩
 |x::l,m,b,h,hb,hf=>by
  simp only[List.length_cons] at hb
  obtain⟨v,m1,e1,_,_,t1⟩:=between_b h (by omega) (x:=1) (y:=9) (by omega) (by omega) (by omega)
  obtain⟨l',m',e2,f2,t2⟩:=bentItems_ok l t1 (by omega) (fun y hy=>hf y (by simp[hy]))
  refine⟨⟨x.Name,v⟩::l',m',?_,fun y hy=>?_,t2.mono (by simp;omega)⟩
  ·unfold bentItems
   rw[e1]
   simp only[Option.bind_some]
   rw[e2];rfl
  ·rcases List.mem_cons.1 hy with rfl |hy
   ·exact hf x (by simp)
   ·exact f2 y hy
theorem bentSw_ok {c:Int} {o:zO} {ev:List zE} {m:zT} {b:Int} (h:TB m b) (hb:b≤1000000) (ho:FitO o) (hi:o.Items.length≤64) (he:∀e∈ev,e.Name.size≤9223372036854775807) (hl:ev.length≤1000):
  ∃o' ev' m',bentSw c o ev m=some (o',ev',m')∧FitO o'∧(∀e∈ev',e.Name.size≤9223372036854775807)∧TB m' (b+100):=by
 have hn1:∀n∈[(⟨#[109,97,105,110]⟩:ByteArray),⟨#[110,111,110,101]⟩,⟨#[]⟩],n.size≤9223372036854775807:=fun n hn=>by
  simp only[List.mem_cons,List.not_mem_nil,or_false] at hn
  rcases hn with rfl |rfl |rfl <;> decide
 unfold bentSw
 by_cases g0:(c==0)=true
 ·rw[if_pos g0]
  obtain⟨v,m1,e1,_,_,t1⟩:=between_b h (by omega) (x:=0) (y:=6) (by omega) (by omega) (by omega)
  rw[e1]
  exact⟨_,_,_,rfl,ho,he,t1.mono (by omega)⟩
 rw[if_neg g0]
 by_cases g1:(c==1)=true
 ·rw[if_pos g1]
  obtain⟨v,m1,e1,_,_,t1⟩:=between_b h (by omega) (x:=0) (y:=9) (by omega) (by omega) (by omega)
  rw[e1]
  exact⟨_,_,_,rfl,ho,he,t1.mono (by omega)⟩
 rw[if_neg g1]
 by_cases g2:(c==2)=true
 ·rw[if_pos g2]
  obtain⟨l',m1,e1,f1,t1⟩:=bentItems_ok o.Items h (by omega) ho.1
  rw[e1]
  exact⟨_,_,_,rfl,⟨f1,ho.2⟩,he,t1.mono (by omega)⟩
 rw[if_neg g2]
 by_cases g3:(c==3)=true
 ·rw[if_pos g3]
  by_cases k3:(o.Kind==3)=true
  ·rw[if_pos k3]
   obtain⟨v,m1,e1,_,_,t1⟩:=between_b h (by omega) (x:=1) (y:=14) (by omega) (by omega) (by omega)
   rw[e1]
   exact⟨_,_,_,rfl,ho,he,t1.mono (by omega)⟩
  ·rw[if_neg k3]
   exact⟨_,_,_,rfl,ho,he,h.mono (by omega)⟩
 rw[if_neg g3]
 by_cases g4:(c==4)=true
 ·rw[if_pos g4]
  obtain⟨v1,m1,e1,_,_,t1⟩:=between_b h (by omega) (x:=1) (y:=3) (by omega) (by omega) (by omega)
  obtain⟨v2,m2,e2,a2,b2,t2⟩:=next_b t1 (by omega) (n:=3) (by omega)
  obtain⟨v3,m3,e3,_,_,t3⟩:=next_b t2 (by omega) (n:=14) (by omega)
  obtain⟨v4,m4,e4,_,_,t4⟩:=next_b t3 (by omega) (n:=30) (by omega)
  have hix:=idx_toNat (l:=[(⟨#[109,97,105,110]⟩:ByteArray),⟨#[110,111,110,101]⟩,⟨#[]⟩]) a2 (by simp;omega)
  rw[e1]
  simp only[Option.bind_some]
  rw[e2]
  simp only[Option.bind_some]
  rw[hix]
  simp only[Option.bind_some]
  rw[e3]
  simp only[Option.bind_some]
  rw[e4]
  refine⟨_,_,_,rfl,ho,fun e hx=>?_,t4.mono (by omega)⟩
  rcases List.mem_append.1 hx with hx |hx
  ·exact he e hx
  ·rw[List.mem_singleton] at hx
   subst hx
   exact hn1 _ (List.getElem_mem _)
 rw[if_neg g4]
 by_cases g5:(c==5)=true
 ·rw[if_pos g5]
  obtain⟨v2,m2,e2,a2,b2,t2⟩:=next_b h (by omega) (n:=2) (by omega)
  have hix:=idx_toNat (l:=[(⟨#[109,97,105,110]⟩:ByteArray),⟨#[110,111,110,101]⟩]) a2 (by simp;omega)
  rw[e2]
  simp only[Option.bind_some]
  rw[hix]
  refine⟨_,_,_,rfl,ho,fun e hx=>?_,t2.mono (by omega)⟩
  rcases List.mem_append.1 hx with hx |hx
  ·exact he e hx
  ·rw[List.mem_singleton] at hx
   subst hx
   have:=List.getElem_mem (l:=[(⟨#[109,97,105,110]⟩:ByteArray),⟨#[110,111,110,101]⟩]) (n:=v2.toNat) (by simp;omega)
   refine hn1 _ ?_
   simp only[List.mem_cons,List.not_mem_nil,or_false] at this ⊢
   rcases this with h |h
   ·exact .inl h
   ·exact .inr (.inl h)
 rw[if_neg g5]
 by_cases g6:(c==6)=true
 ·rw[if_pos g6]
  by_cases hpos:(decide (0 < (ev.length:Int)))=true
  ·rw[if_pos hpos]
   have hpos:0 < ev.length:=by have:=of_decide_eq_true hpos;omega
   obtain⟨v1,m1,e1,a1,b1,t1⟩:=next_b h (by omega) (n:=(ev.length:Int)) (by omega)
   obtain⟨v2,m2,e2,_,_,t2⟩:=between_b t1 (by omega) (x:= -1) (y:=9) (by omega) (by omega) (by omega)
   have hix:=idx_toNat (l:=ev) a1 (by omega)
   rw[e1]
   simp only[Option.bind_some]
   rw[e2]
   simp only[Option.bind_some]
   rw[hix]
   refine⟨_,_,_,rfl,ho,fun e hx=>?_,t2.mono (by omega)⟩
   rcases List.mem_or_eq_of_mem_set hx with hx |rfl
   ·exact he e hx
   ·exact he ev[v1.toNat] (List.getElem_mem (l:=ev) (n:=v1.toNat) (by omega))
  ·rw[if_neg hpos]
   exact⟨_,_,_,rfl,ho,he,h.mono (by omega)⟩
 rw[if_neg g6]
 exact⟨_,_,_,rfl,ho,he,h.mono (by omega)⟩
theorem bent_ok {r:zR} (M:MadeR r) {m:zT} {b:Int} (h:TB m b) (hb:b≤100000):∃r' m',lYbent m r=some (r',m')∧FitR r'∧TB m' (b+102):=by
 have hlo:=M.lo
 have hle:=M.le
 have hpos:0 < r.Objects.length:=by
  obtain⟨o,ho,_⟩:=M.cm
  exact List.length_pos_of_mem ho
 obtain⟨k,m1,e1,a1,b1,t1⟩:=next_b h (by omega) (n:=(r.Objects.length:Int)) (by omega)
 have hk:k.toNat < r.Objects.length:=by omega
 obtain⟨c,m2,e2,_,_,t2⟩:=next_b t1 (by omega) (n:=9) (by omega)
 have ho:=M.ok.obj (List.getElem_mem hk)
 obtain⟨o',ev',m3,e3,f1,f2,t3⟩:=bentSw_ok (c:=c) t2 (by omega) (M.fit.1 _ (List.getElem_mem hk)) ho.2.1 M.fit.2 (by omega)
 unfold lYbent
 rw[ck_t ⟨by omega,by omega⟩,e1]
 simp only[Option.bind_some]
 rw[idx_toNat a1 hk]
 simp only[Option.bind_some]
 rw[ck_t (by omega),e2]
 simp only[Option.bind_some]
 rw[e3]
 refine⟨_,_,rfl,⟨fun o hx=>?_,f2⟩,t3.mono (by omega)⟩
 rcases List.mem_or_eq_of_mem_set hx with hx |rfl
 ·exact M.fit.1 o hx
 ·exact f1
theorem l1_all {r:zR} (A:Alike r) (a2:Int) (y:Int×zT):iter (lYHistoryReaches_l1 a2 y [a2,y.1,1099511627776] r) 0=some (.inl ()):=by
 rw[iter_allL [a2,y.1,1099511627776] (fun _=>true) false (fun i hi=>?_) ?_]
 ·simp
 ·unfold lYHistoryReaches_l1
  rw[if_neg (by simp)]
 ·have hi3:i < 3:=hi
  unfold lYHistoryReaches_l1
  rw[if_pos (by simp;omega),ck_t (by simp;omega)]
  simp only[Option.bind_some]
  rw[idx_lt hi]
  simp only[Option.bind_some]
  generalize [a2,y.1,1099511627776][i]=t
  obtain⟨l1,h1,h2,h3⟩:=A.rf t
  obtain⟨l2,g1,g2,g3⟩:=A.rc t
  obtain⟨l3,k1,k2,k3⟩:=A.lo t
  rw[h1,h2]
  simp only[Option.bind_some]
  rw[items_selfQ h3]
  simp only[Option.bind_some]
  rw[if_neg (by simp),g1,g2]
  simp only[Option.bind_some]
  rw[ints_selfQ g3]
  simp only[Option.bind_some]
  rw[if_neg (by simp),k1,k2]
  simp only[Option.bind_some]
  rw[ints_selfQ k3]
  simp only[Option.bind_some]
  rw[if_neg (by simp),w64 (by omega) (by omega)];rfl
theorem l2_all {r:zR} (A:Alike r) (a3:Int) (y:Int×zT):iter (lYHistoryReaches_l2 a3 y [a3,y.1] r) 0=some (.inl ()):=by
 rw[iter_allL [a3,y.1] (fun _=>true) false (fun i hi=>?_) ?_]
 ·simp
 ·unfold lYHistoryReaches_l2
  rw[if_neg (by simp)]
 ·have hi3:i < 2:=hi
  unfold lYHistoryReaches_l2
  rw[if_pos (by simp;omega),ck_t (by simp;omega)]
  simp only[Option.bind_some]
  rw[idx_lt hi]
  simp only[Option.bind_some]
  generalize [a3,y.1][i]=t
  obtain⟨p,h1,h2⟩:=A.si t
  obtain⟨q,g1,g2⟩:=A.fi t
  rw[h1,h2]
  simp only[Option.bind_some]
  rw[g1,g2]
  simp only[Option.bind_some]
  rw[if_neg (by simp),w64 (by omega) (by omega)];rfl
theorem HistoryReaches_law (a:List Int) (a1:zR) (hf:FitR a1) (a2 a3:Int):lYHistoryReaches a a1 a2 a3=some true:=by
 obtain⟨r,m,e1,M,_,_,tb⟩:=repo_ex a
 obtain⟨r2,m2,e2,f2,t2⟩:=bent_ok M tb (by omega)
 obtain⟨r3,m3,e3,f3,t3⟩:=bent_ok M t2 (by omega)
 unfold lYHistoryReaches
 rw[e1]
 simp only[Option.bind_some]
 rw[e2]
 simp only[Option.bind_some]
 rw[e3]
 simp only[Option.bind_some]
 have hall:∀x∈[a1,r,r2,r3],FitR x:=fun x hx=>by
  simp only[List.mem_cons,List.not_mem_nil,or_false] at hx
  rcases hx with rfl |rfl |rfl |rfl
  ·exact hf
  ·exact M.fit
  ·exact f2
  ·exact f3
 have key:∀(k i:Nat),i+k=4→∀(tp:zT) (b:Int),TB tp b→b+2 * k≤100000→iter (lYHistoryReaches_l0 a1 (r,m) (r2,m2) (r3,m3) [a1,r,r2,r3] a2 a3) ((i:Int),tp.L,tp.at_)=some (.inl ()):=fun k=>by
  induction k with
  |zero=>
   intro i hi tp b ht hb
   have:i=4:=by omega
   subst this
   refine iter_out ?_
   unfold lYHistoryReaches_l0
   rw[if_neg (by simp)]
  |succ k ih=>
   intro i hi tp b ht hb
   have hi4:i < [a1,r,r2,r3].length:=by simp;omega
   obtain⟨v,m4,e4,_,_,t4⟩:=next_b ht (by omega) (n:=20) (by omega)
   obtain⟨v',m5,e5,_,_,t5⟩:=next_b t4 (by omega) (n:=14) (by omega)
   have A:=alike (hall _ (List.getElem_mem hi4))
   by_cases hfew:lYfew [a1,r,r2,r3][i]=some true
   ·have hgo:=ih (i+1) (by omega) m5 (b+1+1) t5 (by omega)
    rw[← hgo]
    refine iter_go ?_
    unfold lYHistoryReaches_l0
    rw[if_pos (by simp;omega),idx_lt hi4]
    simp only[Option.bind_some]
    rw[hfew]
    simp only[Option.bind_some]
    rw[if_neg (by simp)]
    generalize [a1,r,r2,r3][i]=x at A ⊢
    obtain⟨va,h1,h2⟩:=A.va
    obtain⟨le,g1,g2,g3⟩:=A.ev
    rw[h1,h2]
    simp only[Option.bind_some]
    rw[if_neg (by simp),g1,g2]
    simp only[Option.bind_some]
    rw[ints_selfQ g3]
    simp only[Option.bind_some]
    rw[if_neg (by simp),e4]
    simp only[Option.bind_some]
    rw[l1_all A a2 (v,m4)]
    simp only[Option.bind_some]
    rw[e5]
    simp only[Option.bind_some]
    rw[l2_all A a3 (v',m5)]
    simp only[Option.bind_some]
    rw[w64 (by omega) (by omega)];rfl
   ·have hgo:=ih (i+1) (by omega) tp b ht (by omega)
    rw[← hgo]
    refine iter_go ?_
    have hfw:lYfew [a1,r,r2,r3][i]=some false:=by
     cases hb:lYfew [a1,r,r2,r3][i] with
     |none=>unfold lYfew at hb;simp at hb
     |some b=>
      cases b with
      |true=>exact absurd hb hfew
      |false=>rfl
    unfold lYHistoryReaches_l0
    rw[if_pos (by simp;omega),idx_lt hi4]
    simp only[Option.bind_some]
    rw[hfw]
    simp only[Option.bind_some]
    rw[if_pos (by decide),w64 (by omega) (by omega)];rfl
 have hk:=key 4 0 (by omega) m3 _ t3 (by omega)
 have hk':iter (lYHistoryReaches_l0 a1 (r,m) (r2,m2) (r3,m3) [a1,r,r2,r3] a2 a3) (0,m3.L,m3.at_)=some (.inl ()):=hk
 rw[hk']
 simp only[Option.bind_some]
 have haw:lYawake=some true:=awake15
 rw[haw];rfl
end Go.Vl
