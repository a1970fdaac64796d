/- What history.Valid answers, in plain words. Conditions: none. -/
import Derived.Test.YtjnflahicimmlaaGreatPlG
import Derived.Test.YtjnflahicimmlaaGreatGAx
set_option linter.unusedSimpArgs false
set_option linter.unusedVariables false
namespace Go.Vl
open Go
theorem iter_allL {α ε:Type} {body:Int→Option (Lp Int (Unit ⊕ ε))} (l:List α) (p:α→Bool) (e:ε) (hgo:∀(i:Nat) (h:i < l.length),body (i:Int)=some (if p l[i]=true then .go ((i+1:Nat):Int) else .out (.inr e)))
  (hend:body (l.length:Int)=some (.out (.inl ()))):iter body 0=some (if l.all p=true then .inl () else .inr e):=by
 rw[iter_allE l.length (fun i=>match l[i]? with |some x=>p x |none=>true) e (fun i hi=>by simp only[List.getElem?_eq_getElem hi];exact hgo i hi) hend]
 by_cases h:l.all p=true
 ·rw[if_pos h,if_pos]
  intro i hi
  simp only[List.getElem?_eq_getElem hi]
  exact List.all_eq_true.1 h _ (List.getElem_mem hi)
 ·rw[if_neg h,if_neg]
  intro hn
  refine h (List.all_eq_true.2 fun x hx=>?_)
  obtain⟨i,hi,rfl⟩:=List.getElem_of_mem hx
  have:=hn i hi
  simp only[List.getElem?_eq_getElem hi] at this
  exact this
def scanL {σ α ε:Type} (g:σ→α→ε ⊕ σ) (fin:σ→ε):List α→σ→ε
 |[],s=>fin s
 |x::l,s=>match g s x with
  | .inl e=>e
  | .inr s'=>scanL g fin l s'
theorem iter_scanL {σ α ε:Type} {body:Int×σ→Option (Lp (Int×σ) ε)} (l:List α) (g:σ→α→ε ⊕ σ) (fin:σ→ε)
  (hgo:∀(i:Nat) (h:i < l.length) (s:σ),body ((i:Int),s)=some (match g s l[i] with | .inl e=>.out e | .inr s'=>.go (((i+1:Nat):Int),s')))
  (hend:∀s,body ((l.length:Int),s)=some (.out (fin s))) (s0:σ):iter body (0,s0)=some (scanL g fin l s0):=by
 have key:∀(m i:Nat) (s:σ),i+m=l.length→iter body ((i:Int),s)=some (scanL g fin (l.drop i) s):=fun m=>by
  induction m with
  |zero=>
   intro i s h
   have:i=l.length:=by omega
   subst this
   rw[iter_out (hend s)];simp[scanL]
  |succ m ih=>
   intro i s h
   have hi:i < l.length:=by omega
   have h1:=hgo i hi s
   rw[List.drop_eq_getElem_cons hi,scanL]
   cases hg:g s l[i] with
   |inl e=>rw[hg] at h1;exact iter_out h1
   |inr s'=>rw[hg] at h1;rw[iter_go h1,ih (i+1) s' (by omega)]
 simpa using key l.length 0 s0 (by omega)
theorem find_any {α:Type} {body:Int→Option (Lp Int (Unit ⊕ Int))} (l:List α) (p:α→Bool)
  (hgo:∀(i:Nat) (h:i < l.length),body (i:Int)=some (if p l[i]=true then .out (.inr (i:Int)) else .go (((i+1:Nat):Int))))
  (hend:body (l.length:Int)=some (.out (.inl ()))):((iter body 0).bind fun q=>match q with | .inl _=>some (-1) | .inr r=>some r).bind (fun y:Int=>some (decide (0≤y)))=some (l.any p):=by
 obtain⟨h1,h2⟩:=iter_findS l p (fun i _=>(.inr (i:Int):Unit ⊕ Int)) (.inl ()) hgo hend
 cases h:l.any p with
 |false=>rw[h1 h];rfl
 |true=>
  obtain⟨i,hi,_,h3⟩:=h2 h
  rw[h3]
  simp
def chB (c:Int):Bool:=!(decide (c < 33)||(decide (126 < c)||(c==47)))
def nmB (s:ByteArray):Bool:=(sbytes s).all chB&&(decide (1≤s.size)&&decide (s.size≤40))
theorem name_eq {s:ByteArray} (h:s.size≤9223372036854775807):oYName s=some (nmB s):=by
 have hl:=sbytes_length s
 unfold oYName
 rw[iter_allL (sbytes s) chB false (fun i hi=>?_) ?_]
 ·unfold nmB
  by_cases hb:(sbytes s).all chB=true
  ·rw[if_pos hb,hb]
   simp only[Option.bind_some,Bool.true_and]
   congr 2
   ·simp;omega
   ·simp;omega
  ·rw[if_neg hb]
   have:(sbytes s).all chB=false:=by simpa using hb
   rw[this];rfl
 ·unfold oYName_l0
  rw[if_neg (by simp)]
 ·unfold oYName_l0
  rw[if_pos (by simp;omega),idx_lt hi,w64 (by omega) (by omega)]
  simp only[Option.bind_some]
  unfold chB
  cases (decide ((sbytes s)[i] < 33)||(decide (126 < (sbytes s)[i])||((sbytes s)[i]==47))) <;> rfl
def numB (x:Int):Bool:=decide (1≤x)&&decide (x≤1073741824)
theorem number_eq (x:Int):oYNumber x=some (numB x):=rfl
def treeB (l:List zI) (i:Nat):Bool:=match l[i]? with
 |some x=>nmB x.Name&&(numB x.ID&&(i==0||match l[i - 1]? with |some y=>Op.bytesLess y.Name.toList x.Name.toList |none=>false))
 |none=>true
theorem tree_eq {o:zO} (h:o.Items.length≤1000000) (hf:∀x∈o.Items,x.Name.size≤9223372036854775807):oYtree o=some (decide (∀i,i < o.Items.length→treeB o.Items i=true)):=by
 unfold oYtree
 rw[iter_allE o.Items.length (treeB o.Items) false (fun i hi=>?_) ?_]
 ·by_cases hb:∀i,i < o.Items.length→treeB o.Items i=true
  ·rw[if_pos hb,decide_eq_true hb];rfl
  ·rw[if_neg hb,decide_eq_false hb];rfl
 ·unfold oYtree_l0
  rw[if_neg (by simp)]
 ·unfold oYtree_l0
  rw[if_pos (by simp;omega),idx_lt hi,w64 (x:=(i:Int)+1) (by omega) (by omega)]
  simp only[Option.bind_some]
  rw[name_eq (hf _ (List.getElem_mem hi)),number_eq]
  simp only[Option.bind_some]
  unfold treeB
  rw[List.getElem?_eq_getElem hi]
  simp only
  rcases Bool.eq_false_or_eq_true (nmB o.Items[i].Name) with hb1 |hb1
  case inr=>simp[hb1]
  case inl=>
   rcases Bool.eq_false_or_eq_true (numB o.Items[i].ID) with hb2 |hb2
   case inr=>simp[hb1,hb2]
   case inl=>
    simp only[hb1,hb2,Bool.not_true,Bool.false_eq_true,if_false]
    cases i with
    |zero=>simp
    |succ i=>
     rw[if_pos (by simp)]
     have hw:IntKind.i64.wrap (((i+1:Nat):Int) - 1)=(i:Int):=by rw[w64 (by omega) (by omega)];omega
     rw[hw,idx_lt (show i < o.Items.length by omega)]
     simp only[Option.bind_some,Nat.add_sub_cancel,List.getElem?_eq_getElem (show i < o.Items.length by omega)]
     cases Op.bytesLess o.Items[i].Name.toList o.Items[i+1].Name.toList <;> simp
theorem contains_eq {l:List Int} (h:l.length≤1000000) (x:Int):sYContains_int l x=some (l.contains x):=by
 unfold sYContains_int sYIndex_int
 have:=find_any (body:=sYIndex_int_l0 l x) l (fun y=>x==y) (fun i hi=>?_) ?_
 ·rw[List.contains_eq_any_beq];exact this
 ·unfold sYIndex_int_l0
  rw[if_pos (by simp;omega),idx_lt hi,w64 (by omega) (by omega)]
  simp only[Option.bind_some]
  cases x==l[i] <;> rfl
 ·unfold sYIndex_int_l0
  rw[if_neg (by simp)]
def parB (l:List Int) (i:Nat):Bool:=match l[i]? with
 |some x=>numB x&& !(l.take i).contains x
 |none=>true
def commitB (o:zO):Bool:=decide (∀i,i < o.Parents.length→parB o.Parents i=true)&&(numB o.Tree&&(nmB o.Author&&(decide (0≤o.Time)&&decide (o.Time≤1099511627776))))
theorem commit_eq {o:zO} (h:o.Parents.length≤1000000) (hf:o.Author.size≤9223372036854775807):oYcommit o=some (commitB o):=by
 unfold oYcommit commitB
 rw[iter_allE o.Parents.length (parB o.Parents) false (fun i hi=>?_) ?_]
 ·by_cases hb:∀i,i < o.Parents.length→parB o.Parents i=true
  ·rw[if_pos hb,decide_eq_true hb,number_eq,name_eq hf]
   simp only[Option.bind_some]
   cases numB o.Tree <;> cases nmB o.Author <;> cases decide (0≤o.Time) <;> simp
  ·rw[if_neg hb,decide_eq_false hb];rfl
 ·unfold oYcommit_l0
  rw[if_neg (by simp)]
 ·unfold oYcommit_l0
  rw[if_pos (by simp;omega),idx_lt hi,w64 (x:=(i:Int)+1) (by omega) (by omega)]
  simp only[Option.bind_some]
  rw[number_eq]
  unfold parB
  rw[List.getElem?_eq_getElem hi]
  simp only[Option.bind_some]
  rcases Bool.eq_false_or_eq_true (numB o.Parents[i]) with hb1 |hb1
  case inr=>simp[hb1]
  case inl=>
   simp only[hb1]
   rw[ck_t (by omega),contains_eq (by simp;omega)]
   simp only[Option.bind_some,Int.toNat_natCast]
   cases (o.Parents.take i).contains o.Parents[i] <;> simp
def otherB (o:zO):Bool:=(o.Tree != 0)||((decide (0 < ((o.Parents).length:Int)))||((!((o.Author).toList==((⟨#[]⟩:ByteArray)).toList))||(o.Time != 0)))
def rightB (o:zO):Bool:=
 if o.Kind=1 then o.Items.isEmpty&& !otherB o else
 if o.Kind=2 then o.Data.isEmpty&&(!otherB o&&decide (∀i,i < o.Items.length→treeB o.Items i=true)) else
 if o.Kind=3 then o.Data.isEmpty&&(o.Items.isEmpty&&commitB o) else false
theorem len0 {α:Type} (l:List α):(((l.length:Nat):Int)==0)=l.isEmpty:=by cases l <;> simp <;> omega
def FitO (o:zO):Prop:=(∀x∈o.Items,x.Name.size≤9223372036854775807)∧o.Author.size≤9223372036854775807
theorem right_eq {o:zO} (h1:o.Items.length≤1000000) (h2:o.Parents.length≤1000000) (hf:FitO o):oYright o=some (rightB o):=by
 unfold oYright rightB
 rw[tree_eq h1 hf.1,commit_eq h2 hf.2]
 simp only[Option.bind_some,len0]
 rw[show ((o.Tree != 0)||((decide (0 < ((o.Parents).length:Int)))||((!((o.Author).toList==((⟨#[]⟩:ByteArray)).toList))||(o.Time != 0))))=otherB o from rfl]
 by_cases k1:o.Kind=1
 ·simp[k1]
 ·by_cases k2:o.Kind=2
  ·simp only[k2]
   cases o.Data.isEmpty <;> cases otherB o <;> simp
  ·by_cases k3:o.Kind=3
   ·simp only[k3]
    cases o.Data.isEmpty <;> cases o.Items.isEmpty <;> simp
   ·simp[k1,k2,k3]
def objE (o:zO):Int:=
 if numB o.ID=false then 2 else
 if 65536 < o.Data.length∨64 < o.Items.length∨8 < o.Parents.length then 3 else
 if rightB o=false then 1 else 0
theorem objValid_eq {o:zO} (hf:FitO o):oYValid o=some (objE o):=by
 unfold oYValid objE
 rw[number_eq]
 simp only[Option.bind_some]
 cases numB o.ID with
 |false=>rfl
 |true=>
  by_cases hb:65536 < o.Data.length∨64 < o.Items.length∨8 < o.Parents.length
  ·rw[if_pos hb]
   have:(decide (65536 < ((o.Data).length:Int))||((decide (64 < ((o.Items).length:Int)))||(decide (8 < ((o.Parents).length:Int)))))=true:=by
    simp only[Bool.or_eq_true,decide_eq_true_eq];omega
   rw[this];rfl
  ·rw[if_neg hb]
   have:(decide (65536 < ((o.Data).length:Int))||((decide (64 < ((o.Items).length:Int)))||(decide (8 < ((o.Parents).length:Int)))))=false:=by
    simp only[Bool.or_eq_false_iff,decide_eq_false_iff_not];omega
   rw[this,right_eq (by omega) (by omega) hf]
   cases rightB o <;> rfl
theorem cF_obj {l:List zO} (hl:l.length≤1000000) (hf:∀o∈l,FitO o):sYContainsFunc_api_Object_at_history_Valid_1 l=some (l.any fun o=>objE o != 0):=by
 unfold sYContainsFunc_api_Object_at_history_Valid_1 sYIndexFunc_api_Object_at_history_Valid_1
 refine find_any (body:=sYIndexFunc_api_Object_at_history_Valid_1_l0 l) l _ (fun i hi=>?_) ?_
 ·unfold sYIndexFunc_api_Object_at_history_Valid_1_l0 hYValid_1
  rw[if_pos (by simp;omega),idx_lt hi,w64 (by omega) (by omega)]
  simp only[Option.bind_some]
  rw[objValid_eq (hf _ (List.getElem_mem hi))]
  simp only[Option.bind_some]
  cases objE l[i] != 0 <;> rfl
 ·unfold sYIndexFunc_api_Object_at_history_Valid_1_l0
  rw[if_neg (by simp)]
def wrongB (e:zE):Bool:=(e.Kind != 1&&e.Kind != 2)||(!nmB e.Name||(e.Kind==2&&e.Commit != 0))
theorem wrong_eq {e:zE} (hf:e.Name.size≤9223372036854775807):hYwrong e=some (wrongB e):=by
 unfold hYwrong wrongB
 rw[name_eq hf]
 simp only[Option.bind_some]
 by_cases k1:e.Kind=1
 ·cases nmB e.Name <;> simp[k1]
 ·by_cases k2:e.Kind=2
  ·cases nmB e.Name <;> simp[k2]
  ·simp[k1,k2]
theorem cF_wrong {l:List zE} (hl:l.length≤1000000) (hf:∀e∈l,e.Name.size≤9223372036854775807):sYContainsFunc_api_RefEvent_at_history_wrong l=some (l.any wrongB):=by
 unfold sYContainsFunc_api_RefEvent_at_history_wrong sYIndexFunc_api_RefEvent_at_history_wrong
 refine find_any (body:=sYIndexFunc_api_RefEvent_at_history_wrong_l0 l) l _ (fun i hi=>?_) ?_
 ·unfold sYIndexFunc_api_RefEvent_at_history_wrong_l0
  rw[if_pos (by simp;omega),idx_lt hi,w64 (by omega) (by omega)]
  simp only[Option.bind_some]
  rw[wrong_eq (hf _ (List.getElem_mem hi))]
  simp only[Option.bind_some]
  cases wrongB l[i] <;> rfl
 ·unfold sYIndexFunc_api_RefEvent_at_history_wrong_l0
  rw[if_neg (by simp)]
noncomputable def idxM (l:List zO):List (Int×zO):=l.foldl (fun m o=>mset inE m o.ID o) []
theorem index_eq {a0:zR} (h:a0.Objects.length≤1000000):hYindex a0=some (idxM a0.Objects,decide ((idxM a0.Objects).length=a0.Objects.length)):=by
 unfold hYindex
 rw[iter_foldl a0.Objects (fun m o=>mset inE m o.ID o) (fun m=>m) (fun _ _=>True) (fun i hi s _=>⟨?_,trivial⟩) (fun s _=>?_) [] trivial]
 ·simp only[Option.bind_some]
  congr 2
  rw[Bool.eq_iff_iff,beq_iff_eq,decide_eq_true_eq];exact Int.ofNat_inj
 ·unfold hYindex_l0
  rw[if_pos (by simp;omega),idx_lt hi,w64 (by omega) (by omega)]
  rfl
 ·unfold hYindex_l0
  rw[if_neg (by simp)]
theorem idx_fold:∀(l:List zO) (m:List (Int×zO)),(m.map (·.1)).Nodup→((l.foldl (fun m o=>mset inE m o.ID o) m).map (·.1)).Nodup∧(l.foldl (fun m o=>mset inE m o.ID o) m).length≤m.length+l.length∧
  (((m.map (·.1))++l.map (·.ID)).Nodup→l.foldl (fun m o=>mset inE m o.ID o) m=m++l.map fun o=>(o.ID,o))∧
  (¬((m.map (·.1))++l.map (·.ID)).Nodup→(l.foldl (fun m o=>mset inE m o.ID o) m).length < m.length+l.length)
 |[],m,hm=>by simp[hm]
 |o::l,m,hm=>by
  obtain⟨k1,k2⟩:=mset_keys inE_eq m o.ID o
  obtain⟨i1,i2,i3,i4⟩:=idx_fold l (mset inE m o.ID o) (mset_nodup inE_eq hm _ _)
  rw[List.foldl_cons]
  by_cases h:o.ID∈m.map (·.1)
  ·have e1:=k1 h
   have e2:(mset inE m o.ID o).length=m.length:=by have:=congrArg List.length e1;simpa using this
   refine⟨i1,by simp only[List.length_cons];omega,fun hn=>?_,fun _=>by simp only[List.length_cons];omega⟩
   rw[List.nodup_append] at hn
   exact absurd rfl (hn.2.2 _ h o.ID (by simp))
  ·have e1:=k2 h
   rw[e1] at i1 i2 i3 i4 ⊢
   have e3:(List.map (·.1) (m++[(o.ID,o)]))++l.map (·.ID)=m.map (·.1)++(o::l).map (·.ID):=by simp
   rw[e3] at i3 i4
   refine⟨i1,by simp at i2 ⊢;omega,fun hn=>by rw[i3 hn];simp,fun hn=>by have:=i4 hn;simp at this ⊢;omega⟩
noncomputable def objM (l:List zO):List (Int×zO):=l.map fun o=>(o.ID,o)
theorem idxM_nodup {l:List zO} (h:(l.map (·.ID)).Nodup):idxM l=objM l:=by
 obtain⟨_,_,h3,_⟩:=idx_fold l [] (by simp)
 have:=h3 (by simpa using h)
 simpa[idxM,objM] using this
theorem idxM_single {l:List zO}:(idxM l).length=l.length↔(l.map (·.ID)).Nodup:=by
 obtain⟨_,_,h3,h4⟩:=idx_fold l [] (by simp)
 constructor
 ·intro h
  refine Classical.byContradiction fun hn=>?_
  have:=h4 (by simpa using hn)
  unfold idxM at h
  simp at this
  omega
 ·intro h
  rw[idxM_nodup h];simp[objM]
def kindM (all:List (Int×zO)) (id:Int):Int:=((mget inE all id).getD (⟨0,0,[],[],0,[],ByteArray.empty,0⟩:zO)).Kind
def hereB (all:List (Int×zO)) (o:zO):Bool:=
 o.Items.all (fun x=>kindM all x.ID==1||kindM all x.ID==2)&&(o.Parents.all (fun p=>kindM all p==3)&&(o.Kind != 3||kindM all o.Tree==2))
theorem missing_eq {all:List (Int×zO)} {o:zO} (h1:o.Items.length≤1000000) (h2:o.Parents.length≤1000000):hYmissing all o=some (!hereB all o):=by
 unfold hYmissing hereB
 rw[iter_allL o.Items (fun x=>kindM all x.ID==1||kindM all x.ID==2) true (fun i hi=>?_) ?_]
 ·by_cases hb:o.Items.all (fun x=>kindM all x.ID==1||kindM all x.ID==2)=true
  ·rw[if_pos hb,hb]
   simp only[Option.bind_some,Bool.true_and]
   rw[iter_allL o.Parents (fun p=>kindM all p==3) true (fun i hi=>?_) ?_]
   ·by_cases hc:o.Parents.all (fun p=>kindM all p==3)=true
    ·rw[if_pos hc,hc]
     simp only[Option.bind_some,Bool.true_and,kindM]
     congr 1
     cases h:o.Kind==3 <;> simp[bne,h]
    ·rw[if_neg hc]
     have:o.Parents.all (fun p=>kindM all p==3)=false:=by simpa using hc
     rw[this];rfl
   ·unfold hYmissing_l1
    rw[if_neg (by simp)]
   ·unfold hYmissing_l1
    rw[if_pos (by simp;omega),idx_lt hi,w64 (by omega) (by omega)]
    simp only[Option.bind_some,kindM,bne]
    rcases Bool.eq_false_or_eq_true (((mget inE all o.Parents[i]).getD (⟨0,0,[],[],0,[],ByteArray.empty,0⟩:zO)).Kind==3) with hb1 |hb1 <;> simp only[hb1] <;> rfl
  ·rw[if_neg hb]
   have:o.Items.all (fun x=>kindM all x.ID==1||kindM all x.ID==2)=false:=by simpa using hb
   rw[this];rfl
 ·unfold hYmissing_l0
  rw[if_neg (by simp)]
 ·unfold hYmissing_l0
  rw[if_pos (by simp;omega),idx_lt hi,w64 (by omega) (by omega)]
  simp only[Option.bind_some,kindM,bne]
  rcases Bool.eq_false_or_eq_true (((mget inE all o.Items[i].ID).getD (⟨0,0,[],[],0,[],ByteArray.empty,0⟩:zO)).Kind==1) with hb1 |hb1 <;> rcases Bool.eq_false_or_eq_true (((mget inE all o.Items[i].ID).getD (⟨0,0,[],[],0,[],ByteArray.empty,0⟩:zO)).Kind==2) with hb2 |hb2 <;> simp only[hb1,hb2] <;> rfl
theorem cF_miss {l:List zO} (all:List (Int×zO)) (hl:l.length≤1000000) (h1:∀o∈l,o.Items.length≤1000000∧o.Parents.length≤1000000):sYContainsFunc_api_Object_at_history_Valid_2_b l all=some (l.any (fun o=>!hereB all o),all):=by
 unfold sYContainsFunc_api_Object_at_history_Valid_2_b sYIndexFunc_api_Object_at_history_Valid_2_b
 have key:∀(m i:Nat),i+m=l.length→∃r:Int ⊕ Unit,iter (sYIndexFunc_api_Object_at_history_Valid_2_b_l0 l) ((i:Int),all)=some (match r with | .inl k=>.inr (k,all) | .inr _=>.inl all)∧
   (match r with | .inl k=>0≤k∧(l.drop i).any (fun o=>!hereB all o)=true | .inr _=>(l.drop i).any (fun o=>!hereB all o)=false):=fun m=>by
  induction m with
  |zero=>
   intro i h
   have:i=l.length:=by omega
   subst this
   refine⟨.inr (),?_,by simp⟩
   refine iter_out ?_
   unfold sYIndexFunc_api_Object_at_history_Valid_2_b_l0
   rw[if_neg (by simp)]
  |succ m ih=>
   intro i h
   have hi:i < l.length:=by omega
   have hb:sYIndexFunc_api_Object_at_history_Valid_2_b_l0 l ((i:Int),all)=some (if hereB all l[i]=true then .go (((i+1:Nat):Int),all) else .out (.inr ((i:Int),all))):=by
    unfold sYIndexFunc_api_Object_at_history_Valid_2_b_l0 hYValid_2_cb
    obtain⟨g1,g2⟩:=h1 _ (List.getElem_mem hi)
    simp only
    rw[if_pos (by simp;omega),idx_lt hi,w64 (by omega) (by omega)]
    simp only[Option.bind_some,missing_eq g1 g2]
    cases hereB all l[i] <;> rfl
   rw[List.drop_eq_getElem_cons hi,List.any_cons]
   cases hh:hereB all l[i] with
   |true=>
    rw[hh,if_pos rfl] at hb
    rw[iter_go hb]
    simpa using ih (i+1) (by omega)
   |false=>
    rw[hh,if_neg (by decide)] at hb
    exact⟨.inl (i:Int),iter_out hb,by omega,by simp⟩
 obtain⟨r,h2,h3⟩:=key l.length 0 (by omega)
 rw[List.drop_zero] at h3
 cases r with
 |inl k=>
  simp only at h2 h3
  rw[show ((0:Nat):Int)=0 from rfl] at h2
  rw[h2,h3.2]
  simp[h3.1]
 |inr u=>
  simp only at h2 h3
  rw[show ((0:Nat):Int)=0 from rfl] at h2
  rw[h2,h3]
  simp
end Go.Vl
namespace Go.Vl
open Go
def bareB (all:List (Int×zO)) (m:List (ByteArray×Bool)) (e:zE):Bool:=(e.Kind==1&&kindM all e.Commit != 3)||(e.Kind==2&& !((mget stE m e.Name).getD false))
noncomputable def nlB (all:List (Int×zO)) (l:List zE) (m:List (ByteArray×Bool)):Bool:=
 match scanL (fun m e=>if bareB all m e=true then(.inl (.inr true):(Unit ⊕ Bool) ⊕ List (ByteArray×Bool)) else .inr (mset stE m e.Name (e.Kind==1))) (fun _=>.inl ()) l m with
 | .inl _=>false
 | .inr r=>r
theorem nl_nil (all:List (Int×zO)) (m:List (ByteArray×Bool)):nlB all [] m=false:=rfl
theorem nl_cons (all:List (Int×zO)) (e:zE) (l:List zE) (m:List (ByteArray×Bool)):nlB all (e::l) m=(bareB all m e||nlB all l (mset stE m e.Name (e.Kind==1))):=by
 unfold nlB
 rw[scanL]
 cases bareB all m e <;> simp
theorem nameless_eq {a0:zR} (h:a0.Events.length≤1000000) (all:List (Int×zO)):hYnameless a0 all=some (nlB all a0.Events []):=by
 unfold hYnameless nlB
 rw[iter_scanL a0.Events (fun m e=>if bareB all m e=true then(.inl (.inr true):(Unit ⊕ Bool) ⊕ List (ByteArray×Bool)) else .inr (mset stE m e.Name (e.Kind==1))) (fun _=>.inl ()) (fun i hi s=>?_) (fun s=>?_)]
 ·simp only[Option.bind_some]
  cases scanL (fun m e=>if bareB all m e=true then(.inl (.inr true):(Unit ⊕ Bool) ⊕ List (ByteArray×Bool)) else .inr (mset stE m e.Name (e.Kind==1))) (fun _=>.inl ()) a0.Events [] <;> rfl
 ·unfold hYnameless_l0
  rw[if_pos (by simp;omega),idx_lt hi,w64 (by omega) (by omega)]
  simp only[Option.bind_some]
  rw[show (bif (a0.Events[i].Kind==1) then(((((mget inE all a0.Events[i].Commit).getD (⟨0,0,[],[],0,[],ByteArray.empty,0⟩:zO)).Kind) != 3)||((a0.Events[i].Kind==2)&&(!((mget stE s a0.Events[i].Name).getD false)))) else((a0.Events[i].Kind==2)&&(!((mget stE s a0.Events[i].Name).getD false))))=bareB all s a0.Events[i] from by
   unfold bareB kindM
   cases a0.Events[i].Kind==1 <;> simp]
  cases bareB all s a0.Events[i] <;> rfl
 ·unfold hYnameless_l0
  rw[if_neg (by simp)]
def timeB (e:zE):Bool:=decide (e.Time < 0)||decide (1099511627776 < e.Time)
theorem cF_time {l:List zE} (hl:l.length≤1000000):sYContainsFunc_api_RefEvent_at_history_Valid_3 l=some (l.any timeB):=by
 unfold sYContainsFunc_api_RefEvent_at_history_Valid_3 sYIndexFunc_api_RefEvent_at_history_Valid_3
 refine find_any (body:=sYIndexFunc_api_RefEvent_at_history_Valid_3_l0 l) l _ (fun i hi=>?_) ?_
 ·unfold sYIndexFunc_api_RefEvent_at_history_Valid_3_l0 hYValid_3
  rw[if_pos (by simp;omega),idx_lt hi,w64 (by omega) (by omega)]
  simp only[Option.bind_some]
  unfold timeB
  cases (decide (l[i].Time < 0)||decide (1099511627776 < l[i].Time)) <;> rfl
 ·unfold sYIndexFunc_api_RefEvent_at_history_Valid_3_l0
  rw[if_neg (by simp)]
def sortB (l:List zE):Bool:=decide (l.Pairwise fun x y=>x.Time≤y.Time)
theorem cmp_lt (x y:Int):cmp_Compare_int x y=some (if x < y then -1 else if y < x then 1 else 0):=by
 unfold cmp_Compare_int cmp_isNaN_int
 simp only[bne_self_eq_false,Option.bind_some]
 simp only[Bool.false_eq_true,if_false]
 by_cases h:x < y
 ·simp[h]
 ·by_cases h2:y < x
  ·simp[h,h2]
  ·simp[h,h2]
theorem sorted_eq {l:List zE} (hl:l.length≤1000000):sYIsSortedFunc_api_RefEvent_at_history_Valid_4 l=some (sortB l):=by
 have hb:∀(i:Nat) (h:i+1 < l.length),sYIsSortedFunc_api_RefEvent_at_history_Valid_4_l0 l ((i+1:Nat):Int)=some (if l[i].Time≤l[i+1].Time then .go (i:Int) else .out (.inr false)):=fun i h=>by
  unfold sYIsSortedFunc_api_RefEvent_at_history_Valid_4_l0 hYValid_4
  have hw:IntKind.i64.wrap (((i+1:Nat):Int) - 1)=(i:Int):=by rw[w64 (by omega) (by omega)];omega
  rw[if_pos (by simp <;> omega),hw,idx_lt h,idx_lt (show i < l.length by omega)]
  simp only[Option.bind_some,cmp_lt]
  by_cases hc:l[i+1].Time < l[i].Time
  ·rw[if_pos hc,if_neg (show ¬l[i].Time≤l[i+1].Time by omega)];rfl
  ·rw[if_neg hc,if_pos (show l[i].Time≤l[i+1].Time by omega)]
   split <;> rfl
 have key:∀(n:Nat),n < l.length∨n=0→iter (sYIsSortedFunc_api_RefEvent_at_history_Valid_4_l0 l) (n:Int)=some (if ∀i,i < n→∀(h:i+1 < l.length),l[i].Time≤l[i+1].Time then .inl () else .inr false):=fun n=>by
  induction n with
  |zero=>
   intro _
   rw[if_pos (by simp)]
   refine iter_out ?_
   unfold sYIsSortedFunc_api_RefEvent_at_history_Valid_4_l0
   rw[if_neg (by simp)]
  |succ n ih=>
   intro h
   have h1:n+1 < l.length:=by omega
   have h2:=hb n h1
   by_cases hc:l[n].Time≤l[n+1].Time
   ·rw[if_pos hc] at h2
    rw[iter_go h2,ih (by omega)]
    congr 1
    refine ite_congr (propext ⟨fun g i hi hh=>?_,fun g i hi hh=>g i (by omega) hh⟩) (fun _=>rfl) (fun _=>rfl)
    rcases Nat.lt_succ_iff_lt_or_eq.1 hi with h3 |h3
    ·exact g i h3 hh
    ·subst h3;exact hc
   ·rw[if_neg hc] at h2
    rw[iter_out h2,if_neg (fun g=>hc (g n (by omega) h1))]
 have hP:(∀i,i < l.length - 1→∀(h:i+1 < l.length),l[i].Time≤l[i+1].Time)↔l.Pairwise fun x y=>x.Time≤y.Time:=by
  constructor
  ·intro g
   rw[List.pairwise_iff_getElem]
   intro i j hi hj hij
   induction j with
   |zero=>omega
   |succ j ih=>
    have g1:=g j (by omega) hj
    rcases Nat.lt_succ_iff_lt_or_eq.1 hij with h3 |h3
    ·have:=ih (by omega) h3;omega
    ·subst h3;exact g1
  ·intro g i hi h
   exact List.pairwise_iff_getElem.1 g i (i+1) (by omega) h (by omega)
 unfold sYIsSortedFunc_api_RefEvent_at_history_Valid_4 sortB
 by_cases h0:l.length=0
 ·have:l=[]:=List.eq_nil_of_length_eq_zero h0
  subst this
  have e:iter (sYIsSortedFunc_api_RefEvent_at_history_Valid_4_l0 []) (IntKind.i64.wrap ((([]:List zE).length:Int) - 1))=some (.inl ()):=by
   refine iter_out ?_
   unfold sYIsSortedFunc_api_RefEvent_at_history_Valid_4_l0
   rw[if_neg (by simp[IntKind.wrap,IntKind.signed,IntKind.bits])]
  rw[e];simp
 ·have hw:IntKind.i64.wrap ((l.length:Int) - 1)=((l.length - 1:Nat):Int):=by rw[w64 (by omega) (by omega)];omega
  rw[hw,key (l.length - 1) (by omega)]
  by_cases hc:∀i,i < l.length - 1→∀(h:i+1 < l.length),l[i].Time≤l[i+1].Time
  ·rw[if_pos hc,decide_eq_true (hP.1 hc)];rfl
  ·rw[if_neg hc,decide_eq_false (fun g=>hc (hP.2 g))];rfl
noncomputable def nameStep (m:List (ByteArray×Bool)) (e:zE):List (ByteArray×Bool):=if e.Kind=1 then mset stE m e.Name true else mdel stE m e.Name
noncomputable def manyB:List zE→List (ByteArray×Bool)→Bool
 |[],_=>false
 |e::l,m=>decide (32 < (nameStep m e).length)||manyB l (nameStep m e)
theorem many_eq {a0:zR} (h:a0.Events.length≤1000000):iter (hYValid_l0 a0) (0,[])=some (if manyB a0.Events []=true then .inr 3 else .inl ()):=by
 rw[iter_scanL a0.Events (fun m e=>if 32 < (nameStep m e).length then(.inl (.inr 3):(Unit ⊕ Int) ⊕ List (ByteArray×Bool)) else .inr (nameStep m e)) (fun _=>.inl ()) (fun i hi s=>?_) (fun s=>?_)]
 ·congr 1
  generalize a0.Events=l
  generalize ([]:List (ByteArray×Bool))=m
  induction l generalizing m with
  |nil=>rfl
  |cons e l ih=>
   rw[scanL,manyB]
   by_cases hc:32 < (nameStep m e).length
   ·simp[hc]
   ·rw[if_neg hc]
    simp only[hc,decide_false,Bool.false_or]
    exact ih _
 ·unfold hYValid_l0 nameStep
  rw[if_pos (by simp;omega),idx_lt hi]
  simp only[Option.bind_some]
  by_cases k:a0.Events[i].Kind=1
  ·rw[if_pos (by simpa using k),if_pos k]
   unfold hYValid_j1
   rw[w64 (by omega) (by omega)]
   by_cases hc:32 < (mset stE s a0.Events[i].Name true).length
   ·rw[if_pos (by simp;omega),if_pos hc]
   ·rw[if_neg (by simp;omega),if_neg hc];rfl
  ·rw[if_neg (by simpa using k),if_neg k]
   unfold hYValid_j1
   rw[w64 (by omega) (by omega)]
   by_cases hc:32 < (mdel stE s a0.Events[i].Name).length
   ·rw[if_pos (by simp;omega),if_pos hc]
   ·rw[if_neg (by simp;omega),if_neg hc];rfl
 ·unfold hYValid_l0
  rw[if_neg (by simp)]
def FitR (a0:zR):Prop:=(∀o∈a0.Objects,FitO o)∧∀e∈a0.Events,e.Name.size≤9223372036854775807
noncomputable def validE (a0:zR):Int:=
 if 400 < a0.Objects.length∨300 < a0.Events.length then 3 else
 if(a0.Objects.any (fun o=>objE o != 0)||a0.Events.any wrongB)=true then 1 else
 if ¬(a0.Objects.map (·.ID)).Nodup then 7 else
 if(a0.Objects.any (fun o=>!hereB (objM a0.Objects) o)||nlB (objM a0.Objects) a0.Events [])=true then 6 else
 if cycB (objM a0.Objects)=true then 8 else
 if a0.Events.any timeB=true then 2 else
 if sortB a0.Events=false then 11 else
 if manyB a0.Events []=true then 3 else 0
theorem objE_zero {o:zO}:objE o=0↔numB o.ID=true∧(o.Data.length≤65536∧o.Items.length≤64∧o.Parents.length≤8)∧rightB o=true:=by
 unfold objE
 cases h:numB o.ID with
 |false=>simp
 |true=>
  simp only[Bool.true_eq_false,if_false,true_and]
  split
  ·simp;omega
  ·cases h2:rightB o with
   |false=>simp
   |true=>simp;omega
theorem objM_keys (l:List zO):(objM l).map (·.1)=l.map (·.ID):=by simp[objM]
theorem valid_eq {a0:zR} (hf:FitR a0):hYValid a0=some (validE a0):=by
 unfold hYValid validE
 by_cases h1:400 < a0.Objects.length∨300 < a0.Events.length
 ·rw[if_pos h1]
  have:(decide (400 < ((a0.Objects).length:Int))||decide (300 < ((a0.Events).length:Int)))=true:=by
   simp only[Bool.or_eq_true,decide_eq_true_eq];omega
  rw[this];rfl
 ·rw[if_neg h1]
  have:(decide (400 < ((a0.Objects).length:Int))||decide (300 < ((a0.Events).length:Int)))=false:=by
   simp only[Bool.or_eq_false_iff,decide_eq_false_iff_not];omega
  rw[this,cF_obj (by omega) hf.1,cF_wrong (by omega) hf.2]
  simp only[Option.bind_some,Bool.false_eq_true,if_false]
  cases h2:a0.Objects.any (fun o=>objE o != 0) with
  |true=>rfl
  |false=>
   simp only[Bool.false_eq_true,if_false,Bool.false_or,Option.bind_some]
   cases h3:a0.Events.any wrongB with
   |true=>rfl
   |false=>
    simp only[Bool.false_eq_true,if_false]
    rw[index_eq (by omega)]
    simp only[Option.bind_some]
    by_cases h4:(a0.Objects.map (·.ID)).Nodup
    ·rw[decide_eq_true (idxM_single.2 h4),idxM_nodup h4,if_neg (not_not_intro h4)]
     simp only[Bool.not_true,Bool.false_eq_true,if_false]
     have hob:∀o∈a0.Objects,objE o=0:=fun o ho=>by
      have:=List.any_eq_false.1 h2 o ho
      simpa using this
     have hsz:∀o∈a0.Objects,o.Items.length≤1000000∧o.Parents.length≤1000000:=fun o ho=>by
      have:=(objE_zero.1 (hob o ho)).2.1
      omega
     rw[cF_miss _ (by omega) hsz]
     simp only[Option.bind_some]
     cases h5:a0.Objects.any (fun o=>!hereB (objM a0.Objects) o) with
     |true=>rfl
     |false=>
      simp only[Bool.false_eq_true,if_false,Bool.false_or]
      rw[nameless_eq (by omega)]
      simp only[Option.bind_some]
      cases h6:nlB (objM a0.Objects) a0.Events [] with
      |true=>rfl
      |false=>
       simp only[Bool.false_eq_true,if_false]
       have hcy:hYcycle (objM a0.Objects)=some (cycB (objM a0.Objects)):=by
        unfold hYcycle
        rw[if_pos]
        refine⟨by rw[objM_keys];exact h4,fun q hq=>?_⟩
        obtain⟨o,ho,rfl⟩:=List.mem_map.1 hq
        have:=hsz o ho
        simp only[fitO,Bool.and_eq_true,decide_eq_true_eq]
        exact⟨this.2,this.1⟩
       rw[hcy]
       simp only[Option.bind_some]
       cases h7:cycB (objM a0.Objects) with
       |true=>rfl
       |false=>
        simp only[Bool.false_eq_true,if_false]
        rw[cF_time (by omega)]
        simp only[Option.bind_some]
        cases h8:a0.Events.any timeB with
        |true=>rfl
        |false=>
         simp only[Bool.false_eq_true,if_false]
         rw[sorted_eq (by omega)]
         simp only[Option.bind_some]
         cases h9:sortB a0.Events with
         |false=>rfl
         |true=>
          simp only[Bool.not_true,Bool.true_eq_false,Bool.false_eq_true,if_false]
          rw[many_eq (by omega)]
          cases manyB a0.Events [] <;> rfl
    ·rw[decide_eq_false (fun h=>h4 (idxM_single.1 h)),if_pos h4];rfl
structure OkV (a0:zR):Prop where
 no:a0.Objects.length≤400
 ne:a0.Events.length≤300
 ob:∀o∈a0.Objects,objE o=0
 ev:∀e∈a0.Events,wrongB e=false
 nd:(a0.Objects.map (·.ID)).Nodup
 hr:∀o∈a0.Objects,hereB (objM a0.Objects) o=true
 nl:nlB (objM a0.Objects) a0.Events []=false
 cy:cycB (objM a0.Objects)=false
 tm:∀e∈a0.Events,timeB e=false
 so:a0.Events.Pairwise fun x y=>x.Time≤y.Time
 mn:manyB a0.Events []=false
theorem validE_zero {a0:zR}:validE a0=0↔OkV a0:=by
 constructor
 ·intro h
  unfold validE at h
  split at h
  ·cases h
  split at h
  ·cases h
  split at h
  ·cases h
  split at h
  ·cases h
  split at h
  ·cases h
  split at h
  ·cases h
  split at h
  ·cases h
  split at h
  ·cases h
  rename_i h1 h2 h3 h4 h5 h6 h7 h8
  have h2:(a0.Objects.any (fun o=>objE o != 0)||a0.Events.any wrongB)=false:=by simpa only[Bool.not_eq_true] using h2
  have h4:(a0.Objects.any (fun o=>!hereB (objM a0.Objects) o)||nlB (objM a0.Objects) a0.Events [])=false:=by simpa only[Bool.not_eq_true] using h4
  have h6:a0.Events.any timeB=false:=by simpa only[Bool.not_eq_true] using h6
  rw[Bool.or_eq_false_iff] at h2 h4
  exact⟨by omega,by omega,fun o ho=>by simpa using List.any_eq_false.1 h2.1 o ho,fun e he=>by simpa using List.any_eq_false.1 h2.2 e he,Classical.not_not.1 h3,fun o ho=>by simpa using List.any_eq_false.1 h4.1 o ho,h4.2,by simpa using h5,fun e he=>by simpa using List.any_eq_false.1 h6 e he,by
   have:sortB a0.Events=true:=by simpa using h7
   exact of_decide_eq_true this,by simpa using h8⟩
 ·intro h
  unfold validE
  rw[if_neg (by have:=h.no;have:=h.ne;omega),if_neg,if_neg (not_not_intro h.nd),if_neg,if_neg (by rw[h.cy];decide),if_neg,if_neg,if_neg (by rw[h.mn];decide)]
  ·have:sortB a0.Events=true:=decide_eq_true h.so
   rw[this];decide
  ·rw[Bool.not_eq_true]
   exact List.any_eq_false.2 fun e he=>by simpa using h.tm e he
  ·rw[Bool.not_eq_true,Bool.or_eq_false_iff]
   exact⟨List.any_eq_false.2 fun o ho=>by simpa using h.hr o ho,h.nl⟩
  ·rw[Bool.not_eq_true,Bool.or_eq_false_iff]
   exact⟨List.any_eq_false.2 fun o ho=>by simpa using h.ob o ho,List.any_eq_false.2 fun e he=>by simpa using h.ev e he⟩
end Go.Vl
