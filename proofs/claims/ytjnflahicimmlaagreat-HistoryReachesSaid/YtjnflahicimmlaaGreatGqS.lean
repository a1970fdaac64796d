/- ref13.Valid and ref15's look at the events answer as object.Valid and history.wrong, in plain words. Conditions: none. -/
import Derived.Test.YtjnflahicimmlaaGreatGpS
import Derived.Test.YtjnflahicimmlaaGreatGBx
set_option linter.unusedSimpArgs false
set_option linter.unusedVariables false
namespace Go.Vl
open Go
theorem bl_nil:∀l:List UInt8,Op.bytesLess l []=false
 |[]=>rfl
 |_::_=>rfl
theorem bl_not:∀a b:List UInt8,Op.bytesLess a b= !(Op.bytesLess b a||b==a)
 |[],[]=>rfl
 |[],_::_=>rfl
 |_::_,[]=>rfl
 |x::a,y::b=>by
  have ih:=bl_not a b
  simp only[Op.bytesLess]
  by_cases h1:x < y
  ·have h2:¬y < x:=by rw[UInt8.lt_iff_toNat_lt] at h1 ⊢;omega
   have h3:¬y=x:=fun e=>by subst e;exact h2 h1
   simp[h1,h2,h3]
  ·by_cases h2:y < x
   ·have h3:¬x=y:=fun e=>by subst e;exact h1 h2
    simp[h1,h2,h3]
   ·have h3:x=y:=by
     apply UInt8.toNat_inj.1
     rw[UInt8.lt_iff_toNat_lt] at h1 h2;omega
    subst h3
    simpa using ih
theorem rid_eq (x:Int):qYID x=some (numB x):=rfl
theorem rname_eq {s:ByteArray} (h:s.size≤9223372036854775807):qYName s=some (nmB s):=by
 have hl:=sbytes_length s
 unfold qYName
 have hs:∀(i:Nat) (hi:i < (sbytes s).length),sidx s (i:Int)=some (sbytes s)[i]:=fun i hi=>by
  have h2:i < s.size:=by rw[← hl];exact hi
  unfold sidx
  rw[if_pos (by omega),Int.toNat_natCast,getElem?_pos s i h2]
  have e:(sbytes s)[i]=((s[i]'h2).toNat:Int):=List.getElem_map ..
  rw[e];rfl
 rw[iter_allL (sbytes s) chB false (fun i hi=>?_) ?_]
 ·unfold nmB
  by_cases hb:(sbytes s).all chB=true
  ·rw[if_pos hb,hb]
   simp only[Option.bind_some,Bool.true_and]
   congr 2
   ·simp;omega
   ·simp;omega
  ·rw[if_neg hb]
   have:(sbytes s).all chB=false:=by simpa using hb
   rw[this];rfl
 ·unfold qYName_l0
  rw[if_neg (by simp;omega)]
 ·unfold qYName_l0
  rw[if_pos (by simp;omega),hs i hi,w64 (by omega) (by omega)]
  simp only[Option.bind_some]
  unfold chB
  by_cases c1:(sbytes s)[i] < 33
  ·simp[c1]
  ·by_cases c2:126 < (sbytes s)[i]
   ·simp[c1,c2]
   ·cases c3:(sbytes s)[i]==47 <;> simp[c1,c2,c3]
theorem rtree_eq {o:zO} (h:o.Items.length≤1000000) (hf:∀x∈o.Items,x.Name.size≤9223372036854775807):qYtree o=some (decide (∀i,i < o.Items.length→treeB o.Items i=true)&&(o.Data.isEmpty&& !otherB o)):=by
 unfold qYtree
 rw[iter_allE o.Items.length (treeB o.Items) false (fun i hi=>?_) ?_]
 ·have hr:((((o.Data).length:Int)==0)&&((o.Tree==0)&&((((o.Parents).length:Int)==0)&&(((o.Author).toList==((⟨#[]⟩:ByteArray)).toList)&&(o.Time==0)))))=(o.Data.isEmpty&& !otherB o):=by
   rw[len0,len0]
   unfold otherB
   have hp:decide (0 < ((o.Parents).length:Int))= !o.Parents.isEmpty:=by cases o.Parents <;> simp <;> omega
   rw[hp]
   simp only[bne]
   cases o.Data.isEmpty <;> cases o.Tree==0 <;> cases o.Parents.isEmpty <;> cases (o.Author).toList==((⟨#[]⟩:ByteArray)).toList <;> cases o.Time==0 <;> rfl
  by_cases hb:∀i,i < o.Items.length→treeB o.Items i=true
  ·rw[if_pos hb,decide_eq_true hb,hr];rfl
  ·rw[if_neg hb,decide_eq_false hb];rfl
 ·unfold qYtree_l0
  rw[if_neg (by simp)]
 ·unfold qYtree_l0
  rw[if_pos (by simp;omega),idx_lt hi,w64 (x:=(i:Int)+1) (by omega) (by omega)]
  simp only[Option.bind_some]
  rw[rname_eq (hf _ (List.getElem_mem hi)),rid_eq]
  simp only[Option.bind_some]
  unfold treeB
  rw[List.getElem?_eq_getElem hi]
  simp only
  rcases Bool.eq_false_or_eq_true (nmB o.Items[i].Name) with hb1 |hb1
  case inr=>simp[hb1]
  case inl=>
   rcases Bool.eq_false_or_eq_true (numB o.Items[i].ID) with hb2 |hb2
   case inr=>simp[hb1,hb2]
   case inl=>
    simp only[hb1,hb2,Bool.not_true,Bool.false_eq_true,if_false]
    cases i with
    |zero=>simp
    |succ i=>
     rw[if_pos (by simp)]
     have hw:IntKind.i64.wrap (((i+1:Nat):Int) - 1)=(i:Int):=by rw[w64 (by omega) (by omega)];omega
     rw[hw,idx_lt (show i < o.Items.length by omega)]
     simp only[Option.bind_some,Nat.add_sub_cancel,List.getElem?_eq_getElem (show i < o.Items.length by omega)]
     rw[bl_not o.Items[i].Name.toList o.Items[i+1].Name.toList]
     cases (Op.bytesLess o.Items[i+1].Name.toList o.Items[i].Name.toList||o.Items[i+1].Name.toList==o.Items[i].Name.toList) <;> simp
theorem rdup_eq {l:List Int} {i:Nat} (hi:i < l.length) (hl:l.length≤1000000) (o:zO) (ho:o.Parents=l):iter (qYcommit_l1 (i:Int) o l[i]) 0=some (if (l.take i).contains l[i]=true then .inr false else .inl ()):=by
 subst ho
 have:=iter_allL (body:=qYcommit_l1 (i:Int) o o.Parents[i]) (o.Parents.take i) (fun y=>!(y==o.Parents[i])) false (fun k hk=>?_) ?_
 ·rw[this]
  have e:(o.Parents.take i).contains o.Parents[i]= !((o.Parents.take i).all fun y=>!(y==o.Parents[i])):=by
   rw[List.contains_eq_any_beq,←List.not_any_eq_all_not]
   simp only[Bool.not_not]
   congr 1
   funext y
   exact Bool.beq_comm ..
  rw[e]
  cases (o.Parents.take i).all fun y=>!(y==o.Parents[i]) <;> rfl
 ·have hk':k < i:=by simp at hk;omega
  unfold qYcommit_l1
  rw[if_pos (by simp;omega),idx_lt (show k < o.Parents.length by omega),w64 (by omega) (by omega)]
  simp only[Option.bind_some,List.getElem_take]
  cases o.Parents[k]==o.Parents[i] <;> rfl
 ·unfold qYcommit_l1
  rw[if_neg (by simp;omega)]
theorem rcommit_eq {o:zO} (h:o.Parents.length≤1000000) (hf:o.Author.size≤9223372036854775807):qYcommit o=some (o.Data.isEmpty&&(o.Items.isEmpty&&commitB o)):=by
 unfold qYcommit commitB
 rw[iter_allE o.Parents.length (parB o.Parents) false (fun i hi=>?_) ?_]
 ·simp only[len0]
  by_cases hb:∀i,i < o.Parents.length→parB o.Parents i=true
  ·rw[if_pos hb,decide_eq_true hb,rid_eq,rname_eq hf]
   simp only[Option.bind_some]
   cases o.Data.isEmpty <;> cases o.Items.isEmpty <;> cases numB o.Tree <;> cases nmB o.Author <;> cases decide (0≤o.Time) <;> simp
  ·rw[if_neg hb,decide_eq_false hb]
   cases o.Data.isEmpty <;> cases o.Items.isEmpty <;> rfl
 ·unfold qYcommit_l0
  rw[if_neg (by simp)]
 ·unfold qYcommit_l0
  rw[if_pos (by simp;omega),idx_lt hi,w64 (x:=(i:Int)+1) (by omega) (by omega)]
  simp only[Option.bind_some]
  rw[rid_eq,rdup_eq hi h o rfl]
  unfold parB
  rw[List.getElem?_eq_getElem hi]
  simp only[Option.bind_some]
  rcases Bool.eq_false_or_eq_true (numB o.Parents[i]) with hb1 |hb1
  case inr=>simp[hb1]
  case inl=>
   simp only[hb1]
   cases (o.Parents.take i).contains o.Parents[i] <;> simp
theorem rblob_eq (o:zO):qYblob o=some (o.Items.isEmpty&& !otherB o):=by
 unfold qYblob
 simp only[Option.bind_some]
 rw[len0,len0]
 unfold otherB
 have hp:decide (0 < ((o.Parents).length:Int))= !o.Parents.isEmpty:=by cases o.Parents <;> simp <;> omega
 rw[hp]
 simp only[bne]
 cases o.Items.isEmpty <;> cases o.Tree==0 <;> cases o.Parents.isEmpty <;> cases (o.Author).toList==((⟨#[]⟩:ByteArray)).toList <;> cases o.Time==0 <;> rfl
theorem rvalid_eq {o:zO} (hf:FitO o):qYValid o=some (objE o):=by
 unfold qYValid objE
 rw[rid_eq]
 simp only[Option.bind_some]
 cases numB o.ID with
 |false=>rfl
 |true=>
  by_cases hb:65536 < o.Data.length∨64 < o.Items.length∨8 < o.Parents.length
  ·rw[if_pos hb]
   have:(decide (65536 < ((o.Data).length:Int))||((decide (64 < ((o.Items).length:Int)))||(decide (8 < ((o.Parents).length:Int)))))=true:=by
    simp only[Bool.or_eq_true,decide_eq_true_eq];omega
   rw[this];rfl
  ·rw[if_neg hb]
   have:(decide (65536 < ((o.Data).length:Int))||((decide (64 < ((o.Items).length:Int)))||(decide (8 < ((o.Parents).length:Int)))))=false:=by
    simp only[Bool.or_eq_false_iff,decide_eq_false_iff_not];omega
   rw[this,rblob_eq,rtree_eq (by omega) hf.1,rcommit_eq (by omega) hf.2]
   unfold rightB qYValid_j0
   simp only[Option.bind_some]
   by_cases k1:o.Kind=1
   ·simp only[k1]
    cases (o.Items.isEmpty&& !otherB o) <;> simp
   ·by_cases k2:o.Kind=2
    ·simp only[k2]
     cases o.Data.isEmpty <;> cases otherB o <;> cases decide (∀i,i < o.Items.length→treeB o.Items i=true) <;> simp
    ·by_cases k3:o.Kind=3
     ·simp only[k3]
      cases (o.Data.isEmpty&&(o.Items.isEmpty&&commitB o)) <;> simp
     ·simp[k1,k2,k3]
end Go.Vl
namespace Go.Vl
open Go
theorem bl_trans:∀a b c:List UInt8,Op.bytesLess a b=true→Op.bytesLess b c=true→Op.bytesLess a c=true
 |_,[],_,h,_=>by rw[bl_nil] at h;cases h
 |_,_::_,[],_,h=>by rw[bl_nil] at h;cases h
 |[],_::_,_::_,_,_=>rfl
 |x::a,y::b,z::c,h1,h2=>by
  have ih:=bl_trans a b c
  simp only[Op.bytesLess,Bool.or_eq_true,Bool.and_eq_true,decide_eq_true_eq,beq_iff_eq] at h1 h2 ⊢
  rcases h1 with h1 |⟨rfl,h1⟩
  ·rcases h2 with h2 |⟨rfl,h2⟩
   ·left;rw[UInt8.lt_iff_toNat_lt] at *;omega
   ·exact .inl h1
  ·rcases h2 with h2 |⟨rfl,h2⟩
   ·exact .inl h2
   ·exact .inr ⟨rfl,ih h1 h2⟩
theorem bl_irr (a:List UInt8):Op.bytesLess a a=false:=by
 have:=bl_not a a
 cases h:Op.bytesLess a a with
 |false=>rfl
 |true=>rw[h] at this;simp at this
theorem ba_list {a b:ByteArray}:a.toList=b.toList↔a=b:=by
 rw[ByteArray.toList_eq,ByteArray.toList_eq]
 exact⟨fun h=>ByteArray.ext (Array.toList_inj.1 h),fun h=>by rw[h]⟩
theorem stE_eqQ (a b:ByteArray):stE a b=true↔a=b:=by
 unfold stE
 rw[beq_iff_eq,ba_list]
def SoI (l:List zI):Prop:=l.Pairwise fun x y=>Op.bytesLess x.Name.toList y.Name.toList=true
def bef (n:ByteArray) (x:zI):Bool:=Op.bytesLess x.Name.toList n.toList
theorem take_tw {α:Type} (p:α→Bool) (l:List α):l.take (l.takeWhile p).length=l.takeWhile p∧l.drop (l.takeWhile p).length=l.dropWhile p:=by
 have h:=List.takeWhile_append_dropWhile (p:=p) (l:=l)
 constructor
 ·conv=>lhs;rw[← h]
  rw[List.take_left']
  rw[h]
 ·conv=>lhs;rw[← h]
  rw[List.drop_left']
  rw[h]
theorem refAt_take (n:ByteArray) (l:List zI):l.take (refAt n l)=l.takeWhile (bef n):=(take_tw (bef n) l).1
theorem refAt_drop (n:ByteArray) (l:List zI):l.drop (refAt n l)=l.dropWhile (bef n):=(take_tw (bef n) l).2
theorem tw_all {α:Type} (p:α→Bool):∀(l:List α),∀x∈l.takeWhile p,p x=true
 |[],x,h=>by cases h
 |y::l,x,h=>by
  rw[List.takeWhile_cons] at h
  split at h
  ·rename_i hy
   rcases List.mem_cons.1 h with rfl |h
   ·exact hy
   ·exact tw_all p l x h
  ·cases h
theorem dw_head {α:Type} (p:α→Bool):∀(l:List α) (x:α) (r:List α),l.dropWhile p=x::r→p x=false
 |[],x,r,h=>by cases h
 |y::l,x,r,h=>by
  rw[List.dropWhile_cons] at h
  split at h
  ·exact dw_head p l x r h
  ·rename_i hy
   cases h
   simpa using hy
theorem dw_ge {n:ByteArray} {l:List zI} (h:SoI l):∀x∈l.dropWhile (bef n),bef n x=false:=by
 have hs:SoI (l.dropWhile (bef n)):=List.Pairwise.sublist (List.dropWhile_sublist _) h
 cases hd:l.dropWhile (bef n) with
 |nil=>intro x hx;cases hx
 |cons y r=>
  have hy:=dw_head _ _ _ _ hd
  rw[hd] at hs
  obtain⟨h1,_⟩:=List.pairwise_cons.1 hs
  intro x hx
  rcases List.mem_cons.1 hx with rfl |hx
  ·exact hy
  ·have h2:=h1 x hx
   unfold bef at hy ⊢
   cases h3:Op.bytesLess x.Name.toList n.toList with
   |false=>rfl
   |true=>rw[bl_trans _ _ _ h2 h3] at hy;cases hy
structure RefI (out:List zI) (m:List (ByteArray×Bool)):Prop where
 so:SoI out
 nd:(m.map (·.1)).Nodup
 mem:∀n,(∃x∈out,x.Name=n)↔n∈m.map (·.1)
theorem RefI.len {out:List zI} {m:List (ByteArray×Bool)} (h:RefI out m):out.length=m.length:=by
 have h1:(out.map (·.Name)).Nodup:=by
  rw[List.Nodup,List.pairwise_map]
  refine h.so.imp fun {a b} hab e=>?_
  rw[e,bl_irr] at hab;cases hab
 have h2:(out.map (·.Name)).Perm (m.map (·.1)):=(List.perm_ext_iff_of_nodup h1 h.nd).2 fun n=>by rw[← h.mem n,List.mem_map]
 have:=h2.length_eq
 simpa using this
theorem ref_at {n:ByteArray} {l:List zI} (h:SoI l):(∃x r,l.dropWhile (bef n)=x::r∧x.Name=n)∨((∀x∈l,x.Name≠n)∧∀x r,l.dropWhile (bef n)=x::r→x.Name≠n):=by
 have hsplit:=List.takeWhile_append_dropWhile (p:=bef n) (l:=l)
 by_cases he:∃x∈l,x.Name=n
 ·obtain⟨x,hx,e⟩:=he
  rw[← hsplit] at hx
  rcases List.mem_append.1 hx with hx |hx
  ·have:=tw_all _ _ x hx
   unfold bef at this
   rw[e,bl_irr] at this;cases this
  ·cases hd:l.dropWhile (bef n) with
   |nil=>rw[hd] at hx;cases hx
   |cons y r=>
    left
    refine⟨y,r,rfl,?_⟩
    rw[hd] at hx
    rcases List.mem_cons.1 hx with rfl |hx
    ·exact e
    ·have hs:SoI (l.dropWhile (bef n)):=List.Pairwise.sublist (List.dropWhile_sublist _) h
     rw[hd] at hs
     have h1:=(List.pairwise_cons.1 hs).1 x hx
     have h2:=dw_head _ _ _ _ hd
     unfold bef at h2
     rw[e] at h1
     rw[h1] at h2;cases h2
 ·right
  have hn:∀x∈l,x.Name≠n:=fun x hx e=>he ⟨x,hx,e⟩
  refine⟨hn,fun x r hd=>hn x ?_⟩
  rw[← hsplit,hd]
  simp
open Classical in
/-- one event -/
theorem names_step {out:List zI} {m:List (ByteArray×Bool)} (h:RefI out m) (e:zE) (th few:Bool):
  ∃out',namesStep e (out,th,few)=(out',(th&&(e.Kind==1||decide (e.Name∈m.map (·.1)))),(few&&decide ((nameStep m e).length≤32)))∧RefI out' (nameStep m e):=by
 have hsplit:=List.takeWhile_append_dropWhile (p:=bef e.Name) (l:=out)
 have hk:out[refAt e.Name out]? =(out.dropWhile (bef e.Name)).head? :=by
  rw[← refAt_drop,List.head?_drop]
 have hd1:out.drop (refAt e.Name out+1)=(out.dropWhile (bef e.Name)).tail:=by
  rw[← refAt_drop,List.tail_drop]
 have hst:∀v,out.set (refAt e.Name out) v=out.takeWhile (bef e.Name)++(out.dropWhile (bef e.Name)).set 0 v:=fun v=>by
  rw[show out.set (refAt e.Name out) v=(out.takeWhile (bef e.Name)++out.dropWhile (bef e.Name)).set (out.takeWhile (bef e.Name)).length v from by rw[hsplit];rfl,List.set_append_right _ _ (Nat.le_refl _),Nat.sub_self]
 have inL:∀y∈out.takeWhile (bef e.Name),y∈out:=fun y hy=>(List.takeWhile_sublist _).subset hy
 have inR:∀y∈out.dropWhile (bef e.Name),y∈out:=fun y hy=>(List.dropWhile_sublist _).subset hy
 have fin:∀out',RefI out' (nameStep m e)→decide (out'.length≤32)=decide ((nameStep m e).length≤32):=fun out' h'=>by rw[h'.len]
 have hA:∀x∈out.takeWhile (bef e.Name),Op.bytesLess x.Name.toList e.Name.toList=true:=tw_all _ _
 have hB:∀x∈out.dropWhile (bef e.Name),x.Name≠e.Name→Op.bytesLess e.Name.toList x.Name.toList=true:=fun x hx hne=>by
  have h1:=dw_ge h.so x hx
  unfold bef at h1
  rw[bl_not,h1]
  simp only[Bool.false_or,Bool.not_eq_true',beq_eq_false_iff_ne,ne_eq]
  exact fun e'=>hne (ba_list.1 e')
 have hso:=h.so
 rcases ref_at (n:=e.Name) h.so with ⟨x,r,hd,hx⟩ |⟨hno,hno2⟩
 ·-- the name is there
  have hm:e.Name∈m.map (·.1):=(h.mem _).1 ⟨x,inR x (by rw[hd];simp),hx⟩
  have hxe:(x.Name.toList==e.Name.toList)=true:=by rw[hx];simp
  have hsp:SoI (out.takeWhile (bef e.Name)++x::r):=by rw[← hd,hsplit];exact hso
  by_cases hk1:e.Kind=1
  ·have hr:RefI (out.takeWhile (bef e.Name)++⟨x.Name,e.Commit⟩::r) (nameStep m e):=by
    unfold nameStep
    rw[if_pos hk1]
    refine⟨?_,?_,fun n=>?_⟩
    ·unfold SoI at hsp ⊢
     rw[List.pairwise_append,List.pairwise_cons] at hsp ⊢
     obtain⟨h1,⟨h2,h3⟩,h4⟩:=hsp
     refine⟨h1,⟨h2,h3⟩,fun a ha b hb=>?_⟩
     rcases List.mem_cons.1 hb with rfl |hb
     ·exact h4 a ha x (by simp)
     ·exact h4 a ha b (by simp[hb])
    ·rw[(mset_keys stE_eqQ m e.Name true).1 hm];exact h.nd
    ·rw[(mset_keys stE_eqQ m e.Name true).1 hm,←h.mem n]
     constructor
     ·rintro⟨y,hy,rfl⟩
      rcases List.mem_append.1 hy with hy |hy
      ·exact⟨y,inL y hy,rfl⟩
      ·rcases List.mem_cons.1 hy with rfl |hy
       ·exact⟨x,inR x (by rw[hd];simp),rfl⟩
       ·exact⟨y,inR y (by rw[hd];simp[hy]),rfl⟩
     ·rintro⟨y,hy,rfl⟩
      rw[← hsplit,hd] at hy
      rcases List.mem_append.1 hy with hy |hy
      ·exact⟨y,List.mem_append_left _ hy,rfl⟩
      ·rcases List.mem_cons.1 hy with rfl |hy
       ·exact⟨⟨y.Name,e.Commit⟩,List.mem_append_right _ (by simp),rfl⟩
       ·exact⟨y,List.mem_append_right _ (by simp[hy]),rfl⟩
   refine⟨_,?_,hr⟩
   unfold namesStep
   simp only[hk,hd,List.head?_cons,hxe,if_true,hk1]
   rw[hst,hd,List.set_cons_zero,fin _ hr]
   simp
  ·have hr:RefI (out.takeWhile (bef e.Name)++r) (nameStep m e):=by
    unfold nameStep
    rw[if_neg hk1]
    have hsub:(out.takeWhile (bef e.Name)++r).Sublist (out.takeWhile (bef e.Name)++x::r):=List.Sublist.append (List.Sublist.refl _) (List.sublist_cons_self ..)
    have hnx:∀y∈out.takeWhile (bef e.Name)++r,y.Name≠e.Name:=fun y hy hye=>by
     unfold SoI at hsp
     rw[List.pairwise_append,List.pairwise_cons] at hsp
     obtain⟨h1,⟨h2,h3⟩,h4⟩:=hsp
     rcases List.mem_append.1 hy with hy |hy
     ·have:=hA y hy
      rw[hye,bl_irr] at this;cases this
     ·have:=h2 y hy
      rw[hye,hx,bl_irr] at this;cases this
    refine⟨hsp.sublist hsub,mdel_nodup h.nd e.Name,fun n=>?_⟩
    rw[mdel_mem stE_eqQ h.nd,←h.mem n]
    constructor
    ·rintro⟨y,hy,rfl⟩
     refine⟨hnx y hy,y,?_,rfl⟩
     rw[← hsplit,hd]
     exact hsub.subset hy
    ·rintro⟨hn,y,hy,rfl⟩
     rw[← hsplit,hd] at hy
     refine⟨y,?_,rfl⟩
     rcases List.mem_append.1 hy with hy |hy
     ·exact List.mem_append_left _ hy
     ·rcases List.mem_cons.1 hy with rfl |hy
      ·exact absurd hx hn
      ·exact List.mem_append_right _ hy
   refine⟨_,?_,hr⟩
   unfold namesStep
   simp only[hk,hd,List.head?_cons,hxe,if_true,hk1,if_false]
   rw[refAt_take,hd1,hd,List.tail_cons,fin _ hr]
   simp at hm ⊢
   exact fun _=>.inr hm
 ·-- it is not
  have hm:e.Name∉m.map (·.1):=fun hm=>by
   obtain⟨x,hx,hxe⟩:=(h.mem _).2 hm
   exact hno x hx hxe
  by_cases hk1:e.Kind=1
  ·have hr:RefI (out.takeWhile (bef e.Name)++([⟨e.Name,e.Commit⟩]++out.dropWhile (bef e.Name))) (nameStep m e):=by
    unfold nameStep
    rw[if_pos hk1]
    have hkeys:=(mset_keys stE_eqQ m e.Name true).2 hm
    refine⟨?_,?_,fun n=>?_⟩
    ·have hsp:SoI (out.takeWhile (bef e.Name)++out.dropWhile (bef e.Name)):=by rw[hsplit];exact hso
     unfold SoI at hsp ⊢
     rw[List.pairwise_append] at hsp ⊢
     obtain⟨h1,h2,h3⟩:=hsp
     refine⟨h1,?_,fun a ha b hb=>?_⟩
     ·rw[List.singleton_append,List.pairwise_cons]
      exact⟨fun b hb=>hB b hb (hno b (inR b hb)),h2⟩
     ·rw[List.singleton_append] at hb
      rcases List.mem_cons.1 hb with rfl |hb
      ·exact hA a ha
      ·exact h3 a ha b hb
    ·rw[hkeys,List.map_append]
     refine List.nodup_append.2 ⟨h.nd,by simp,fun a ha b hb=>?_⟩
     simp only[List.map_cons,List.map_nil,List.mem_singleton] at hb
     subst hb
     exact fun e'=>hm (e'▸ha)
    ·rw[hkeys,List.map_append,List.mem_append,←h.mem n]
     simp only[List.map_cons,List.map_nil,List.mem_singleton]
     constructor
     ·rintro⟨y,hy,rfl⟩
      rcases List.mem_append.1 hy with hy |hy
      ·exact .inl ⟨y,inL y hy,rfl⟩
      ·rcases List.mem_append.1 hy with hy |hy
       ·rw[List.mem_singleton] at hy
        subst hy
        exact .inr rfl
       ·exact .inl ⟨y,inR y hy,rfl⟩
     ·rintro(⟨y,hy,rfl⟩ |rfl)
      ·rw[← hsplit] at hy
       rcases List.mem_append.1 hy with hy |hy
       ·exact⟨y,List.mem_append_left _ hy,rfl⟩
       ·exact⟨y,List.mem_append_right _ (List.mem_append_right _ hy),rfl⟩
      ·exact⟨⟨e.Name,e.Commit⟩,List.mem_append_right _ (by simp),rfl⟩
   refine⟨_,?_,hr⟩
   unfold namesStep
   cases hd:out.dropWhile (bef e.Name) with
   |nil=>
    rw[hd] at hr
    simp only[hk,hd,List.head?_nil,hk1,if_true]
    rw[refAt_take,refAt_drop,hd,fin _ hr]
    simp
   |cons x r=>
    rw[hd] at hr
    have hxe:(x.Name.toList==e.Name.toList)=false:=by
     simp only[beq_eq_false_iff_ne,ne_eq]
     exact fun e'=>hno2 x r hd (ba_list.1 e')
    simp only[hk,hd,List.head?_cons,hxe,hk1,if_true,Bool.false_eq_true,if_false]
    rw[refAt_take,refAt_drop,hd,fin _ hr]
    simp
  ·have hr:RefI out (nameStep m e):=by
    unfold nameStep
    rw[if_neg hk1]
    refine⟨hso,mdel_nodup h.nd e.Name,fun n=>?_⟩
    rw[mdel_mem stE_eqQ h.nd,←h.mem n]
    constructor
    ·rintro⟨y,hy,rfl⟩
     exact⟨hno y hy,y,hy,rfl⟩
    ·rintro⟨_,y,hy,rfl⟩
     exact⟨y,hy,rfl⟩
   refine⟨_,?_,hr⟩
   unfold namesStep
   have hmF:decide (e.Name∈m.map (·.1))=false:=decide_eq_false hm
   have hkF:(e.Kind==1)=false:=by simpa using hk1
   cases hd:out.dropWhile (bef e.Name) with
   |nil=>
    simp only[hk,hd,List.head?_nil,hk1,if_false,hmF,hkF]
    rw[fin _ hr]
    simp
   |cons x r=>
    have hxe:(x.Name.toList==e.Name.toList)=false:=by
     simp only[beq_eq_false_iff_ne,ne_eq]
     exact fun e'=>hno2 x r hd (ba_list.1 e')
    simp only[hk,hd,List.head?_cons,hxe,Bool.false_eq_true,if_false,hk1,hmF,hkF]
    rw[fin _ hr]
    simp
end Go.Vl
namespace Go.Vl
open Go
open Classical in
noncomputable def delQ:List zE→List (ByteArray×Bool)→Bool
 |[],_=>false
 |e::l,m=>!(e.Kind==1||decide (e.Name∈m.map (·.1)))||delQ l (nameStep m e)
open Classical in
theorem names_fold {t:Int}:∀(l:List zE) (out:List zI) (m:List (ByteArray×Bool)) (th few:Bool),(∀e∈l,e.Time≤t)→RefI out m→
  ∃out',namesW t l (out,th,few)=(out',(th&& !delQ l m),(few&& !manyB l m))∧RefI out' (l.foldl nameStep m)
 |[],out,m,th,few,_,h=>⟨out,by simp[namesW,delQ,manyB],h⟩
 |e::l,out,m,th,few,ht,h=>by
  obtain⟨o1,e1,h1⟩:=names_step h e th few
  obtain⟨o2,e2,h2⟩:=names_fold l o1 (nameStep m e) (th&&(e.Kind==1||decide (e.Name∈m.map (·.1)))) (few&&decide ((nameStep m e).length≤32)) (fun x hx=>ht x (by simp[hx])) h1
  refine⟨o2,?_,h2⟩
  have hte:=ht e (by simp)
  rw[namesW,if_neg (by omega),e1,e2]
  simp only[delQ,manyB,Prod.mk.injEq,true_and]
  constructor
  ·cases th <;> cases (e.Kind==1||decide (e.Name∈m.map (·.1))) <;> simp
  ·have:decide (32 < (nameStep m e).length)= !decide ((nameStep m e).length≤32):=by
    rw[← decide_not]
    congr 1
    simp
   rw[this]
   cases few <;> cases decide ((nameStep m e).length≤32) <;> simp
def setBad (all:List (Int×zO)) (e:zE):Bool:=e.Kind==1&&kindM all e.Commit != 3
open Classical in
theorem nl_split {all:List (Int×zO)}:∀(l:List zE) (m m2:List (ByteArray×Bool)),(∀e∈l,e.Kind=1∨e.Kind=2)→(m.map (·.1)).Nodup→(∀n,(mget stE m2 n).getD false=true↔n∈m.map (·.1))→nlB all l m2=(l.any (setBad all)||delQ l m)
 |[],m,m2,_,_,_=>by simp[nl_nil,delQ]
 |e::l,m,m2,hk,hn,h=>by
  have hk1:=hk e (by simp)
  have hstep:(∀n,(mget stE (mset stE m2 e.Name (e.Kind==1)) n).getD false=true↔n∈(nameStep m e).map (·.1)):=fun n=>by
   obtain⟨g1,g2⟩:=mget_mset stE_eqQ m2 e.Name (e.Kind==1) n
   unfold nameStep
   by_cases hn1:n=e.Name
   ·rw[g1 hn1]
    rcases hk1 with k |k
    ·rw[if_pos k]
     simp only[k,beq_self_eq_true,Option.getD_some,true_iff]
     subst hn1
     by_cases hm:e.Name∈m.map (·.1)
     ·rw[(mset_keys stE_eqQ m e.Name true).1 hm];exact hm
     ·rw[(mset_keys stE_eqQ m e.Name true).2 hm];simp
    ·rw[if_neg (by omega),mdel_mem stE_eqQ hn]
     simp[k,hn1]
   ·rw[g2 hn1,h n]
    rcases hk1 with k |k
    ·rw[if_pos k]
     by_cases hm:e.Name∈m.map (·.1)
     ·rw[(mset_keys stE_eqQ m e.Name true).1 hm]
     ·rw[(mset_keys stE_eqQ m e.Name true).2 hm]
      simp[hn1]
    ·rw[if_neg (by omega),mdel_mem stE_eqQ hn]
     simp[hn1]
  have hnd:((nameStep m e).map (·.1)).Nodup:=by
   unfold nameStep
   split
   ·by_cases hm:e.Name∈m.map (·.1)
    ·rw[(mset_keys stE_eqQ m e.Name true).1 hm];exact hn
    ·rw[(mset_keys stE_eqQ m e.Name true).2 hm,List.map_append]
     refine List.nodup_append.2 ⟨hn,by simp,fun a ha b hb=>?_⟩
     simp only[List.map_cons,List.map_nil,List.mem_singleton] at hb
     subst hb
     exact fun e'=>hm (e'▸ha)
   ·exact mdel_nodup hn e.Name
  rw[nl_cons,nl_split l (nameStep m e) _ (fun x hx=>hk x (by simp[hx])) hnd hstep,List.any_cons,delQ]
  have hm:decide (e.Name∈m.map (·.1))=(mget stE m2 e.Name).getD false:=by
   have:=h e.Name
   cases hg:(mget stE m2 e.Name).getD false with
   |true=>rw[decide_eq_true (this.1 hg)]
   |false=>rw[decide_eq_false (fun q=>by have:=this.2 q;rw[hg] at this;cases this)]
  unfold bareB setBad
  rw[hm]
  rcases hk1 with k |k
  ·rw[k]
   generalize l.any _=A
   generalize delQ l (nameStep m e)=B
   generalize (kindM all e.Commit != 3)=C
   cases A <;> cases B <;> cases C <;> simp
  ·rw[k]
   generalize l.any _=A
   generalize delQ l (nameStep m e)=B
   generalize ((mget stE m2 e.Name).getD false)=C
   cases A <;> cases B <;> cases C <;> simp
theorem mget_objM (l:List zO) (id:Int):mget inE (objM l) id=l.find? fun o=>o.ID==id:=by
 induction l with
 |nil=>rfl
 |cons o l ih=>
  unfold objM mget at ih ⊢
  rw[List.map_cons,mfind,List.find?_cons]
  by_cases h:o.ID=id
  ·subst h
   rw[if_pos (by simp[inE])]
   simp
  ·rw[if_neg (by simp[inE];exact Ne.symm h)]
   have h2:(o.ID==id)=false:=by simpa using h
   rw[h2,←ih]
   simp only
   cases mfind inE id (List.map (fun o=>(o.ID,o)) l) <;> rfl
theorem rfind_eq {l:List zO} (hl:l.length≤1000000) (id:Int):rYfind l id=some (match l.find? (fun o=>o.ID==id) with |some o=>(o,true) |none=>(⟨0,0,[],[],0,[],ByteArray.empty,0⟩,false)):=by
 have key:∀(m i:Nat),i+m=l.length→iter (rYfind_l0 l id) (i:Int)=some (match (l.drop i).find? (fun o=>o.ID==id) with |some o=>.inr (o,true) |none=>.inl ()):=fun m=>by
  induction m with
  |zero=>
   intro i hi
   have:i=l.length:=by omega
   subst this
   rw[List.drop_eq_nil_of_le (Nat.le_refl _)]
   refine iter_out ?_
   unfold rYfind_l0
   rw[if_neg (by simp)];rfl
  |succ m ih=>
   intro i hi
   have hil:i < l.length:=by omega
   rw[List.drop_eq_getElem_cons hil,List.find?_cons]
   by_cases h:(l[i].ID==id)=true
   ·rw[h]
    refine iter_out ?_
    unfold rYfind_l0
    rw[if_pos (by simp;omega),idx_lt hil]
    simp only[Option.bind_some]
    rw[if_pos h]
   ·have h':(l[i].ID==id)=false:=by simpa using h
    rw[h']
    rw[iter_go (s':=((i+1:Nat):Int)) (by
     unfold rYfind_l0
     rw[if_pos (by simp;omega),idx_lt hil]
     simp only[Option.bind_some]
     rw[if_neg h,w64 (by omega) (by omega)];rfl)]
    exact ih (i+1) (by omega)
 unfold rYfind
 have:=key l.length 0 (by omega)
 rw[List.drop_zero] at this
 have h0:iter (rYfind_l0 l id) 0=_:=this
 rw[h0]
 cases l.find? (fun o=>o.ID==id) <;> rfl
theorem rkind_eq {a0:zR} (hl:a0.Objects.length≤1000000) (id:Int):rYkind a0 id=some (kindM (objM a0.Objects) id):=by
 unfold rYkind kindM
 rw[rfind_eq hl,mget_objM]
 cases a0.Objects.find? (fun o=>o.ID==id) <;> rfl
theorem rnamed_eq {a0:zR} (hl:a0.Objects.length≤1000000) {o:zO} (h1:o.Items.length≤1000000) (h2:o.Parents.length≤1000000):rYnamed a0 o=some (hereB (objM a0.Objects) o):=by
 unfold rYnamed hereB
 rw[iter_allL o.Items (fun x=>kindM (objM a0.Objects) x.ID==1||kindM (objM a0.Objects) x.ID==2) false (fun i hi=>?_) ?_]
 ·by_cases hb:(o.Items.all fun x=>kindM (objM a0.Objects) x.ID==1||kindM (objM a0.Objects) x.ID==2)=true
  ·rw[if_pos hb,hb]
   simp only[Option.bind_some]
   rw[iter_allL o.Parents (fun p=>kindM (objM a0.Objects) p==3) false (fun i hi=>?_) ?_]
   ·by_cases hb2:(o.Parents.all fun p=>kindM (objM a0.Objects) p==3)=true
    ·rw[if_pos hb2,hb2]
     simp only[Option.bind_some,rkind_eq hl]
     cases o.Kind != 3 <;> simp
    ·rw[if_neg hb2]
     have:(o.Parents.all fun p=>kindM (objM a0.Objects) p==3)=false:=by simpa using hb2
     rw[this];rfl
   ·unfold rYnamed_l1
    rw[if_neg (by simp)]
   ·unfold rYnamed_l1
    rw[if_pos (by simp;omega),idx_lt hi,w64 (by omega) (by omega)]
    simp only[Option.bind_some,rkind_eq hl,bne]
    by_cases hq:kindM (objM a0.Objects) o.Parents[i]=3 <;> simp[hq]
  ·rw[if_neg hb]
   have:(o.Items.all fun x=>kindM (objM a0.Objects) x.ID==1||kindM (objM a0.Objects) x.ID==2)=false:=by simpa using hb
   rw[this];rfl
 ·unfold rYnamed_l0
  rw[if_neg (by simp)]
 ·unfold rYnamed_l0
  rw[if_pos (by simp;omega),idx_lt hi,w64 (by omega) (by omega)]
  simp only[Option.bind_some,rkind_eq hl,bne]
  by_cases hq:kindM (objM a0.Objects) o.Items[i].ID=1 <;> by_cases hq2:kindM (objM a0.Objects) o.Items[i].ID=2 <;> simp[hq,hq2]
theorem revents_eq {a0:zR} (hl:a0.Events.length≤1000000) (hf:∀e∈a0.Events,e.Name.size≤9223372036854775807):rYevents a0=some (if a0.Events.any wrongB=true then 1 else 0):=by
 unfold rYevents
 rw[iter_allL a0.Events (fun e=>!wrongB e) 1 (fun i hi=>?_) ?_]
 ·have e:(a0.Events.all fun e=>!wrongB e)= !a0.Events.any wrongB:=by rw[List.not_any_eq_all_not]
  rw[e]
  cases a0.Events.any wrongB <;> rfl
 ·unfold rYevents_l0
  rw[if_neg (by simp)]
 ·unfold rYevents_l0
  rw[if_pos (by simp;omega),idx_lt hi,w64 (by omega) (by omega)]
  simp only[Option.bind_some]
  rw[rname_eq (hf _ (List.getElem_mem hi))]
  unfold wrongB
  simp only[Option.bind_some,bne]
  by_cases k1:a0.Events[i].Kind=1
  ·cases nmB a0.Events[i].Name <;> simp[k1]
  ·by_cases k2:a0.Events[i].Kind=2
   ·by_cases hc:a0.Events[i].Commit=0 <;> cases nmB a0.Events[i].Name <;> simp[k2,hc]
   ·simp[k1,k2]
theorem runtimed_eq {l:List zE} (hl:l.length≤1000000):rYuntimed l=some (l.map fun e=>⟨e.Kind,e.Name,e.Commit,0⟩):=by
 unfold rYuntimed
 have:=iter_foldl (body:=rYuntimed_l0 l) l (fun s e=>s++[(⟨e.Kind,e.Name,e.Commit,0⟩:zE)]) (fun s=>s) (fun i s=>s.length=i) (fun i hi s hs=>⟨?_,by simp[hs]⟩) (fun s hs=>?_) [] rfl
 ·rw[this]
  have hfo:∀(l:List zE) (s:List zE),l.foldl (fun s e=>s++[(⟨e.Kind,e.Name,e.Commit,0⟩:zE)]) s=s++l.map fun e=>⟨e.Kind,e.Name,e.Commit,0⟩:=fun l=>by
   induction l with
   |nil=>intro s;simp
   |cons e l ih=>intro s;rw[List.foldl_cons,ih];simp
  rw[hfo];rfl
 ·unfold rYuntimed_l0
  rw[if_pos (by simp;omega),idx_lt hi]
  simp only[Option.bind_some]
  rw[ck_t (by simp;omega),w64 (by omega) (by omega)];rfl
 ·unfold rYuntimed_l0
  rw[if_neg (by simp)]
end Go.Vl
namespace Go.Vl
open Go
theorem rbelow_eq {o:zO} (h1:o.Items.length≤1000000) (h2:o.Parents.length≤1000000):rYbelow o=some (belowO o):=by
 unfold rYbelow belowO
 have:=iter_foldl (body:=rYbelow_l0 o) o.Items (fun s x=>s++[x.ID]) (fun s=>s) (fun i s=>s.length=i) (fun i hi s hs=>⟨?_,by simp[hs]⟩) (fun s hs=>?_) [] rfl
 ·rw[this]
  have hfo:∀(l:List zI) (s:List Int),l.foldl (fun s x=>s++[x.ID]) s=s++l.map (·.ID):=fun l=>by
   induction l with
   |nil=>intro s;simp
   |cons e l ih=>intro s;rw[List.foldl_cons,ih];simp
  rw[hfo,List.nil_append]
  simp only[Option.bind_some]
  by_cases hk:o.Kind=3
  ·rw[if_pos (by simp[hk]),ck_t (by simp;omega)]
   simp only[Option.bind_some]
   rw[ck_t (by simp;omega),if_pos hk]
   simp
  ·rw[if_neg (by simpa using hk),if_neg hk]
   simp
 ·unfold rYbelow_l0
  rw[if_pos (by simp;omega),idx_lt hi]
  simp only[Option.bind_some]
  rw[ck_t (by simp;omega),w64 (by omega) (by omega)];rfl
 ·unfold rYbelow_l0
  rw[if_neg (by simp)]
def isS (S:List (Int×Bool)) (id:Int):Bool:=(mget inE S id).getD false
theorem ready_eq {y:List Int} (hy:y.length≤3000000) (s4:Bool×Int×List (Int×Bool)) (b:Bool):iter (rYcyclic_l2 y s4) (b,0)=some (b&&y.all (isS s4.2.2)):=by
 have key:∀(m i:Nat),i+m=y.length→∀b:Bool,iter (rYcyclic_l2 y s4) (b,(i:Int))=some (b&&(y.drop i).all (isS s4.2.2)):=fun m=>by
  induction m with
  |zero=>
   intro i hi b
   have:i=y.length:=by omega
   subst this
   rw[List.drop_eq_nil_of_le (Nat.le_refl _)]
   refine iter_out ?_
   unfold rYcyclic_l2
   simp
  |succ m ih=>
   intro i hi b
   have hil:i < y.length:=by omega
   rw[List.drop_eq_getElem_cons hil,List.all_cons]
   cases b with
   |false=>
    refine iter_out ?_
    unfold rYcyclic_l2
    simp
   |true=>
    rw[iter_go (s':=(isS s4.2.2 y[i],((i+1:Nat):Int))) (by
     unfold rYcyclic_l2
     simp only[Option.bind_some]
     rw[if_pos (by simp;omega),idx_lt hil]
     simp only[Option.bind_some]
     rw[w64 (by omega) (by omega)];rfl),ih (i+1) (by omega)]
    cases isS s4.2.2 y[i] <;> simp
 have:=key y.length 0 (by omega) b
 rw[List.drop_zero] at this
 exact this
def setC (s:Bool×List (Int×Bool)) (o:zO):Bool×List (Int×Bool):=if(!isS s.2 o.ID&&(belowO o).all (isS s.2))=true then(true,mset inE s.2 o.ID true) else s
structure SzO (l:List zO):Prop where
 n:l.length≤1000000
 o:∀o∈l,o.Items.length≤1000000∧o.Parents.length≤1000000
theorem belowO_len {o:zO} (h:o.Items.length≤1000000∧o.Parents.length≤1000000):(belowO o).length≤3000000:=by
 unfold belowO
 rw[List.length_append,List.length_map]
 split
 ·rw[List.length_cons];omega
 ·simp;omega
theorem pass_eq {a0:zR} (hz:SzO a0.Objects) (s:Bool×List (Int×Bool)):iter (rYcyclic_l1 a0) (s.1,0,s.2)=some (a0.Objects.foldl setC s):=by
 have:=(iter_foldlS (body:=rYcyclic_l1 a0) a0.Objects (fun (i:Nat) (s:Bool×List (Int×Bool))=>(s.1,(i:Int),s.2)) setC (fun s=>s) (fun _ _=>True) (fun i hi s _=>⟨?_,trivial⟩) (fun s _=>?_) s trivial).1
 ·exact this
 ·have hn:=hz.n
  have ho:=hz.o _ (List.getElem_mem hi)
  unfold rYcyclic_l1
  simp only
  rw[if_pos (by simp;omega),idx_lt hi]
  simp only[Option.bind_some]
  rw[rbelow_eq ho.1 ho.2]
  simp only[Option.bind_some]
  rw[ready_eq (belowO_len ho)]
  simp only[Option.bind_some]
  rw[w64 (by omega) (by omega)]
  unfold setC
  have e:(!(mget inE s.2 a0.Objects[i].ID).getD false)= !isS s.2 a0.Objects[i].ID:=rfl
  rw[e]
  split <;> rfl
 ·unfold rYcyclic_l1
  rw[if_neg (by simp)]
structure InvC (l:List zO) (S:List (Int×Bool)):Prop where
 nd:(S.map (·.1)).Nodup
 tt:∀q∈S,q.2=true
 sub:∀x∈S.map (·.1),∃o∈l,o.ID=x
 no:∀G:Int→Prop,selfSup (objM l) G→∀x∈S.map (·.1),¬G x
theorem InvC.iff {l:List zO} {S:List (Int×Bool)} (h:InvC l S) {id:Int}:isS S id=true↔id∈S.map (·.1):=by
 unfold isS
 constructor
 ·intro hg
  cases hq:mget inE S id with
  |none=>rw[hq] at hg;cases hg
  |some v=>exact List.mem_map.2 ⟨_,mget_some inE_eq hq,rfl⟩
 ·intro hm
  obtain⟨q,hq,rfl⟩:=List.mem_map.1 hm
  rw[mget_of inE_eq h.nd (show (q.1,q.2)∈S from hq),h.tt q hq];rfl
theorem belowO_mem {o:zO} (hp:o.Kind≠3→o.Parents=[]) {j:Int}:j∈belowO o↔j∈namesO o:=by
 unfold belowO namesO
 by_cases hk:o.Kind=3
 ·rw[if_pos hk,if_pos hk]
  simp only[List.mem_append,List.mem_cons,List.not_mem_nil,or_false]
  constructor
  ·rintro(h |h |h)
   ·exact .inl (.inr h)
   ·exact .inr h
   ·exact .inl (.inl h)
  ·rintro((h |h) |h)
   ·exact .inr (.inr h)
   ·exact .inl h
   ·exact .inr (.inl h)
 ·rw[if_neg hk,if_neg hk,hp hk]
  simp
theorem InvC.set {l:List zO} {S:List (Int×Bool)} (h:InvC l S) {o:zO} (ho:o∈l) (hu:(l.map (·.ID)).Nodup) (hp:o.Kind≠3→o.Parents=[]) (hn:isS S o.ID=false) (ha:(belowO o).all (isS S)=true):InvC l (mset inE S o.ID true)∧(mset inE S o.ID true).length=S.length+1:=by
 have hm:o.ID∉S.map (·.1):=fun q=>by have:=h.iff.2 q;rw[hn] at this;cases this
 rw[(mset_keys inE_eq S o.ID true).2 hm]
 refine⟨⟨?_,fun q hq=>?_,fun x hx=>?_,fun G hG x hx=>?_⟩,by simp⟩
 ·rw[List.map_append]
  refine List.nodup_append.2 ⟨h.nd,by simp,fun a ha b hb=>?_⟩
  simp only[List.map_cons,List.map_nil,List.mem_singleton] at hb
  subst hb
  exact fun e=>hm (e▸ha)
 ·rcases List.mem_append.1 hq with hq |hq
  ·exact h.tt q hq
  ·rw[List.mem_singleton] at hq;subst hq;rfl
 ·rw[List.map_append,List.mem_append] at hx
  rcases hx with hx |hx
  ·exact h.sub x hx
  ·simp at hx;exact⟨o,ho,hx.symm⟩
 ·rw[List.map_append,List.mem_append] at hx
  rcases hx with hx |hx
  ·exact h.no G hG x hx
  ·simp at hx
   subst hx
   intro hg
   obtain⟨q',h1,h2,h3⟩:=hG (o.ID,o) (List.mem_map.2 ⟨o,ho,rfl⟩) hg
   have:=List.all_eq_true.1 ha _ ((belowO_mem hp).2 h2)
   exact h.no G hG _ (h.iff.1 this) h3
theorem pass_inv {l:List zO} (hu:(l.map (·.ID)).Nodup) (hp:∀o∈l,o.Kind≠3→o.Parents=[]):∀(k:List zO),(∀o∈k,o∈l)→∀(s:Bool×List (Int×Bool)),InvC l s.2→
  InvC l (k.foldl setC s).2∧s.2.length≤(k.foldl setC s).2.length∧((k.foldl setC s).1=true→s.1=true∨s.2.length < (k.foldl setC s).2.length)∧((k.foldl setC s).1=false→s.1=false∧(k.foldl setC s).2=s.2∧∀o∈k,isS s.2 o.ID=true∨∃j∈belowO o,isS s.2 j=false)
 |[],_,s,h=>⟨h,Nat.le_refl _,fun h=>.inl h,fun h=>⟨h,rfl,fun o ho=>by cases ho⟩⟩
 |o::k,hk,s,h=>by
  rw[List.foldl_cons]
  unfold setC
  by_cases hc:(!isS s.2 o.ID&&(belowO o).all (isS s.2))=true
  ·rw[if_pos hc]
   simp only[Bool.and_eq_true,Bool.not_eq_true'] at hc
   obtain⟨h1,h2⟩:=h.set (hk o (by simp)) hu (hp o (hk o (by simp))) hc.1 hc.2
   obtain⟨g1,g2,g3,g4⟩:=pass_inv hu hp k (fun x hx=>hk x (by simp[hx])) (true,mset inE s.2 o.ID true) h1
   have e:k.foldl setC (true,mset inE s.2 o.ID true)=k.foldl (fun s o=>if(!isS s.2 o.ID&&(belowO o).all (isS s.2))=true then(true,mset inE s.2 o.ID true) else s) (true,mset inE s.2 o.ID true):=rfl
   rw[← e]
   simp only at g2 g3 g4
   refine⟨g1,by omega,fun _=>.inr (by omega),fun hf=>?_⟩
   exact absurd (g4 hf).1 (by simp)
  ·rw[if_neg hc]
   obtain⟨g1,g2,g3,g4⟩:=pass_inv hu hp k (fun x hx=>hk x (by simp[hx])) s h
   have e:k.foldl setC s=k.foldl (fun s o=>if(!isS s.2 o.ID&&(belowO o).all (isS s.2))=true then(true,mset inE s.2 o.ID true) else s) s:=rfl
   rw[← e]
   refine⟨g1,g2,g3,fun hf=>?_⟩
   obtain⟨f1,f2,f3⟩:=g4 hf
   refine⟨f1,f2,fun x hx=>?_⟩
   rcases List.mem_cons.1 hx with rfl |hx
   ·simp only[Bool.and_eq_true,Bool.not_eq_true',not_and,Bool.not_eq_true] at hc
    cases hs:isS s.2 x.ID with
    |true=>exact .inl rfl
    |false=>
     right
     have:=hc hs
     rw[List.all_eq_false] at this
     obtain⟨j,hj,hjn⟩:=this
     exact⟨j,hj,by simpa using hjn⟩
   ·exact f3 x hx
theorem nodup_lenQ {α:Type}:∀{l m:List α},l.Nodup→l ⊆ m→l.length≤m.length
 |[],_,_,_=>Nat.zero_le _
 |x::l,m,h1,h2=>by
  rw[List.nodup_cons] at h1
  obtain⟨s,t,rfl⟩:=List.append_of_mem (h2 (List.mem_cons_self ..))
  have:l ⊆ s++t:=fun y hy=>by
   rcases List.mem_append.1 (h2 (List.mem_cons_of_mem _ hy)) with h |h
   ·exact List.mem_append_left _ h
   ·rcases List.mem_cons.1 h with rfl |h
    ·exact absurd hy h1.1
    ·exact List.mem_append_right _ h
  have:=nodup_lenQ h1.2 this
  simp only[List.length_append,List.length_cons] at this ⊢
  omega
theorem rcyc_eq {a0:zR} (hz:SzO a0.Objects) (hu:(a0.Objects.map (·.ID)).Nodup) (hp:∀o∈a0.Objects,o.Kind≠3→o.Parents=[]) (hx:∀o∈a0.Objects,∀j∈belowO o,∃p∈a0.Objects,p.ID=j):rYcyclic a0=some (cycB (objM a0.Objects)):=by
 have sub:∀S,InvC a0.Objects S→S.length≤a0.Objects.length:=fun S h=>by
  have h1:S.map (·.1) ⊆ a0.Objects.map (·.ID):=fun x hx=>by
   obtain⟨o,ho,rfl⟩:=h.sub x hx
   exact List.mem_map_of_mem ho
  have:=nodup_lenQ h.nd h1
  simpa using this
 have key:∀(m:Nat) (S:List (Int×Bool)),InvC a0.Objects S→a0.Objects.length - S.length≤m→∃S',iter (rYcyclic_l0 a0) (true,S)=some S'∧InvC a0.Objects S'∧∀o∈a0.Objects,isS S' o.ID=true∨∃j∈belowO o,isS S' j=false:=fun m=>by
  induction m with
  |zero=>
   intro S h hm
   obtain⟨g1,g2,g3,g4⟩:=pass_inv hu hp a0.Objects (fun o ho=>ho) (false,S) h
   have h1:=sub _ h
   have h2:=sub _ g1
   have hb:iter (rYcyclic_l0 a0) (true,S)=iter (rYcyclic_l0 a0) (a0.Objects.foldl setC (false,S)):=iter_go (by
    unfold rYcyclic_l0
    rw[if_pos rfl]
    have:=pass_eq hz (false,S)
    simp only at this ⊢
    rw[this];rfl)
   cases hf:(a0.Objects.foldl setC (false,S)).1 with
   |true=>
    rcases g3 hf with h3 |h3
    ·cases h3
    ·simp only at h3;omega
   |false=>
    obtain⟨_,f2,f3⟩:=g4 hf
    refine⟨S,?_,h,f3⟩
    rw[hb]
    refine iter_out ?_
    unfold rYcyclic_l0
    rw[hf,if_neg (by decide),f2]
  |succ m ih=>
   intro S h hm
   obtain⟨g1,g2,g3,g4⟩:=pass_inv hu hp a0.Objects (fun o ho=>ho) (false,S) h
   have hb:iter (rYcyclic_l0 a0) (true,S)=iter (rYcyclic_l0 a0) (a0.Objects.foldl setC (false,S)):=iter_go (by
    unfold rYcyclic_l0
    rw[if_pos rfl]
    have:=pass_eq hz (false,S)
    simp only at this ⊢
    rw[this];rfl)
   cases hf:(a0.Objects.foldl setC (false,S)).1 with
   |true=>
    rcases g3 hf with h3 |h3
    ·cases h3
    ·simp only at h3
     obtain⟨S',e1,e2⟩:=ih (a0.Objects.foldl setC (false,S)).2 g1 (by omega)
     refine⟨S',?_,e2⟩
     rw[hb,show a0.Objects.foldl setC (false,S)=(true,(a0.Objects.foldl setC (false,S)).2) from Prod.ext hf rfl]
     exact e1
   |false=>
    obtain⟨_,f2,f3⟩:=g4 hf
    refine⟨S,?_,h,f3⟩
    rw[hb]
    refine iter_out ?_
    unfold rYcyclic_l0
    rw[hf,if_neg (by decide),f2]
 obtain⟨S,e,h,hfin⟩:=key a0.Objects.length [] ⟨by simp,(fun q hq=>by cases hq),(fun x hx=>by simp at hx),(fun G _ x hx=>by simp at hx)⟩ (by simp)
 unfold rYcyclic
 rw[e]
 simp only[Option.bind_some,Option.some.injEq]
 have hnd:((objM a0.Objects).map (·.1)).Nodup:=by rw[objM_keys];exact hu
 rw[← core_iff hnd (m:=(objM a0.Objects).filter fun q=>!isS S q.1) List.filter_sublist (fun G hG q hq hg=>?_) (fun q hq=>?_)]
 ·congr 1
  have h1:((objM a0.Objects).filter fun q=>!isS S q.1).length+((objM a0.Objects).filter fun q=>isS S q.1).length=a0.Objects.length:=by
   have hl:(objM a0.Objects).length=a0.Objects.length:=by simp[objM]
   rw[← hl]
   generalize objM a0.Objects=L
   induction L with
   |nil=>rfl
   |cons x L ih=>
    rw[List.filter_cons,List.filter_cons,List.length_cons]
    cases isS S x.1 <;> simp <;> omega
  have h2:(((objM a0.Objects).filter fun q=>isS S q.1).map (·.1)).Perm (S.map (·.1)):=by
   refine(List.perm_ext_iff_of_nodup (hnd.sublist (List.filter_sublist.map _)) h.nd).2 fun x=>?_
   constructor
   ·intro hx
    obtain⟨q,hq,rfl⟩:=List.mem_map.1 hx
    exact h.iff.1 (List.mem_filter.1 hq).2
   ·intro hx
    obtain⟨o,ho,rfl⟩:=h.sub x hx
    exact List.mem_map.2 ⟨(o.ID,o),List.mem_filter.2 ⟨List.mem_map.2 ⟨o,ho,rfl⟩,h.iff.2 hx⟩,rfl⟩
  have h3:=h2.length_eq
  rw[List.length_map,List.length_map] at h3
  simp only[eq_iff_iff]
  omega
 ·refine List.mem_filter.2 ⟨hq,?_⟩
  cases hs:isS S q.1 with
  |false=>rfl
  |true=>exact absurd hg (h.no G hG _ (h.iff.1 hs))
 ·obtain⟨hq,hs⟩:=List.mem_filter.1 hq
  obtain⟨o,ho,rfl⟩:=List.mem_map.1 hq
  simp only[Bool.not_eq_true'] at hs
  rcases hfin o ho with h1 |⟨j,hj,h1⟩
  ·rw[hs] at h1;cases h1
  ·obtain⟨p,hp1,hp2⟩:=hx o ho j hj
   refine keepB_iff.2 ⟨(p.ID,p),List.mem_filter.2 ⟨List.mem_map.2 ⟨p,hp1,rfl⟩,by rw[hp2,h1];rfl⟩,?_⟩
   rw[hp2]
   exact(belowO_mem (hp o ho)).1 hj
end Go.Vl
