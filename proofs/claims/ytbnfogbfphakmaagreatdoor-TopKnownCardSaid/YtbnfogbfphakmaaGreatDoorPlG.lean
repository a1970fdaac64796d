/- Plain laws: small numbers, indices, sorted lists. Conditions: none. -/
import Derived.Test.YtbnfogbfphakmaaGreatDoorVmV
set_option linter.unusedSimpArgs false
set_option linter.unusedVariables false
namespace Go.Vl
open Go
theorem w64 {x:Int} (h1: -9223372036854775808≤x) (h2:x≤9223372036854775807):IntKind.i64.wrap x=x:=wrapI h1 h2
theorem idx_lt {α:Type} {l:List α} {i:Nat} (h:i < l.length):idx l (i:Int)=some l[i]:=by rw[idx_nat,List.getElem?_eq_getElem h]
theorem idx_toNat {α:Type} {l:List α} {i:Int} (h0:0≤i) (h:i.toNat < l.length):idx l i=some l[i.toNat]:=by
 unfold idx;rw[if_pos h0,List.getElem?_eq_getElem h]
end Go.Vl
namespace Go.Vl
open Go
end Go.Vl
namespace Go.Vl
open Go
def fitB {α:Type} (p:Int→α→Bool) (t:α→Int):Int→List α→Bool
 |_,[]=>true
 |last,x::l=>p last x&&fitB p t (t x) l
theorem chain_loop {α ε:Type} {body:Int×Int→Option (Lp (Int×Int) (Unit ⊕ ε))} (l:List α) (p:Int→α→Bool) (t:α→Int) (e:ε)
  (hgo:∀(i:Nat) (h:i < l.length) (last:Int),body (last,(i:Int))=some (if p last l[i]=true then .go (t l[i],((i+1:Nat):Int)) else .out (.inr e)))
  (hend:∀last,body (last,(l.length:Int))=some (.out (.inl ()))) (last:Int):iter body (last,0)=some (if fitB p t last l=true then .inl () else .inr e):=by
 have key:∀(m i:Nat) (last:Int),i+m=l.length→iter body (last,(i:Int))=some (if fitB p t last (l.drop i)=true then .inl () else .inr e):=fun m=>by
  induction m with
  |zero=>
   intro i last h
   have:i=l.length:=by omega
   subst this
   rw[List.drop_length]
   exact iter_out (hend last)
  |succ m ih=>
   intro i last h
   have hi:i < l.length:=by omega
   rw[List.drop_eq_getElem_cons hi,fitB]
   have h1:=hgo i hi last
   cases hp:p last l[i] with
   |true=>rw[hp,if_pos rfl] at h1;rw[iter_go h1,ih (i+1) _ (by omega)];simp
   |false=>rw[hp,if_neg (by decide)] at h1;rw[iter_out h1];simp
 simpa using key l.length 0 last (by omega)
theorem iter_foldlS {α σ σ' ε:Type} {body:σ'→Option (Lp σ' ε)} (l:List α) (S:Nat→σ→σ') (f:σ→α→σ) (fin:σ→ε) (Inv:Nat→σ→Prop)
  (hgo:∀(i:Nat) (h:i < l.length) (s:σ),Inv i s→body (S i s)=some (.go (S (i+1) (f s l[i])))∧Inv (i+1) (f s l[i]))
  (hend:∀s,Inv l.length s→body (S l.length s)=some (.out (fin s))) (s0:σ) (h0:Inv 0 s0):iter body (S 0 s0)=some (fin (l.foldl f s0))∧Inv l.length (l.foldl f s0):=by
 have key:∀(m i:Nat) (s:σ),i+m=l.length→Inv i s→iter body (S i s)=some (fin ((l.drop i).foldl f s))∧Inv l.length ((l.drop i).foldl f s):=fun m=>by
  induction m with
  |zero=>
   intro i s h hi
   have:i=l.length:=by omega
   subst this
   rw[List.drop_length]
   exact⟨iter_out (hend s hi),hi⟩
  |succ m ih=>
   intro i s h hi
   have hl:i < l.length:=by omega
   obtain⟨h1,h2⟩:=hgo i hl s hi
   rw[iter_go h1,List.drop_eq_getElem_cons hl,List.foldl_cons]
   exact ih (i+1) _ (by omega) h2
 simpa using key l.length 0 s0 (by omega) h0
theorem iter_findS {α ε:Type} {body:Int→Option (Lp Int ε)} (l:List α) (p:α→Bool) (A:Nat→α→ε) (B:ε)
  (hgo:∀(i:Nat) (h:i < l.length),body (i:Int)=some (if p l[i]=true then .out (A i l[i]) else .go (((i+1:Nat):Int))))
  (hend:body (l.length:Int)=some (.out B)):(l.any p=false→iter body 0=some B)∧(l.any p=true→∃(i:Nat) (h:i < l.length),p l[i]=true∧iter body 0=some (A i l[i])):=by
 have key:∀(m i:Nat),i+m=l.length→((l.drop i).any p=false→iter body (i:Int)=some B)∧((l.drop i).any p=true→∃(k:Nat) (h:k < l.length),p l[k]=true∧iter body (i:Int)=some (A k l[k])):=fun m=>by
  induction m with
  |zero=>
   intro i h
   have:i=l.length:=by omega
   subst this
   rw[List.drop_length]
   exact⟨fun _=>iter_out hend,fun h=>by simp at h⟩
  |succ m ih=>
   intro i h
   have hi:i < l.length:=by omega
   rw[List.drop_eq_getElem_cons hi,List.any_cons]
   have h1:=hgo i hi
   cases hp:p l[i] with
   |true=>
    rw[hp,if_pos rfl] at h1
    exact⟨fun h=>by simp at h,fun _=>⟨i,hi,hp,iter_out h1⟩⟩
   |false=>
    rw[hp,if_neg (by decide)] at h1
    rw[iter_go h1]
    simpa using ih (i+1) (by omega)
 simpa using key l.length 0 (by omega)
theorem fit_mem {α:Type} {p:Int→α→Bool} {t:α→Int}:∀{l:List α} {last:Int},fitB p t last l=true→∀x∈l,∃a,p a x=true
 |[],_,_,x,hx=>by cases hx
 |y::l,last,h,x,hx=>by
  simp only[fitB,Bool.and_eq_true] at h
  rcases List.mem_cons.1 hx with rfl |hx
  ·exact⟨_,h.1⟩
  ·exact fit_mem h.2 x hx
end Go.Vl
namespace Go.Vl
open Go
section
variable {κ ν:Type} {e:κ→κ→Bool}
theorem mget_cons (q:κ×ν) (l:List (κ×ν)) (x:κ):mget e (q::l) x=if e x q.1=true then some q.2 else mget e l x:=by
 unfold mget
 rw[mfind]
 split
 ·rfl
 ·cases mfind e x l <;> rfl
theorem mset_cons (q:κ×ν) (l:List (κ×ν)) (x:κ) (v:ν):mset e (q::l) x v=if e x q.1=true then(x,v)::l else q::mset e l x v:=by
 unfold mset
 rw[mfind]
 by_cases h:e x q.1=true
 ·rw[if_pos h,if_pos h];rfl
 ·rw[if_neg h,if_neg h]
  cases mfind e x l <;> rfl
theorem mdel_cons (q:κ×ν) (l:List (κ×ν)) (x:κ):mdel e (q::l) x=if e x q.1=true then l else q::mdel e l x:=by
 unfold mdel
 rw[mfind]
 by_cases h:e x q.1=true
 ·rw[if_pos h,if_pos h];rfl
 ·rw[if_neg h,if_neg h]
  cases mfind e x l <;> rfl
variable (he:∀a b,e a b=true↔a=b)
include he
theorem mget_mset:∀(l:List (κ×ν)) (x:κ) (v:ν) (c:κ),(c=x→mget e (mset e l x v) c=some v)∧(c≠x→mget e (mset e l x v) c=mget e l c)
 |[],x,v,c=>by
  rw[mset_nil,mget_cons]
  refine⟨fun h=>by rw[if_pos ((he c x).2 h)],fun h=>by rw[if_neg fun h2=>h ((he c x).1 h2)]⟩
 |q::l,x,v,c=>by
  rw[mset_cons]
  obtain⟨i1,i2⟩:=mget_mset l x v c
  by_cases h:e x q.1=true
  ·rw[if_pos h]
   have:=(he x q.1).1 h
   refine⟨fun h2=>?_,fun h2=>?_⟩
   ·rw[mget_cons,if_pos ((he c x).2 h2)]
   ·rw[mget_cons,mget_cons,if_neg fun h3=>h2 ((he c x).1 h3),if_neg fun h3=>h2 (((he c q.1).1 h3).trans this.symm)]
  ·rw[if_neg h]
   refine⟨fun h2=>?_,fun h2=>?_⟩
   ·subst h2
    rw[mget_cons,if_neg h];exact i1 rfl
   ·rw[mget_cons,mget_cons,i2 h2]
theorem mget_mem:∀{l:List (κ×ν)} {x:κ},(mget e l x).isSome=true↔x∈l.map (·.1)
 |[],x=>by simp[mget_nil]
 |q::l,x=>by
  rw[mget_cons,List.map_cons,List.mem_cons,←mget_mem]
  by_cases h:e x q.1=true
  ·rw[if_pos h];simp[(he x q.1).1 h]
  ·rw[if_neg h]
   have:x≠q.1:=fun h2=>h ((he x q.1).2 h2)
   simp[this]
theorem mset_keys:∀(l:List (κ×ν)) (x:κ) (v:ν),(x∈l.map (·.1)→(mset e l x v).map (·.1)=l.map (·.1))∧(x∉l.map (·.1)→mset e l x v=l++[(x,v)])
 |[],x,v=>⟨fun h=>by simp at h,fun _=>rfl⟩
 |q::l,x,v=>by
  rw[mset_cons]
  obtain⟨i1,i2⟩:=mset_keys l x v
  by_cases h:e x q.1=true
  ·rw[if_pos h]
   have:=(he x q.1).1 h
   exact⟨fun _=>by simp[this],fun h2=>absurd (by simp[this]) h2⟩
  ·rw[if_neg h]
   have hne:x≠q.1:=fun h2=>h ((he x q.1).2 h2)
   refine⟨fun h2=>?_,fun h2=>?_⟩
   ·rw[List.map_cons,List.map_cons,i1 (by simpa[hne] using h2)]
   ·rw[List.cons_append,i2 (by simpa[hne] using h2)]
theorem mset_nodup {l:List (κ×ν)} (hn:(l.map (·.1)).Nodup) (x:κ) (v:ν):((mset e l x v).map (·.1)).Nodup:=by
 obtain⟨h1,h2⟩:=mset_keys he l x v
 by_cases h:x∈l.map (·.1)
 ·rw[h1 h];exact hn
 ·rw[h2 h,List.map_append,List.nodup_append]
  exact⟨hn,by simp,fun a ha b hb=>by simp at hb;subst hb;exact fun e=>h (e▸ha)⟩
omit he in
theorem mdel_sub:∀(l:List (κ×ν)) (x:κ),(mdel e l x).Sublist l
 |[],x=>List.Sublist.refl _
 |q::l,x=>by
  rw[mdel_cons]
  split
  ·exact List.sublist_cons_self _ _
  ·exact(mdel_sub l x).cons_cons _
omit he in
theorem mdel_nodup {l:List (κ×ν)} (hn:(l.map (·.1)).Nodup) (x:κ):((mdel e l x).map (·.1)).Nodup:=hn.sublist ((mdel_sub l x).map _)
theorem mget_mdel:∀{l:List (κ×ν)},(l.map (·.1)).Nodup→∀(x c:κ),(c=x→mget e (mdel e l x) c=none)∧(c≠x→mget e (mdel e l x) c=mget e l c)
 |[],_,x,c=>by rw[mdel_nil];exact⟨fun _=>rfl,fun _=>rfl⟩
 |q::l,hn,x,c=>by
  rw[List.map_cons,List.nodup_cons] at hn
  rw[mdel_cons]
  obtain⟨i1,i2⟩:=mget_mdel hn.2 x c
  by_cases h:e x q.1=true
  ·rw[if_pos h]
   have hx:=(he x q.1).1 h
   refine⟨fun h2=>?_,fun h2=>?_⟩
   ·subst h2
    cases hg:mget e l c with
    |none=>rfl
    |some v=>exact absurd ((mget_mem he).1 (by rw[hg];rfl)) (hx▸hn.1)
   ·rw[mget_cons,if_neg fun h3=>h2 (((he c q.1).1 h3).trans hx.symm)]
  ·rw[if_neg h]
   refine⟨fun h2=>?_,fun h2=>?_⟩
   ·subst h2
    rw[mget_cons,if_neg h];exact i1 rfl
   ·rw[mget_cons,mget_cons,i2 h2]
end
theorem inE_eq (a b:Int):inE a b=true↔a=b:=by unfold inE;exact beq_iff_eq
end Go.Vl
