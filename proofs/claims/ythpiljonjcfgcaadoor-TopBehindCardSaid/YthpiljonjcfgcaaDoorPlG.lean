/- Plain laws: small numbers, indices, sorted lists. Conditions: none. -/
import Derived.Test.YthpiljonjcfgcaaDoorVmV
set_option linter.unusedSimpArgs false
set_option linter.unusedVariables false
namespace Go.Vl
open Go
theorem w64 {x:Int} (h1: -9223372036854775808≤x) (h2:x≤9223372036854775807):IntKind.i64.wrap x=x:=wrapI h1 h2
theorem idx_lt {α:Type} {l:List α} {i:Nat} (h:i < l.length):idx l (i:Int)=some l[i]:=by rw[idx_nat,List.getElem?_eq_getElem h]
theorem idx_toNat {α:Type} {l:List α} {i:Int} (h0:0≤i) (h:i.toNat < l.length):idx l i=some l[i.toNat]:=by
 unfold idx;rw[if_pos h0,List.getElem?_eq_getElem h]
theorem sorted_split {l:List Int} (hs:l.Pairwise (· < ·)) {i j:Nat} (hij:i < j) (hj:j < l.length):l[i] < l[j]:=
 List.pairwise_iff_getElem.1 hs i j (by omega) hj hij
end Go.Vl
namespace Go.Vl
open Go
theorem iter_all {body:Int→Option (Lp Int (Unit ⊕ Bool))} (n:Nat) (p:Nat→Bool) (hgo:∀i,i < n→body (i:Int)=some (if p i=true then .go ((i+1:Nat):Int) else .out (.inr false)))
  (hend:body (n:Int)=some (.out (.inl ()))):iter body 0=some (if (∀i,i < n→p i=true) then .inl () else .inr false):=by
 have key:∀(m i:Nat),i+m=n→((∀j,i≤j→j < n→p j=true)→iter body (i:Int)=some (.inl ()))∧((∃j,i≤j∧j < n∧p j=false)→iter body (i:Int)=some (.inr false)):=fun m=>by
  induction m with
  |zero=>
   intro i h
   have:i=n:=by omega
   subst this
   exact⟨fun _=>iter_out hend,fun ⟨j,h1,h2,_⟩=>by omega⟩
  |succ m ih=>
   intro i h
   have h1:=hgo i (by omega)
   obtain⟨i1,i2⟩:=ih (i+1) (by omega)
   by_cases hp:p i=true
   ·rw[if_pos hp] at h1
    rw[iter_go h1]
    refine⟨fun h2=>i1 fun j h3 h4=>h2 j (by omega) h4,fun ⟨j,h3,h4,h5⟩=>i2 ⟨j,?_,h4,h5⟩⟩
    rcases Nat.lt_or_eq_of_le h3 with h6 |h6
    ·exact h6
    ·subst h6;rw[hp] at h5;cases h5
   ·rw[if_neg hp] at h1
    rw[iter_out h1]
    exact⟨fun h2=>absurd (h2 i (Nat.le_refl i) (by omega)) hp,fun _=>rfl⟩
 obtain⟨k1,k2⟩:=key n 0 (by omega)
 by_cases h:∀i,i < n→p i=true
 ·rw[if_pos h];exact k1 fun j _=>h j
 ·rw[if_neg h]
  refine k2 ?_
  refine Classical.byContradiction fun hn=>h fun i hi=>?_
  cases hp:p i with
  |true=>rfl
  |false=>exact absurd ⟨i,Nat.zero_le i,hi,hp⟩ hn
theorem iter_foldl {α σ ε:Type} {body:Int×σ→Option (Lp (Int×σ) ε)} (l:List α) (f:σ→α→σ) (fin:σ→ε) (Inv:Nat→σ→Prop)
  (hgo:∀(i:Nat) (h:i < l.length) (s:σ),Inv i s→body ((i:Int),s)=some (.go (((i+1:Nat):Int),f s l[i]))∧Inv (i+1) (f s l[i]))
  (hend:∀s,Inv l.length s→body ((l.length:Int),s)=some (.out (fin s))) (s0:σ) (h0:Inv 0 s0):iter body (0,s0)=some (fin (l.foldl f s0)):=by
 have key:∀(m i:Nat) (s:σ),i+m=l.length→Inv i s→iter body ((i:Int),s)=some (fin ((l.drop i).foldl f s)):=fun m=>by
  induction m with
  |zero=>
   intro i s h hi
   have:i=l.length:=by omega
   subst this
   rw[iter_out (hend s hi)];simp
  |succ m ih=>
   intro i s h hi
   obtain⟨h1,h2⟩:=hgo i (by omega) s hi
   rw[iter_go h1,ih (i+1) _ (by omega) h2,List.drop_eq_getElem_cons (show i < l.length by omega)]
   rfl
 have:=key l.length 0 s0 (by omega) h0
 simpa using this
end Go.Vl
namespace Go.Vl
open Go
theorem iter_findS {α ε:Type} {body:Int→Option (Lp Int ε)} (l:List α) (p:α→Bool) (A:Nat→α→ε) (B:ε)
  (hgo:∀(i:Nat) (h:i < l.length),body (i:Int)=some (if p l[i]=true then .out (A i l[i]) else .go (((i+1:Nat):Int))))
  (hend:body (l.length:Int)=some (.out B)):(l.any p=false→iter body 0=some B)∧(l.any p=true→∃(i:Nat) (h:i < l.length),p l[i]=true∧iter body 0=some (A i l[i])):=by
 have key:∀(m i:Nat),i+m=l.length→((l.drop i).any p=false→iter body (i:Int)=some B)∧((l.drop i).any p=true→∃(k:Nat) (h:k < l.length),p l[k]=true∧iter body (i:Int)=some (A k l[k])):=fun m=>by
  induction m with
  |zero=>
   intro i h
   have:i=l.length:=by omega
   subst this
   rw[List.drop_length]
   exact⟨fun _=>iter_out hend,fun h=>by simp at h⟩
  |succ m ih=>
   intro i h
   have hi:i < l.length:=by omega
   rw[List.drop_eq_getElem_cons hi,List.any_cons]
   have h1:=hgo i hi
   cases hp:p l[i] with
   |true=>
    rw[hp,if_pos rfl] at h1
    exact⟨fun h=>by simp at h,fun _=>⟨i,hi,hp,iter_out h1⟩⟩
   |false=>
    rw[hp,if_neg (by decide)] at h1
    rw[iter_go h1]
    simpa using ih (i+1) (by omega)
 simpa using key l.length 0 (by omega)
end Go.Vl
namespace Go.Vl
open Go
section
variable {κ ν:Type} {e:κ→κ→Bool}
theorem mget_cons (q:κ×ν) (l:List (κ×ν)) (x:κ):mget e (q::l) x=if e x q.1=true then some q.2 else mget e l x:=by
 unfold mget
 rw[mfind]
 split
 ·rfl
 ·cases mfind e x l <;> rfl
theorem mset_cons (q:κ×ν) (l:List (κ×ν)) (x:κ) (v:ν):mset e (q::l) x v=if e x q.1=true then(x,v)::l else q::mset e l x v:=by
 unfold mset
 rw[mfind]
 by_cases h:e x q.1=true
 ·rw[if_pos h,if_pos h];rfl
 ·rw[if_neg h,if_neg h]
  cases mfind e x l <;> rfl
variable (he:∀a b,e a b=true↔a=b)
include he
theorem mget_mem:∀{l:List (κ×ν)} {x:κ},(mget e l x).isSome=true↔x∈l.map (·.1)
 |[],x=>by simp[mget_nil]
 |q::l,x=>by
  rw[mget_cons,List.map_cons,List.mem_cons,←mget_mem]
  by_cases h:e x q.1=true
  ·rw[if_pos h];simp[(he x q.1).1 h]
  ·rw[if_neg h]
   have:x≠q.1:=fun h2=>h ((he x q.1).2 h2)
   simp[this]
theorem mget_some {l:List (κ×ν)} {x:κ} {v:ν} (h:mget e l x=some v):(x,v)∈l:=by
 induction l with
 |nil=>cases h
 |cons q l ih=>
  rw[mget_cons] at h
  split at h
  ·rename_i h2
   have:=(he x q.1).1 h2
   cases h
   subst this
   exact List.mem_cons_self ..
  ·exact List.mem_cons_of_mem _ (ih h)
theorem mset_keys:∀(l:List (κ×ν)) (x:κ) (v:ν),(x∈l.map (·.1)→(mset e l x v).map (·.1)=l.map (·.1))∧(x∉l.map (·.1)→mset e l x v=l++[(x,v)])
 |[],x,v=>⟨fun h=>by simp at h,fun _=>rfl⟩
 |q::l,x,v=>by
  rw[mset_cons]
  obtain⟨i1,i2⟩:=mset_keys l x v
  by_cases h:e x q.1=true
  ·rw[if_pos h]
   have:=(he x q.1).1 h
   exact⟨fun _=>by simp[this],fun h2=>absurd (by simp[this]) h2⟩
  ·rw[if_neg h]
   have hne:x≠q.1:=fun h2=>h ((he x q.1).2 h2)
   refine⟨fun h2=>?_,fun h2=>?_⟩
   ·rw[List.map_cons,List.map_cons,i1 (by simpa[hne] using h2)]
   ·rw[List.cons_append,i2 (by simpa[hne] using h2)]
end
theorem inE_eq (a b:Int):inE a b=true↔a=b:=by unfold inE;exact beq_iff_eq
end Go.Vl
