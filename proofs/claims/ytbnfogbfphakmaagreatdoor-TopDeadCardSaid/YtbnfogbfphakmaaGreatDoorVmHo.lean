/- The value logic: regions that draw their order, by hand: what may be taken first, and what that leaves alone. Conditions: none. -/
import Derived.Test.YtbnfogbfphakmaaGreatDoorVmQq
set_option linter.unusedSimpArgs false
set_option linter.unusedVariables false
namespace Go.Vl
open Go Go.RowKit
section
attribute [local irreducible] VS.kz VS.va VS.ka tkz tka tva ES
variable {P:Program} {K:Ctx P} {st:St} {a:Act} {w:World} {p:Pl}
theorem Jp {d:Option Nat} {t:Nat} {u:Value} (h:d≠some t):(a.put d u).eval (.tmp t)=a.eval (.tmp t):=by
 cases d with
 |none=>rfl
 |some k=>
  have hk:k≠t:=fun e=>h (by rw[e])
  simp[Act.put,Act.eval,Array.getElem?_setIfInBounds_ne hk]
theorem IE {ops:Array Oper} {F:Exit→Act→World→Prop} {S:World→Prop} (T:List Nat) (hs:Region.noSelect ops=true) (hF:∀c a w,¬F (.panic c) a w) (hS:∀w',S w'→Agree K p w w') (hS0:S w) {n:Nat} {st1:St}:∀(is:List Nat) (listed:Array Bool) (st:St) (a:Act),takeB ops is listed=true→
  (∀i∈is,∀o,ops[i]? =some o→∀t∈T,o.dst≠some t)→Rel K st a w p→Cv P ops is st=some st1→(∀a1,Rel K st1 a1 w p→(∀t∈T,a1.eval (.tmp t)=a.eval (.tmp t))→wpAnyH P .any ops F S n (Eg is listed) a1 w)→wpAnyH P .any ops F S (is.length+n) listed a w
 |[],listed,st,a,_,_,R,h,H=>by
  simp[Cv] at h;subst h
  simpa[Eg] using H a R (fun _ _=>rfl)
 |i::is,listed,st,a,ht,hT,R,h,H=>by
  simp only[takeB,Bool.and_eq_true] at ht
  obtain⟨⟨hr,hf⟩,ht'⟩:=ht
  simp only[Cv] at h
  cases h0:ops[i]? with
  |none=>simp[h0] at h
  |some o=>
   simp only[h0,Option.bind_some] at h
   split at h
   case isFalse=>cases h
   rename_i hst
   cases hv:EY P st o with
   |none=>simp[hv] at h
   |some st2=>
    simp only[hv,Option.bind_some] at h
    unfold EY at hv
    cases hx:vstep P st o with
    |none=>simp[hx] at hv
    |some x=>
     simp only[hx,Option.bind_some] at hv
     obtain⟨v,g1,g2⟩:=IC R hst.2 hx
     rw[List.length_cons,show is.length+1+n=(is.length+n)+1 by omega]
     exact wpAnyH_take h0 hs hf hr (fun c a w q=>absurd q (hF c _ w)) (.inl ⟨A9 R hst.1,fun w' hw'=>g1 w' (hS w' hw')⟩) hS0
      (IE T hs hF hS hS0 is _ st2 _ ht' (fun j hj=>hT j (List.mem_cons_of_mem _ hj)) (R.puto g2 hv) h fun a1 R1 hk=>H a1 R1 fun t ht2=>(hk t ht2).trans (Jp (hT i (List.mem_cons_self ..) o h0 t ht2)))
end
end Go.Vl
