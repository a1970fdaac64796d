/- The value logic: regions that draw their order, by hand: what may be taken first, and what that leaves alone. Conditions: none. -/
import Derived.Test.YtjnflahicimmlaaGreatDoorVmQq
set_option linter.unusedSimpArgs false
set_option linter.unusedVariables false
namespace Go.Vl
open Go Go.RowKit
section
attribute [local irreducible] VS.kz VS.va VS.ka LC WH WG bL
variable {P:Program} {K:Ctx P} {st:St} {a:Act} {w:World} {p:Pl}
theorem fI {d:Option Nat} {t:Nat} {u:Value} (h:d≠some t):(a.put d u).eval (.tmp t)=a.eval (.tmp t):=by
 cases d with
 |none=>rfl
 |some k=>
  have hk:k≠t:=λe=>h (by rw[e])
  simp[Act.put,Act.eval,gu hk]
theorem MC (R:Rel K st a w p) {o:Oper} {t kt et:TypeId} {x k:Operand} {e z:Nat} {rows:List (List D)} {v:AV} (ho:o.op=.lookup t x k false) (hu:P.underlying t=some (.map kt et)) (hx:ca st x=.d (.mp e z rows)) (hl:rT P st t (ca st x) (ca st k) false=some v):
  ∃u,(∀w':World,(∀g,dx K w p g→w'.heap[g]? =w.heap[g]?)→(execOp a.eval o).run P w'=.ok (.value u) w')∧RA w (dx K w p) p v u:=by
 unfold rT at hl;rw[hu,hx] at hl;simp only at hl;split at hl
 case isFalse=>cases hl
 rename_i sC;have h1:=R.ca x;rw[hx] at h1;generalize hv:a.eval x=u0 at h1;cases h1 with
 |d h1=>
  obtain⟨b,es,clock,rfl,e3,px,_,e4⟩:=h1.zR;have hm:∀w':World,(∀g,dx K w p g→w'.heap[g]? =w.heap[g]?)→w'.heap[b]? =some (.map es clock):=λw' h=>(h b px).trans e3
  have Xo:∀w':World,(∀g,dx K w p g→w'.heap[g]? =w.heap[g]?)→RA w' (dx K w p) p (ca st k) (a.eval k):=λw' h=>(R.ca k).mono (λq hq=>cT (h _ hq)) (λ_ h=>h) (λ_ h=>⟨h,rfl⟩) (λ_ h=>⟨h,rfl⟩)
  have hmr:∀w':World,(∀g,dx K w p g→w'.heap[g]? =w.heap[g]?)→jd w' (dx K w p) ⟨e,z,rows⟩ es clock:=λw' h=>e4.mono (λq hq=>cT (h _ hq)) λ_ h=>h
  cases hf:lW P kt (VS.mk e z rows).ka (VS.mk e z rows).kz (ca st k) rows with
  |none=>rw[hf,Option.bind_none] at hl;cases hl
  |some q=>
   simp only[hf,aa,vH] at hl;cases q with
   |none=>
    simp only[aP] at hl;obtain⟨zz,hz,hl⟩:=hl;simp only[bz,cS] at hl;subst hl;have LF:=hz;unfold zeroV at hz;cases hi:P.info? et with
    |none=>simp[hi] at hz
    |some i=>
     cases Jf:i.zero with
     |none=>simp[hi,Jf] at hz
     |some zv=>
      refine⟨zv,λw' h=>?_,?_⟩
      ·obtain⟨r,f1,f2⟩:=lk sC (Xo w' h) (hmr w' h).key.1 (hmr w' h).key.2 hf
       have hr:r=none:=f2;subst hr;have z1:(zeroValue et).run P w'=.ok zv w':=by simp[zeroValue,typeInfo,hi,Jf]
       have tv:=mj sC (Xo w' h) es.isEmpty;have:(Instr.lookup t (.map (some b)) (a.eval k) false).run P w'=.ok zv w':=by
        simp[Instr.lookup,aJ hu,Result.andThen,cI (hm w' h),tv,f1,z1]
       simp[execOp,ho,hv,this]
      ·obtain⟨u,z1,z2⟩:=Jq (P:=P) (w:=w) (ok:=dx K w p) (p:=p) (t:=et) (x:=zz) LF
       have:(zeroValue et).run P w=.ok zv w:=by simp[zeroValue,typeInfo,hi,Jf]
       rw[this] at z1;cases z1;exact z2
   |some q=>
    simp only[aP] at hl;obtain⟨zz,hz,hl⟩:=hl;simp only[bz,cS] at hl;subst hl;obtain⟨r,f1,f2⟩:=lk sC (R.ca k) e4.key.1 e4.key.2 hf;obtain⟨en,row,g1,g2,g3,g4,g5⟩:=f2;refine⟨en.val,λw' h=>?_,?_⟩
    ·obtain⟨r',f1',f2'⟩:=lk sC (Xo w' h) (hmr w' h).key.1 (hmr w' h).key.2 hf
     obtain⟨DB,zd,PS,g2',g3',g4',g5'⟩:=f2';have e0:DB=en:=by rw[g1] at PS;exact(af PS).symm
     subst e0;subst g5';have tv:=mj sC (Xo w' h) es.isEmpty;have:(Instr.lookup t (.map (some b)) (a.eval k) false).run P w'=.ok DB.val w':=by
      simp[Instr.lookup,aJ hu,Result.andThen,cI (hm w' h),tv,f1']
     simp[execOp,ho,hv,this]
    ·rw[g3] at hz
     have hp:=e4.val g2 g1;exact qX (p:=p) hz hp
theorem pD {ops:Array Oper} {F:Exit→Act→World→Prop} {S:World→Prop} (T:List Nat) (hs:Region.noSelect ops=true) (hF:∀c a w,¬F (.panic c) a w) (hS:∀w',S w'→Agree K p w w') (LM:S w) {n:Nat} {st1:St}:∀(is:List Nat) (listed:Array Bool) (st:St) (a:Act),sG ops is listed=true→
  (∀i∈is,∀o,ops[i]? =some o→∀t∈T,o.dst≠some t)→Rel K st a w p→qT P ops is st=some st1→(∀a1,Rel K st1 a1 w p→(∀t∈T,a1.eval (.tmp t)=a.eval (.tmp t))→wpAnyH P .any ops F S n (lD is listed) a1 w)→wpAnyH P .any ops F S (is.length+n) listed a w
 |[],listed,st,a,_,_,R,h,H=>by
  simp[qT] at h;subst h;simpa[lD] using H a R (λ_ _=>rfl)
 |i::is,listed,st,a,ht,hT,R,h,H=>by
  simp only[sG,aR] at ht;obtain⟨⟨hr,hf⟩,Up⟩:=ht;simp only[qT] at h;cases h0:ops[i]? with
  |none=>simp[h0] at h
  |some o=>
   simp only[h0,aa] at h;split at h
   case isFalse=>cases h
   rename_i sV;cases hv:sP P st o with
   |none=>simp[hv] at h
   |some st2=>
    simp only[hv,aa] at h;unfold sP at hv;cases hx:gI P st o with
    |none=>simp[hx] at hv
    |some x=>
     simp only[hx,aa] at hv;obtain⟨v,g1,g2⟩:=xK R sV.2 hx;rw[cQ,show is.length+1+n=(is.length+n)+1 by omega];exact ly h0 hs hf hr (λc a w q=>absurd q (hF c _ w)) (.inl ⟨fH R sV.1,λw' YU=>g1 w' (hS w' YU)⟩) LM
      (pD T hs hF hS LM is _ st2 _ Up (λj hj=>hT j (cW _ hj)) (R.BX g2 hv) h λa1 R1 hk=>H a1 R1 λt ht2=>(hk t ht2).trans (fI (hT i (iC ..) o h0 t ht2)))
theorem Sn {id:Nat} {l:List Oper} {y:Code} {Q:Exit→St→Prop} {ν:Type} {S0:ν→St} {G:ν→Prop} {st1:St} (is:List Nat) (n:Nat) (hK:K.lx.length=0) (hm:P.follows .mixedOrders=true) (hB:(Region.noSelect l.toArray&&decide (is.length+n=l.toArray.size)&&sG l.toArray is (Array.replicate l.toArray.size false))=true)
  {ol:List (Option Oper)} (FV:is.map (l.toArray[·]?)=ol) {os:List Oper} (Dw:ol.filterMap (λx=>x)=os) (IF:ol=os.map some) (h':gX P l.toArray os st=some st1)
  (H:∀K' S F,BC K' S F (λe s=>e=.normal∧∃m,G m∧lZ s (S0 m))→sD P K' S F l.toArray n (lD is (Array.replicate l.toArray.size false)) st1) (h2:∀m,G m→Tr P K y (S0 m) Q):Tr P K (.seq (.region id l.toArray true) y) st Q:=
 aF λa w p R=>hU (E9 is n hK hm hB (λc s h=>by cases h.1) FV Dw IF h' H a w p R) λe a' w' ⟨s,p',R',he,m,hg,hw⟩=>by
  subst he;exact⟨s,p',R',H3 hw (h2 m hg)⟩
end
end Go.Vl
