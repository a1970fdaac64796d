/- Contracts of functions that leave rows where they lie, from what the kit's wp tells of their bodies; slots that a region does not write. Conditions: none. -/
import Derived.Test.YtjnflahicimmlaaGreatDoorVmHg
import Derived.Deep.Upon
import Derived.Great.BuildSlice
set_option linter.unusedSimpArgs false
set_option linter.unusedVariables false
namespace Go.Vl
open Go Go.RowKit
def T' (P:Program) (rs:List ResultVar) (res:AV) (bx':List (List AV)) (vx':List VS) (τ:List Nat) (st:St):Prop:=
 (uG P st rs).map (λl=>(CP l).fin.oO τ)=some res∧res.wf DL (λ_=>true)=true∧tx st τ 0 bx'∧sQ st τ vx'∧τ.Nodup
section
variable {P:Program} {K:Ctx P} {st:St} {a:Act} {w:World} {p:Pl}
theorem V4 {f:FuncId} {fn:Func} {c:Code} {nt:Nat} {rs:List ResultVar} {bx:List (List AV)} {vx:List VS} {args:List AV} {res:AV} {bx':List (List AV)} {vx':List VS} (hf:P.funcs[f]? =some fn) (hb:fn.body=some c) (zX:fn.ntmps=nt) (KF:fn.results.toList=rs)
  (Xn:args.length≤nt) (SU:nt≤1000000) (LI:bx.length=bx'.length) (h:∀(K:Ctx P) (a:Act) (w:World) (p:Pl),K.lx.length=bx.length→Rel K (gk nt args bx vx) a w p→c.wp P (λe a' w'=>(e=.normal∨e=.ret)∧∃s p',Rel K s a' w' p'∧∃τ:List Nat,T' P rs res bx' vx' τ s∧τ=(List.range vx.length).map (λi=>2000000+i)∧τ.map p'.rw=τ.map p.rw) a w):FO P f bx vx args res bx' vx':=by
 intro w ok io iv vs dN zw eZ xh
 let K:Ctx P:=⟨w,ok,io,iv.filterMap Value.fN,λb i x h=>⟨⟨(dN.px b (xh b i x h).1).1,(xh b i x h).1,(dN.px b (xh b i x h).1).2.1,λhm=>by obtain⟨v,hv,e⟩:=lz.1 hm;exact(dN.px b (xh b i x h).1).2.2 v hv e⟩,(xh b i x h).2⟩⟩
 have Be:∀b,b∈K.qO↔∃v∈iv,v.fN=some b:=λb=>lz
 refine calls_of_wp hf hb ?_;have KI:∀b,ok b→dx K w (dM io iv) b:=λb pS=>⟨(dN.px b pS).1,.inl pS,λn hn e=>by
  obtain⟨h1,h2⟩:=hn;have:(dM io iv).bx n∈io:=by simp[dM,ae h2]
  exact(dN.px b pS).2.1 (e▸this),λn hn=>by
  obtain⟨h1,h2⟩:=hn;have:(dM io iv).rw n∈iv:=by simp[dM,ae h2]
  exact(dN.px b pS).2.2 _ this⟩
 have tV:∀{x:AV} {v:Value},RA w ok (dM io iv) x v→RA w (dx K w (dM io iv)) (dM io iv) x v:=λh=>h.mono (λ_ _=>rfl) KI (λ_ h=>⟨h,rfl⟩) (λ_ h=>⟨h,rfl⟩)
 have Xw:∀{α:Type} (base:Nat) (l:List α) (n:Nat) (x:α),get (kS base l) n=some x→base≤n∧l[n - base]? =some x:=λbase l n x hg=>by
  rw[gb] at hg;split at hg
  ·exact⟨‹_›,hg⟩
  ·cases hg
 have R:Rel K (gk nt args bx vx) { tmps:=vs++Array.replicate (fn.ntmps - vs.size) undef,defers:=[]} w (dM io iv):={
  lb:=by
   funext n
   simp only[dM,St.lb,gk,gb,gV,dN.len];by_cases h:1000000≤n
   ·simp[h]
   ·simp[h]
  lv:=by
   funext n
   simp only[dM,St.lv,gk,gb,gV,dN.xj];by_cases h:2000000≤n
   ·simp[h]
   ·simp[h]
  pj:=rfl
  nt:=by simp[gk,zX,zw];omega
  pK:=SU
  oB:=λi hi=>by have:=E4.1 hi;rw[E5 (ae this)];exact ae this
  size:=aM _
  os:=rfl
  tape:=rfl
  dr:=aM _
  output:=rfl
  old:=λ_ _ _=>rfl
  env:=λt x hx=>by
   simp only[gk,gb,cE,eM,Nat.sub_zero] at hx;have ht:t < vs.size:=by have:=(aj.1 hx).1;omega
   have:(vs++Array.replicate (fn.ntmps - vs.size) undef).getD t undef=vs[t]:=by simp[oV,ht]
   rw[this];exact tV (eZ t x _ hx (by simp[ht]))
  box:=λn cs hn=>by
   obtain⟨h1,h2⟩:=Xw _ _ n cs hn;have hi:n - 1000000 < io.length:=by rw[dN.len];exact(aj.1 h2).1
   obtain⟨⟨us,ty,g1,g2,g3,g4⟩⟩:=dN.at_ (n - 1000000) io[n - 1000000] cs (ae hi) h2;have sX:(dM io iv).bx n=io[n - 1000000]:=by simp[dM,ae hi]
   exact⟨⟨us,ty,by rw[sX];exact g1,g2,λi c v hc hv=>tV (g3 i c v hc hv),g4⟩,.inr (.inl (by rw[sX];exact bC hi))⟩
  vec:=λn s hn=>by
   obtain⟨h1,h2⟩:=Xw _ _ n s hn;have hi:n - 2000000 < iv.length:=by rw[dN.xj];exact(aj.1 h2).1
   obtain⟨g1,g3⟩:=dN.X1 (n - 2000000) iv[n - 2000000] s (ae hi) h2;have A':(dM io iv).rw n=iv[n - 2000000]:=by simp[dM,ae hi]
   exact⟨by rw[A'];exact g1.mono (λ_ _=>rfl) KI (λ_ _=>rfl),g3,λg hg=>.inr ((Be g).2 ⟨_,bC hi,by rw[← A'];exact hg⟩)⟩
  oF:=λn m hn hm iA e=>by
   have qI:1000000≤n∧n - 1000000 < io.length:=hn;have Cg:1000000≤m∧m - 1000000 < io.length:=hm;clear hn hm;obtain⟨n1,n2⟩:=qI;obtain⟨m1,m2⟩:=Cg;have e2:((io[n - 1000000]?).getD 0)=((io[m - 1000000]?).getD 0):=e;rw[ae n2,ae m2] at e2;have:=(qD dN.nodup).1 e2;omega
  my:=λn m hn hm=>by
   have qI:1000000≤n∧n - 1000000 < io.length:=hn;have Cg:2000000≤m∧m - 2000000 < iv.length:=hm;have e1:(dM io iv).bx n∈io:=by simp[dM,ae qI.2]
   have e2:(dM io iv).rw m∈iv:=by simp[dM,ae Cg.2]
   exact dN.WE _ e2 _ e1
  mX:=λn m hn hm iA=>by
   have qI:2000000≤n∧n - 2000000 < iv.length:=hn;have Cg:2000000≤m∧m - 2000000 < iv.length:=hm;clear hn hm;obtain⟨n1,n2⟩:=qI;obtain⟨m1,m2⟩:=Cg;obtain⟨v1,zy⟩:∃v,iv[n - 2000000]? =some v:=⟨_,ae n2⟩;obtain⟨v2,Gq⟩:∃v,iv[m - 2000000]? =some v:=⟨_,ae m2⟩;have hq:n - 2000000≠m - 2000000:=by omega
   have e1:(dM io iv).rw n=v1:=by show(iv[n - 2000000]?).getD undef=_;rw[zy];rfl
   have e2:(dM io iv).rw m=v2:=by show(iv[m - 2000000]?).getD undef=_;rw[Gq];rfl
   rw[e1,e2];exact dN.OR _ _ _ _ zy Gq hq }
 refine hU (h K _ w _ dN.len R) λe a' w' ⟨he,s,p2,R2,τ,q,hτ,A'⟩=>?_
 have Hv:τ.map p2.rw=iv:=by
  rw[A',hτ,kU];apply eH;intro i;rw[aA];by_cases hi:i < vx.length
  ·rw[qN hi]
   have Xv:i < iv.length:=by rw[dN.xj];exact hi
   simp[dM,ae Xv]
  ·rw[fy (by simp;omega),fy (by rw[dN.xj];omega)];rfl
 have key:T' P rs res bx' vx' τ s→a'.defers=[]∧∃v,(results fn a'.tmps).run P w'=.ok v w'∧(∃u iv',Ending.returned v=.returned u∧RA w' (Av ok iv iv' w w') (dM io iv') res u∧qP w' (Av ok iv iv' w w') io iv' bx' vx'∧(∀u∈iv',∀g,u.fN=some g→w.heap.size≤g∨∃v∈iv,v.fN=some g)∧T7 io iv w w'∧iv'=iv):=by
  rintro⟨rV,hwf,Ti,Gp,sI⟩
  obtain⟨YV,KC⟩:=rJ Gp;have yl:∀n∈τ,p2.lv n:=λn hn=>by
   obtain⟨i,hi,rfl⟩:=cu hn;exact(R2.sT _).2 (by simp[St.lv,KC (ae hi) (ae (by omega))])
  cases zB:uG P (s) rs with
  |none=>rw[zB] at rV;cases rV
  |some xs=>
   rw[zB] at rV;simp only[cr,ba] at rV;rw[← KF] at zB;obtain⟨v,g1,g2⟩:=xP R2 zB;have xp:∀b,dx K w' p2 b→Av ok iv (τ.map p2.rw) w w' b:=λb pS=>⟨by
    rcases pS.2.1 with h1 |h1 |h1
    ·exact .inl h1
    ·exact .inr (.inl h1)
    ·exact .inr (.inr ((Be b).1 h1)),pS.1,λu hu e=>by
    obtain⟨n,hn,rfl⟩:=aG.1 hu;exact pS.2.2.2 n (yl n hn) e⟩
   have Ad:∀n,1000000≤n→p2.lb n→(dM io (τ.map p2.rw)).lb n∧(dM io (τ.map p2.rw)).bx n=p2.bx n:=λn hn hl=>by
    obtain⟨i,rfl⟩:∃i,n=sq i:=⟨n - 1000000,by unfold sq;omega⟩;have h7:io[i]? =some (p2.bx (sq i)):=R2.oB i hl;exact⟨E4.2 (aj.1 h7).1,E5 h7⟩
   have C0:∀{x:AV} {u:Value},RA w' (dx K w' p2) p2 x u→(x.oO τ).wf DL (λ_=>true)=true→RA w' (Av ok iv (τ.map p2.rw) w w') (dM io (τ.map p2.rw)) (x.oO τ) u:=λhx hw=>hx.Ys xp Ad hw
   have Xj:∀i b,io[i]? =some b→∃rF cs,get (s).box (sq i)=some rF∧bx'[i]? =some cs∧AV.tN τ (AV.Cp rF)=cs∧AV.we DL (λ_=>true) cs=true∧p2.bx (sq i)=b:=λi b hi=>by
    have ph:i < bx'.length:=by rw[← LI,←dN.len];exact(aj.1 hi).1
    obtain⟨rF,k1,k2,k3⟩:=rG Ti (ae ph);rw[gg] at k1;have:=R2.oB i ((R2.vg _).2 (by show(get s.box (sq i)).isSome=true;rw[k1];rfl));rw[show K.lx[i]? =some b from hi] at this;injection this with this
    exact⟨rF,_,k1,ae ph,k2,k3,this.symm⟩
   refine⟨R2.pj,v,g1,v,τ.map p2.rw,rfl,by rw[← rV];exact C0 g2.fin (by rw[rV];exact hwf),⟨dN.len.trans LI,dN.nodup,λb pS=>⟨pS.2.1,λhm=>?_,pS.2.2⟩,λi b cs hi hc=>?_,by simp[YV],λi v s hv hs=>?_,λi j v u hv hu rY=>?_,λv hv b pS=>?_⟩,λu hu g hg=>?_,⟨R2.size,R2.os,R2.tape,R2.dr,R2.output,λb h1 h2 h3=>R2.old b h1 (λh=>h.elim h2 (λh=>by obtain⟨v,hv,he⟩:=(Be b).1 h;exact h3 v hv he))⟩,Hv⟩
   ·obtain⟨i,hi⟩:=bJ.1 hm
    rcases pS.1 with h1 |h1 |⟨u,h1,h2⟩
    ·exact(dN.px b h1).2.1 hm
    ·have ph:=(aj.1 hi).1
     obtain⟨⟨us,ty,g1,_⟩⟩:=dN.at_ i b _ hi (ae (by rw[← dN.len];exact ph));have:=(aL.1 g1).1;omega
    ·exact dN.WE u h1 b hm h2
   ·obtain⟨rF,TF,k1,k2,k3,k4,k5⟩:=Xj i b hi
    rw[hc] at k2;cases k2;obtain⟨⟨us,ty,g1,g2,g3,g4⟩,_⟩:=R2.box (sq i) rF k1;refine⟨⟨us,ty,by rw[← k5];exact g1,by rw[g2,←k3,nL,rE];simp,λj c v wP hv=>?_,g4⟩⟩;have hw:=AV.pY k4 wP;rw[← k3,nL,rE] at wP;simp only[aA,aP] at wP;obtain⟨q',⟨q,hq,rfl⟩,rfl⟩:=wP;exact C0 (g3 j q v hq hv).fin hw
   ·rw[aA] at hv
    cases hn:τ[i]? with
    |none=>rw[hn] at hv;cases hv
    |some n=>
     rw[hn] at hv;cases hv;obtain⟨a1,a3,_⟩:=R2.vec n s (KC hn hs);exact⟨a1.mono (λ_ _=>rfl) xp (λ_ _=>rfl),a3⟩
   ·rw[aA] at hv hu
    cases hn:τ[i]? with
    |none=>rw[hn] at hv;cases hv
    |some n=>
     cases hm:τ[j]? with
     |none=>rw[hm] at hu;cases hu
     |some m=>
      rw[hn] at hv;rw[hm] at hu;cases hv;cases hu;refine R2.mX n m (yl n (bm hn)) (yl m (bm hm)) (λe=>rY ?_);subst e;exact(pn (aj.1 hn).1 sI).1 (hn.trans hm.symm)
   ·obtain⟨n,hn,rfl⟩:=aG.1 hv
    obtain⟨i,hi⟩:=bJ.1 pS;obtain⟨rF,TF,k1,_,_,_,k5⟩:=Xj i b hi;rw[← k5];exact R2.my _ n ((R2.vg _).2 (by show(get s.box (sq i)).isSome=true;rw[k1];rfl)) (yl n hn)
   ·obtain⟨n,hn,rfl⟩:=aG.1 hu
    rcases(R2.yI (yl n hn) hg).1 with h1 |h1
    ·exact .inl h1
    ·exact .inr ((Be g).1 h1)
 rcases he with rfl |rfl
 ·exact key q
 ·exact key q
theorem OM {ops:Array Oper} {F:Exit→Act→World→Prop} {Q':Act→World→Prop} {i:Nat} {o:Oper} (ho:ops[i]? =some o) (h:wpList P ops (λe a w=>e=.normal∧Q' a w) [o] a w):wpOp P ops F i Q' a w:=by
 unfold wpList at h;unfold wpOp;simp only[ho];have hn:∀a w,wpList P ops (λe a w=>e=.normal∧Q' a w) [] a w→Q' a w:=λa w q=>q.2
 split
 ·rename_i hw
  rw[ai hw] at h;rcases h with h |⟨h1,a0,w0,q,_⟩
  ·left
   unfold Oper.wp at h ⊢;generalize (execOp a.eval o).run P w=r at h ⊢;cases r with
   |ok n w'=>
    cases n <;> simp only[Oper.upon] at h ⊢
    case value v=>exact hn _ _ h
    case skip=>exact hn _ _ h
    case defer d=>exact hn _ _ h
    case enter f args=>
     refine qE h λe F3 he=>?_
     cases e with
     |returned v=>exact hn _ _ he
     |panicked c=>cases he.1
     |outgrown=>obtain⟨a0,w0,q,_⟩:=he;cases q
    case row row args=>exact Rows.mono h λv F3 he=>hn _ _ he
   |halt x w'=>
    cases x <;> simp only[Oper.upon] at h ⊢
    case panic v=>cases h.1
  ·cases q
 ·rename_i hw
  rw[ah hw] at h;exact hn _ _ h
theorem AD {id i:Nat} {l:List Oper} {o:Oper} {st1 st2:St} {t:Nat} {v:Value} {F:Exit→Act→World→Prop} (is:List Nat) (hK:K.lx=[]) (hm:P.follows .mixedOrders=true) (hB:(Region.noSelect l.toArray&&decide (is.length+1=l.toArray.size)&&sG l.toArray is (Array.replicate l.toArray.size false))=true)
  {ol:List (Option Oper)} (FV:is.map (l.toArray[·]?)=ol) {os:List Oper} (Dw:ol.filterMap (λx=>x)=os) (IF:ol=os.map some) (Bc:noT l.toArray [t] is=true) (ho:l.toArray[i]? =some o)
  (Oa:Region.ready .any l.toArray (lD is (Array.replicate l.toArray.size false))=[i]) (CX:Region.ready .any l.toArray ((lD is (Array.replicate l.toArray.size false)).setIfInBounds i true)=[]) (hd:o.dst≠some t)
  (R:Rel K st a w p) (hv:a.eval (.tmp t)=v) (h':gX P l.toArray os st=some st1) (hT:∀K':Ctx P,fc P K' l.toArray [o] st1 (xz st2))
  (H:∀a w p,Rel K st2 a w p→a.eval (.tmp t)=v→F .normal a w):(Code.region id l.toArray true).wp P F a w:=by
 simp only[aR,bg] at hB;obtain⟨⟨hs,hn⟩,ht⟩:=hB;refine hU (Q:=λe a w=>e=.normal∧∃p,Rel K st2 a w p∧a.eval (.tmp t)=v) ?_ λe a w ⟨he,p,R,hv⟩=>by subst he;exact H a w p R hv
 have key:wpAnyH P .any l.toArray (λe a w=>e=.normal∧∃p,Rel K st2 a w p∧a.eval (.tmp t)=v) (Agree K p { w with drawn:=w.drawn+1 }) (is.length+1) (Array.replicate l.toArray.size false) a { w with drawn:=w.drawn+1 }:=by
  refine pD [t] hs (λc a w q=>by cases q.1) (λ_ h=>h) (λ_ _=>rfl) (n:=1) is _ st a ht (yb Bc) R.drew (tE FV Dw IF h') λa1 R1 hk=>?_
  refine fv Oa (by simp) λk KL=>?_
  rw[aD.1 KL];refine OM ho (AA hK hT (λo' Bb=>by rw[aD.1 Bb];exact hd) R1 ((hk t (by simp)).trans hv) λa2 w2 p2 R2 kept Gq=>⟨rfl,λq hq=>cT (kept _ hq).1,?_⟩);exact wpAnyH_done CX ⟨rfl,p2,R2,Gq⟩ _
 rw[hn] at key;exact ug hm key
end
end Go.Vl
namespace Go.Vl
open Go Go.RowKit
section
variable {P:Program} {K:Ctx P} {st:St} {a:Act} {w:World} {p:Pl}
theorem LU {ops:Array Oper} {F:Exit→Act→World→Prop} {K1 K2:Act→World→Prop} {i t:Nat} {v:Value} (ho:∀o,ops[i]? =some o→o.dst≠some t) (hv:a.eval (.tmp t)=v) (hK:∀a w,a.eval (.tmp t)=v→K1 a w→K2 a w) (h:wpOp P ops F i K1 a w):
  wpOp P ops (λe a w=>F e a w∧(e=.normal→a.eval (.tmp t)=v)) i K2 a w:=by
 unfold wpOp at h ⊢;cases h0:ops[i]? with
 |none=>simp only[h0] at h ⊢;exact hK _ _ hv h
 |some o=>
  simp only[h0] at h ⊢;have MS:=ho o h0;have hp:∀u,(a.put o.dst u).eval (.tmp t)=v:=λu=>(aX MS).trans hv
  split
  ·rename_i hw
   rw[ai hw] at h;rcases h with h |⟨h1,a0,w0,q⟩
   ·left
    unfold Oper.wp at h ⊢;generalize (execOp a.eval o).run P w=r at h ⊢;cases r with
    |ok n w'=>
     cases n <;> simp only[Oper.upon] at h ⊢
     case value u=>exact hK _ _ (hp _) h
     case skip=>exact hK _ _ (hp _) h
     case defer d=>exact hK _ _ ((aX MS).trans hv) h
     case enter f args=>
      refine qE h λe F3 he=>?_
      cases e with
      |returned u=>exact hK _ _ (hp _) he
      |panicked c=>exact⟨he,λe=>by cases e⟩
      |outgrown=>obtain⟨a0,w0,q⟩:=he;exact⟨a0,w0,q,λe=>by cases e⟩
     case row row args=>exact Rows.mono h λu F3 he=>hK _ _ (hp _) he
    |halt x w'=>
     cases x <;> simp only[Oper.upon] at h ⊢
     case panic u=>exact⟨h,λe=>by cases e⟩
   ·exact .inr ⟨h1,a0,w0,q,λe=>by cases e⟩
  ·rename_i hw
   rw[ah hw] at h;exact hK _ _ (hp _) h
theorem Ar {md:Region.Mode} {ops:Array Oper} {F:Exit→Act→World→Prop} {S:World→Prop} {t:Nat} {v:Value} (hd:∀(i:Nat) (o:Oper),ops[i]? =some o→o.dst≠some t):∀(n:Nat) (listed:Array Bool) (a:Act) (w:World),a.eval (.tmp t)=v→wpAnyH P md ops F S n listed a w→
  wpAnyH P md ops (λe a w=>F e a w∧(e=.normal→a.eval (.tmp t)=v)) S n listed a w
 |0,_,_,_,hv,h=>⟨h.1,h.2,λ_=>hv⟩
 |n+1,listed,a,w,hv,h=>⟨λhr=>⟨h.1 hr,λ_=>hv⟩,λi hi=>LU (hd i) hv (λa' w' lE hq=>⟨hq.1,Ar hd n _ a' w' lE hq.2⟩) (h.2 i hi)⟩
def yx:BinOp→Bool
 | .eql | .neq | .lss | .leq | .gtr | .geq=>true
 |_=>false
theorem Wc {op:BinOp} (sB:yx op=true) {t:TypeId} {k k':IntKind} {x y:Int} {z:AV} (h:FJ P op t (.d (.int k x)) (.d (.int k' y))=some z):∃c,z=.d (.bool c):=by
 cases op <;> simp[yx] at sB <;> (simp only[FJ] at h;split at h <;> simp[tT] at h;exact⟨_,h.symm⟩)
theorem Wb {op:BinOp} (sB:yx op=true) {t:TypeId} {x y:ByteArray} {z:AV} (h:FJ P op t (.d (.str x)) (.d (.str y))=some z):∃c,z=.d (.bool c):=by
 cases op <;> simp[yx] at sB <;> (simp [FJ,zH] at h;exact⟨_,h.symm⟩)
def uY (P:Program) (st:St) (o:Oper):Bool:=
 iZ P st o||match o.op with
 | .binOp op _ x y _=>yx op&&(match ca st x with | .d (.int _ _)=>(match ca st y with | .d (.int _ _)=>true |_=>false) | .d (.str _)=>(match ca st y with | .d (.str _)=>true |_=>false) |_=>false)
 | .pick _ _ _=>true
 |_=>false
theorem H8 (R:Rel K st a w p) {o:Oper} {x:AV} (hp:uY P st o=true) (h:gI P st o=some x):
  ∃v,(∀w',Agree K p w w'→(execOp a.eval o).run P w'=.ok (.value v) w')∧RA w (dx K w p) p x v:=by
 unfold uY at hp;cases hq:iZ P st o with
 |true=>exact xK R hq h
 |false=>
  rw[hq,hZ] at hp;have close:∀{s:Sem Value} {v:Value} {w:World},s.run P w=.ok v w→(do pure (Next.value (← s)):Sem Next).run P w=.ok (.value v) w:=λh1=>by simp[h1]
  split at hp
  ·rename_i op t y z rt ho
   simp only[aR] at hp;obtain⟨sB,hp⟩:=hp;simp only[gI,ho] at h;have hy:=R.ca y;have hz:=R.ca z;split at hp
   ·rename_i k1 n1 e1
    split at hp
    case h_2=>cases hp
    rename_i k2 n2 e2;rw[e1,e2] at h;rw[e1] at hy;rw[e2] at hz;obtain⟨c,rfl⟩:=Wc sB h;refine⟨.bool c,λw' _=>?_,.d .bool⟩;generalize hu:a.eval y=u at hy;generalize hv:a.eval z=v at hz;cases hy with |d hy=>cases hy with |int=>
    cases hz with |d hz=>cases hz with |int=>
    obtain⟨r,h1,h2⟩:=rh (w:=w') (ok:=λ_=>False) (p:=p) h (.d .int) (.d .int) y z;cases h2 with |d h2=>cases h2 with |bool=>
    unfold execOp;simp only[ho,hu,hv];exact close h1
   ·rename_i s1 e1
    split at hp
    case h_2=>cases hp
    rename_i s2 e2;rw[e1,e2] at h;rw[e1] at hy;rw[e2] at hz;obtain⟨c,rfl⟩:=Wb sB h;refine⟨.bool c,λw' _=>?_,.d .bool⟩;generalize hu:a.eval y=u at hy;generalize hv:a.eval z=v at hz;cases hy with |d hy=>cases hy with |str=>
    cases hz with |d hz=>cases hz with |str=>
    obtain⟨r,h1,h2⟩:=rh (w:=w') (ok:=λ_=>False) (p:=p) h (.d .str) (.d .str) y z;cases h2 with |d h2=>cases h2 with |bool=>
    unfold execOp;simp only[ho,hu,hv];exact close h1
   ·cases hp
  ·rename_i c y z ho
   obtain⟨v,h1,h2⟩:=rI R h;refine⟨v,λw' _=>?_,h2⟩;simp only[gI,ho] at h;have hc:=R.ca c;unfold NH at h;split at h
   ·rename_i b e1
    rw[e1] at hc;generalize hu:a.eval c=u at hc;cases hc with |d hd=>cases hd with |bool=>
    simp[execOp,ho,hu,asBool] at h1 ⊢;exact h1
   ·cases h
  ·cases hp
def lB (P:Program) (ops:Array Oper):List Oper→St→Option St
 |[],st=>some st
 |o::os,st=>if pW ops st o=some true∧uY P st o=true then(sP P st o).bind (lB P ops os)
  else if pW ops st o=some false then(match o.dst with |some d=>if d < st.nt then lB P ops os (st.put d (.ia [])) else none |none=>none) else none
theorem xJ {ops:Array Oper} {F:Exit→Act→World→Prop} {S:World→Prop} (hs:Region.noSelect ops=true) (hF:∀c a w,¬F (.panic c) a w) (hS:∀w',S w'→Agree K p w w') (LM:S w) {n:Nat} {st1:St}:∀(is:List Nat) (os:List Oper) (listed:Array Bool) (st:St) (a:Act),is.map (ops[·]?)=os.map some→sG ops is listed=true→
  Rel K st a w p→lB P ops os st=some st1→(∀a1,Rel K st1 a1 w p→wpAnyH P .any ops F S n (lD is listed) a1 w)→wpAnyH P .any ops F S (is.length+n) listed a w
 |[],[],listed,st,a,_,_,R,h,H=>by
  simp[lB] at h;subst h;simpa[lD] using H a R
 |[],_::_,_,_,_,h,_,_,_,_=>by simp at h
 |_::_,[],_,_,_,h,_,_,_,_=>by simp at h
 |i::is,o::os,listed,st,a,xg,ht,R,h,H=>by
  simp only[aW,iy] at xg;obtain⟨h0,xg⟩:=xg;simp only[sG,aR] at ht;obtain⟨⟨hr,hf⟩,Up⟩:=ht;simp only[lB] at h;rw[cQ,show is.length+1+n=(is.length+n)+1 by omega];split at h
  ·rename_i sV
   cases hv:sP P st o with
   |none=>rw[hv] at h;cases h
   |some st2=>
    rw[hv,aa] at h;unfold sP at hv;cases hx:gI P st o with
    |none=>rw[hx] at hv;cases hv
    |some x=>
     rw[hx,aa] at hv;obtain⟨v,g1,g2⟩:=H8 R sV.2 hx;exact ly h0 hs hf hr (λc a w q=>absurd q (hF c _ w)) (.inl ⟨fH R sV.1,λw' YU=>g1 w' (hS w' YU)⟩) LM
      (xJ hs hF hS LM is os _ st2 _ xg Up (R.BX g2 hv) h H)
  ·split at h
   case isFalse=>cases h
   rename_i hg;cases hd:o.dst with
   |none=>simp[hd] at h
   |some d=>
    simp only[hd] at h;split at h
    case isFalse=>cases h
    rename_i nW;refine ly (v:=undef) h0 hs hf hr (λc a w q=>absurd q (hF c _ w)) (.inr ⟨fH R hg,rfl⟩) LM ?_;rw[hd];exact xJ hs hF hS LM is os _ _ _ xg Up (R.put (RA.ia (l:=[]) (cs:=#[]) rfl (λi a v ha=>by simp at ha)) nW) h H
theorem DQ {id:Nat} {l:List Oper} {st1 S0:St} {t t':Nat} {v v':Value} {F:Exit→Act→World→Prop} (is:List Nat) (n:Nat) (hK:K.lx=[]) (hm:P.follows .mixedOrders=true) (hB:(Region.noSelect l.toArray&&decide (is.length+n=l.toArray.size)&&sG l.toArray is (Array.replicate l.toArray.size false))=true)
  {ol:List (Option Oper)} (FV:is.map (l.toArray[·]?)=ol) {os:List Oper} (Dw:ol.filterMap (λx=>x)=os) (IF:ol=os.map some) (h':lB P l.toArray os st=some st1)
  (H:∀K' S F,BC K' S F (λe s=>e=.normal∧lZ s S0)→sD P K' S F l.toArray n (lD is (Array.replicate l.toArray.size false)) st1) (hd:∀o∈l,o.dst≠some t) (IN:∀o∈l,o.dst≠some t') (R:Rel K st a w p) (hv:a.eval (.tmp t)=v) (lE:a.eval (.tmp t')=v')
  (G:∀a w' p',Rel K S0 a w' p'→Kept K w w' p p'→a.eval (.tmp t)=v→a.eval (.tmp t')=v'→F .normal a w'):(Code.region id l.toArray true).wp P F a w:=by
 simp only[aR,bg] at hB;obtain⟨⟨hs,hn⟩,ht⟩:=hB;have hdo:∀{t:Nat},(∀o∈l,o.dst≠some t)→∀(i:Nat) (o:Oper),l.toArray[i]? =some o→o.dst≠some t:=λhd i o ho=>hd o (by rw[hD] at ho;exact bm ho)
 have key:wpAnyH P .any l.toArray (λe a w'=>e=.normal∧∃p',Rel K S0 a w' p'∧Kept K w w' p p') (Agree K p { w with drawn:=w.drawn+1 }) (is.length+n) (Array.replicate l.toArray.size false) a { w with drawn:=w.drawn+1 }:=by
  refine xJ hs (λc a w h=>by cases h.1) (λ_ h=>h) (λ_ _=>rfl) is os _ st a (FV.trans IF) ht R.drew h' λa1 R1=>?_
  obtain⟨K',_,R2,hb⟩:=R1.Cn hK;refine H K' _ _ ⟨λst a w p R=>λq hq=>cT ((hb _ _ _ _ R).2 _ hq).1,λe s a w2 p2 R q=>?_,λc a w h=>by cases h.1⟩ a1 _ p R2;obtain⟨he,hw⟩:=q;obtain⟨p3,R3,h3⟩:=(hb _ _ _ _ R).1.oK hw;exact⟨he,p3,R3,λb hq=>⟨((hb _ _ _ _ R).2 b hq).1,h3 _ ((hb _ _ _ _ R).2 b hq).2⟩⟩
 have key:=Ar (hdo IN) _ _ _ _ lE (Ar (hdo hd) _ _ _ _ hv key);rw[hn] at key;exact hU (ug hm key) λe a w ⟨⟨⟨he,p',R',kp⟩,h1⟩,h2⟩=>by subst he;exact G a w p' R' kp (h1 rfl) (h2 rfl)
def Au:AV→Prop
 | .undef=>True
 | .d x=>qC x
 | .ptr _ _=>True
 |_=>False
theorem Au.ra {w w':World} {ok nf:Nat→Prop} {x:AV} {v:Value} (h:Au x) (hr:RA w ok p x v):RA w' nf p x v:=by
 cases hr with
 |undef=>exact .undef
 |d hd=>exact .d (qC.rd h hd)
 |ptr hn=>exact .ptr hn
 |_=>exact h.elim
theorem Rel.Q0 (R:Rel K st a w p) (qw:∀s y,get st.env s=some y→Au y) (sX:∀n cs,get st.box n=some cs→∀c∈cs,Au c) (hvc:st.vec=[]) {w':World} {g:Nat} (hg:K.w0.heap.size≤g∨g∈K.qO) (hs:w'.heap.size=w.heap.size) (ho:w'.os=w.os∧w'.tape=w.tape∧w'.output=w.output) (hd:vV w≤vV w')
  (iA:∀k,k≠g→w'.heap[k]? =w.heap[k]?) (hpg:∀n,p.lb n→p.bx n≠g):Rel K st a w' p where
 lb:=R.lb
 lv:=R.lv
 pj:=R.pj
 nt:=R.nt
 pK:=R.pK
 oB:=R.oB
 size:=by rw[hs];exact R.size
 os:=ho.1.trans R.os
 tape:=ho.2.1.trans R.tape
 dr:=bO R.dr hd
 output:=ho.2.2.trans R.output
 old:=λk h1 h2=>(iA k (λe=>by
  subst e;rcases hg with h |h
  ·omega
  ·exact h2 (.inr h))).trans (R.old k h1 h2)
 env:=λs y h=>(qw s y h).ra (R.env s y h)
 box:=λn cs h=>by
  obtain⟨⟨vs,ty,g1,g2,g3,g4⟩,hm⟩:=R.box n cs h;have hn:p.lb n:=(R.vg n).2 (by simp[St.lb,h]);exact⟨⟨vs,ty,(iA _ (hpg n hn)).trans g1,g2,λi c v hc hv=>(sX n cs h c (bm hc)).ra (g3 i c v hc hv),g4⟩,hm⟩
 vec:=λn s h=>by rw[hvc] at h;simp[get] at h
 oF:=R.oF
 my:=R.my
 mX:=R.mX
def SL (K:Ctx P) (w:World) (p:Pl) (z:Nat) (rows:List (List D)) (v:Value):Prop:=
 (rows=[]∧∃a c,v=.slice a 0 c)∨∃(g c:Nat) (cs:Array Value) (ty:TypeId),v=.slice (some ⟨g,0,none⟩) rows.length c∧rows.length≤c∧w.heap[g]? =some (.cells cs ty (0,0))∧rows.length * z≤cs.size∧
  (∀(j:Nat) (d:D) (u:Value),rows.flatten[j]? =some d→cs[j]? =some u→RD w (dx K w p) d u)∧dx K w p g∧(K.w0.heap.size≤g∨g∈K.qO)
theorem SL.data {z:Nat} {rows:List (List D)} {v:Value} (hz:∀r∈rows,r.length=z) (h:SL K w p z rows v):RA w (dx K w p) p (.d (.slice rows)) v:=by
 rcases h with ⟨rfl,a,c,rfl⟩ |⟨g,c,cs,ty,rfl,h1,h2,h3,h4,h5,h6⟩
 ·exact .d .pQ
 ·refine .d (.slice z (λj=>cs.getD j undef) hz h5 h1 (λj hj=>?_) λj d hd=>?_)
  ·rw[ir hz] at hj
   rw[ix];have:j < cs.size:=by omega
   simp[World.cell?,h2,this]
  ·have hj:j < rows.flatten.length:=(aj.1 hd).1
   rw[ir hz] at hj;have:j < cs.size:=by omega
   exact h4 j d _ hd (by simp[this])
theorem SL.kept {z:Nat} {rows:List (List D)} {v:Value} {w':World} {p':Pl} (h:SL K w p z rows v) (k:Kept K w w' p p'):SL K w' p' z rows v:=by
 rcases h with h |⟨g,c,cs,ty,h0,h1,h2,h3,h4,h5,h6⟩
 ·exact .inl h
 ·exact .inr ⟨g,c,cs,ty,h0,h1,(k g h5).1.trans h2,h3,λj d u hd hu=>(h4 j d u hd hu).mono (λq hq=>cT (k _ hq).1) λb hb=>(k b hb).2,(k g h5).2,h6⟩
theorem SL.wk {z:Nat} {rows:List (List D)} {v:Value} {p':Pl} (h:SL K w p z rows v) (k:∀b,dx K w p b→dx K w p' b):SL K w p' z rows v:=h.kept λb hb=>⟨rfl,k b hb⟩
theorem SL.RW (R:Rel K st a w p) {n e z t:Nat} {rows:List (List D)} (hn:get st.vec n=some ⟨e,z,rows⟩) (he:e < 1000000) (ht:get st.env t=some (.vec n)) {cM:St} (W:lZ st cM) (hl:cM.lv n=false):∃p',Rel K cM a w p'∧SL K w p' z rows (a.eval (.tmp t))∧∀b,dx K w p b→dx K w p' b:=by
 have hb:∀n,cM.lb n=true→p.lb n:=λn hn=>by
  obtain⟨cs',Cl⟩:=aY.1 hn;obtain⟨cs,je,_⟩:=mQ W.box Cl;exact(R.vg n).2 (by simp[St.lb,je])
 have hv:∀n,cM.lv n=true→p.lv n:=λn hn=>by
  obtain⟨s,hs⟩:=aY.1 hn;exact(R.sT n).2 (by simp[St.lv,mP W.vec hs])
 have gD:∀b,dx K w p b→dx K w ⟨p.bx,p.rw,λn=>cM.lb n=true,λn=>cM.lv n=true⟩ b:=λb h=>⟨h.1,h.2.1,λn hn=>h.2.2.1 n (hb n hn),λn hn=>h.2.2.2 n (hv n hn)⟩
 refine⟨_,R.qR W,?_,gD⟩;have sj:p.lv n:=(R.sT n).2 (by simp[St.lv,hn]);have Ba:a.eval (.tmp t)=p.rw n:=by
  have:=R.env t (.vec n) ht;simp only[Act.eval];generalize a.tmps.getD t undef=u at this;cases this;rfl
 rw[Ba];obtain⟨sJ,hz,yo⟩:=R.vec n _ hn;obtain⟨xs,eC,rD⟩:=sJ.row (by simp[VS.rC];omega);rcases eC.2 with ⟨h0,h1⟩ |⟨g,cap,cur,h0,_,hg,pO,FX,Uz,Uy⟩
 ·exact .inl ⟨aI h1,_,_,by rw[h0]⟩
 ·have LJ:(p.rw n).fN=some g:=by rw[h0];rfl
  have zB:rows.length * z≤cap * z:=dy _ pO;refine .inr ⟨g,cap,cur,e,h0,pO,hg,by rw[Uz];exact zB,λj d u hd hu=>?_,⟨(aL.1 hg).1,.inr (yo g LJ),λm hm he=>?_,λm hm he=>?_⟩,yo g LJ⟩
  ·have hj:j < rows.flatten.length:=(aj.1 hd).1
   rw[ir hz] at hj;have hj:j < rows.length * z:=hj;refine(rD j d u hd ?_).mono (λ_ _=>rfl) gD;rw[← Uy,dR hj,bo];exact hu
  ·exact R.my m n (hb m hm) sj (by rw[LJ,he])
  ·have hmn:m≠n:=λe=>by subst e;rw[show cM.lv m=true from hm] at hl;cases hl
   rcases R.mX m n (hv m hm) sj hmn with q |q
   ·rw[he] at q;cases q
   ·exact q (he.trans LJ.symm)
theorem SL.take {z n c k:Nat} {b:Option Addr} {rows:List (List D)} (h:SL K w p z rows (.slice b rows.length k)) (hn:n≤rows.length) (hc:n≤c):SL K w p z (rows.take n) (.slice b n c):=by
 rcases h with ⟨rfl,_⟩ |⟨g,c0,cs,ty,h0,h1,h2,h3,h4,h5,h6⟩
 ·have:n=0:=by simpa using hn
  subst this;exact .inl ⟨rfl,_,_,rfl⟩
 ·injection h0 with Ae _ _
  subst Ae;have hl:(rows.take n).length=n:=by simp[hn]
  refine .inr ⟨g,c,cs,ty,by rw[hl],by rw[hl];exact hc,h2,?_,λj d u hd hu=>?_,h5,h6⟩
  ·have:n * z≤rows.length * z:=dy _ hn
   rw[hl];omega
  ·refine h4 j d u ?_ hu
   have:rows.flatten=(rows.take n).flatten++(rows.drop n).flatten:=by rw[← kC,fw]
   rw[this,ek (aj.1 hd).1];exact hd
theorem SL.set (R:Rel K st a w p) (qw:∀s y,get st.env s=some y→Au y) (sX:∀n cs,get st.box n=some cs→∀c∈cs,Au c) (hvc:st.vec=[]) {z i o g c:Nat} {rows:List (List D)} {row:List D} (hz:∀r∈rows,r.length=z) (tW:∀r∈rows,∀d∈r,qC d)
  (h:SL K w p z rows (.slice (some ⟨g,0,none⟩) rows.length c)) (hi:rows[i]? =some row) (ho:o < z) {d:D} {u:Value} (hd:qC d) (hu:RD w (dx K w p) d u) (h1:u.oneCell'=true):
  ∃cs ty w',w.heap[g]? =some (.cells cs ty (0,0))∧i * z+o < cs.size∧w'=w.setRow g (cs.setIfInBounds (i * z+o) u)∧Rel K st a w' p∧SL K w' p z (rows.set i (row.set o d)) (.slice (some ⟨g,0,none⟩) rows.length c):=by
 have ph:=(aj.1 hi).1;rcases h with ⟨rfl,_⟩ |⟨g',c',cs,ty,h0,h2,h3,h4,h5,h6,h7⟩
 ·simp at ph
 injection h0 with Ae XG V3
 injection Ae with Ae
 injection Ae with Ae
 subst Ae;subst V3;have XE:(i+1) * z≤rows.length * z:=dy _ ph;rw[dQ] at XE;have iN:i * z+o < cs.size:=by omega
 have akP:=(aL.1 h3).1;have iA:∀k,k≠g→(w.setRow g (cs.setIfInBounds (i * z+o) u)).heap[k]? =w.heap[k]? :=λk hk=>by
  unfold World.setRow;simp only[dJ];rw[ah (eN hk)]
 have hgg:(w.setRow g (cs.setIfInBounds (i * z+o) u)).heap[g]? =some (.cells (cs.setIfInBounds (i * z+o) u) ty (0,0)):=by
  unfold World.setRow;simp only[dJ,h3,eM];simp
 have gS:(w.setRow g (cs.setIfInBounds (i * z+o) u)).heap.size=w.heap.size:=by simp[World.setRow]
 refine⟨cs,ty,_,h3,iN,rfl,R.Q0 qw sX hvc h7 gS ⟨by simp[World.setRow],by simp[World.setRow],by simp[World.setRow]⟩ (by simp[World.setRow,vV]) iA λn hn e=>h6.2.2.1 n hn e.symm,?_⟩;have hrz:row.length=z:=hz row (bm hi);have Ul:∀r∈rows.set i (row.set o d),r.length=z:=λr hr=>by
  rcases List.mem_or_eq_of_mem_set hr with hr |rfl
  ·exact hz r hr
  ·simp[hrz]
 have gD:∀b,dx K w p b→dx K (w.setRow g (cs.setIfInBounds (i * z+o) u)) p b:=λb hb=>⟨by rw[gS];exact hb.1,hb.2⟩
 refine .inr ⟨g,c,_,ty,by simp,by simpa using h2,hgg,by simpa using h4,λj e x he hx=>?_,gD g h6,h7⟩;have hj:j < (rows.set i (row.set o d)).flatten.length:=(aj.1 he).1;rw[ir Ul,jf] at hj;have hzp:0 < z:=by omega
 obtain⟨r1,Oa⟩:∃r1,(rows.set i (row.set o d))[j / z]? =some r1:=⟨_,ae (by rw[jf];exact(Nat.div_lt_iff_lt_mul hzp).2 hj)⟩;have hjm:j % z < z:=Nat.mod_lt _ hzp;have Xs:j / z * z+j % z=j:=by rw[kT];exact Nat.div_add_mod j z
 have e1:=flat_get Ul Oa hjm;rw[Xs,he] at e1;by_cases Xr:j / z=i
 ·have CX:r1=row.set o d:=by
   rw[Xr,kV ph] at Oa;exact(af Oa).symm
  subst CX;by_cases hjo:j % z=o
  ·have Zd:i * z+o=j:=by rw[← Xr,←hjo];exact Xs
   rw[hjo,kV (by omega)] at e1;cases e1;rw[Zd,Array.getElem?_setIfInBounds_self_of_lt (by omega)] at hx;cases hx;exact qC.rd hd hu
  ·rw[iF (eN hjo)] at e1
   have Zd:i * z+o≠j:=λe=>hjo (by rw[← e,kT,Nat.mul_add_mod,Nat.mod_eq_of_lt ho])
   rw[gu Zd] at hx;have e2:=flat_get hz hi hjm;rw[← Xr,Xs,←e1] at e2;exact qC.rd (tW row (bm hi) e (bm e1.symm)) (h5 j e x e2 hx)
 ·rw[iF (eN Xr)] at Oa
  have Zd:i * z+o≠j:=λe=>Xr (by rw[← e,kT,Nat.mul_add_div hzp,Nat.div_eq_of_lt ho];rfl)
  rw[gu Zd] at hx;have e2:=flat_get hz Oa hjm;rw[Xs,←e1] at e2;exact qC.rd (tW r1 (bm Oa) e (bm e1.symm)) (h5 j e x e2 hx)
theorem wu {ops:Array Oper} {F:Exit→Act→World→Prop} {G:Act→World→Prop} {l2:List Oper} (H:∀a w,G a w→wpList P ops F l2 a w):∀(l1:List Oper) (a:Act) (w:World),wpList P ops (λe a w=>e=.normal∧G a w) l1 a w→wpList P ops F (l1++l2) a w
 |[],a,w,h=>H a w h.2
 |o::l,a,w,hh=>by
  rw[cv];unfold wpList at hh ⊢;split
  ·rename_i hw
   rw[ai hw] at hh;rcases hh with hh |⟨h1,a0,w0,q,_⟩
   ·left
    unfold Oper.wp at hh ⊢;generalize (execOp a.eval o).run P w=r at hh ⊢;cases r with
    |ok n w'=>
     cases n <;> simp only[Oper.upon] at hh ⊢
     case value u=>exact wu H l _ _ hh
     case skip=>exact wu H l _ _ hh
     case defer d=>exact wu H l _ _ hh
     case enter f args=>
      refine qE hh λe F3 he=>?_
      cases e with
      |returned u=>exact wu H l _ _ he
      |panicked c=>cases he.1
      |outgrown=>obtain⟨a0,w0,q,_⟩:=he;cases q
     case row row args=>exact Rows.mono hh λu F3 he=>wu H l _ _ he
    |halt x w'=>
     cases x <;> simp only[Oper.upon] at hh ⊢
     case panic u=>cases hh.1
   ·cases q
  ·rename_i hw
   rw[ah hw] at hh;exact wu H l _ _ hh
theorem Q9 {row:List D} {o:Nat} {v:Value} {w0:World} {p0:Pl} (hw:w0=K.w0) (h:RA w0 (nh K) p0 (.cN row o) v) (hK:K.lx=[]) (R:Rel K st a w p):RA w (dx K w p) p (.cN row o) v:=by
 subst hw;cases h with |cN vs gD eY hd=>
 exact .cN vs (gD.dx hK R) (λj hj=>(gF (by rw[block_add];exact gD.heap hK R)).trans (eY j hj)) λj x hx=>(hd j x hx).mono (λq hq=>cT (nh.heap hK hq R)) λb hb=>nh.dx hK hb R
def NI (K:Ctx P) (t2 t7:Nat) (v2 v7:Value) (z:Nat) (rows:List (List D)) (st:St) (a:Act) (w:World):Prop:=
 ∃p,Rel K st a w p∧a.eval (.tmp t2)=v2∧a.eval (.tmp t7)=v7∧SL K w p z rows v7
variable {t2 t7 z:Nat} {v2 v7:Value} {rows:List (List D)} {F:Exit→Act→World→Prop}
theorem NI.qR (h:NI K t2 t7 v2 v7 z rows st a w) {cM:St} (W:lZ st cM):NI K t2 t7 v2 v7 z rows cM a w:=by
 obtain⟨p,R,h2,h7,S⟩:=h;obtain⟨p',R',hk⟩:=R.oK W;exact⟨p',R',h2,h7,S.wk hk⟩
theorem NI.bool (h:NI K t2 t7 v2 v7 z rows st a w) {s:Nat} {c:Bool} (hs:st.look s=.d (.bool c)):a.eval (.tmp s)=.bool c:=by
 obtain⟨p,R,h2,h7,S⟩:=h;exact uA R hs
theorem NI.show {row:List D} {o:Nat} {w0:World} {p0:Pl} (hw:w0=K.w0) (hv:RA w0 (nh K) p0 (.cN row o) v2) (hK:K.lx=[]) (hz:∀r∈rows,r.length=z) (h:NI K t2 t7 v2 v7 z rows st a w) {cM:St} (W:lZ ((st.put t2 (.cN row o)).put t7 (.d (.slice rows))) cM):NI K t2 t7 v2 v7 z rows cM a w:=by
 obtain⟨p,R,h2,h7,S⟩:=h;have R1:=R.Ql (t:=t2) (x:=.cN row o) (by have:=Q9 hw hv hK R;rw[← h2] at this;exact this);have R2:=R1.Ql (t:=t7) (x:=.d (.slice rows)) (by have:=S.data hz;rw[← h7] at this;exact this);obtain⟨p',R',hk⟩:=R2.oK W;exact⟨p',R',h2,h7,S.wk hk⟩
theorem NI.zM (hK:K.lx=[]) (h:NI K t2 t7 v2 v7 z rows st a w) {id:Nat} {l:List Oper} {st1:St} (hT:∀K':Ctx P,fc P K' l.toArray l st (xz st1)) (hd:∀o∈l,o.dst≠some t2) (IN:∀o∈l,o.dst≠some t7) (H:∀a w,NI K t2 t7 v2 v7 z rows st1 a w→F .normal a w):(Code.region id l.toArray false).wp P F a w:=by
 obtain⟨p,R,h2,h7,S⟩:=h;exact eW (BI hK hT hd IN R h2 h7 λa w' p' R' kp h2 h7=>H a w' ⟨p',R',h2,h7,S.kept kp⟩)
theorem NI.xc (hK:K.lx=[]) (h:NI K t2 t7 v2 v7 z rows st a w) {id:Nat} {l:List Oper} {y:Code} {st1:St} (hT:∀K':Ctx P,fc P K' l.toArray l st (xz st1)) (hd:∀o∈l,o.dst≠some t2) (IN:∀o∈l,o.dst≠some t7) (H:∀a w,NI K t2 t7 v2 v7 z rows st1 a w→y.wp P F a w):(Code.seq (.region id l.toArray false) y).wp P F a w:=
 eU (h.zM hK hT hd IN H)
theorem NI.kh (hK:K.lx=[]) (h:NI K t2 t7 v2 v7 z rows st a w) {n:Nat} {cs:List AV} {row:List D} (hb:get st.box n=some cs) (hd:uW cs=some row) (hn:n < 1000000) {cM:St} (W:lZ (st.kh n row) cM):NI K t2 t7 v2 v7 z rows cM a w:=by
 obtain⟨p,R,h2,h7,S⟩:=h;obtain⟨K',Qz,R1,back⟩:=R.Cn hK;obtain⟨p',R'⟩:=R1.kh hb hd (by rw[Qz];rfl) hn (λi hi=>absurd hi (fR i));obtain⟨p2,R2,KL⟩:=(back _ _ _ _ R').1.oK W;exact⟨p2,R2,h2,h7,S.wk λb hb=>KL b ((back _ _ _ _ R').2 b hb).2⟩
theorem NI.held (hK:K.lx=[]) (h:NI K t2 t7 v2 v7 z rows st a w) {id:Nat} {l:List Oper} {st1 S0:St} (is:List Nat) (n:Nat) (hm:P.follows .mixedOrders=true) (hB:(Region.noSelect l.toArray&&decide (is.length+n=l.toArray.size)&&sG l.toArray is (Array.replicate l.toArray.size false))=true)
  {ol:List (Option Oper)} (FV:is.map (l.toArray[·]?)=ol) {os:List Oper} (Dw:ol.filterMap (λx=>x)=os) (IF:ol=os.map some) (h':lB P l.toArray os st=some st1)
  (H:∀K' S F,BC K' S F (λe s=>e=.normal∧lZ s S0)→sD P K' S F l.toArray n (lD is (Array.replicate l.toArray.size false)) st1) (hd:∀o∈l,o.dst≠some t2) (IN:∀o∈l,o.dst≠some t7) (G:∀a w,NI K t2 t7 v2 v7 z rows S0 a w→F .normal a w):(Code.region id l.toArray true).wp P F a w:=by
 obtain⟨p,R,h2,h7,S⟩:=h;exact DQ is n hK hm hB FV Dw IF h' H hd IN R h2 h7 λa w' p' R' kp h2 h7=>G a w' ⟨p',R',h2,h7,S.kept kp⟩
theorem NI.aeW (hK:K.lx=[]) (h:NI K t2 t7 v2 v7 z rows st a w) {id n e:Nat} {rows':List (List D)} {l:List Oper} {st1 st2:St} (hT:∀K':Ctx P,fc P K' l.toArray l st (xz st1)) (hd:∀o∈l,o.dst≠some t2) (hn:get st1.vec n=some ⟨e,z,rows'⟩) (he:e < 1000000) (ht:get st1.env t7=some (.vec n)) (W:lZ st1 st2) (hl:st2.lv n=false)
  (H:∀a w v',NI K t2 t7 v2 v' z rows' st2 a w→F .normal a w):(Code.region id l.toArray false).wp P F a w:=by
 obtain⟨p,R,h2,h7,S⟩:=h;refine eW (AA hK hT hd R h2 λa w' p' R' kp h2=>?_);obtain⟨p2,R2,S2,_⟩:=SL.RW R' hn he ht W hl;exact H a w' _ ⟨p2,R2,h2,rfl,S2⟩
theorem NI.aeX (hK:K.lx=[]) (h:NI K t2 t7 v2 v7 z rows st a w) {id n e:Nat} {rows':List (List D)} {l:List Oper} {st1 S0 st2:St} (is:List Nat) (n0:Nat) (hm:P.follows .mixedOrders=true) (hB:(Region.noSelect l.toArray&&decide (is.length+n0=l.toArray.size)&&sG l.toArray is (Array.replicate l.toArray.size false))=true)
  {ol:List (Option Oper)} (FV:is.map (l.toArray[·]?)=ol) {os:List Oper} (Dw:ol.filterMap (λx=>x)=os) (IF:ol=os.map some) (h':lB P l.toArray os st=some st1)
  (H:∀K' S F,BC K' S F (λe s=>e=.normal∧lZ s S0)→sD P K' S F l.toArray n0 (lD is (Array.replicate l.toArray.size false)) st1) (hd:∀o∈l,o.dst≠some t2) (hn:get S0.vec n=some ⟨e,z,rows'⟩) (he:e < 1000000) (ht:get S0.env t7=some (.vec n)) (W:lZ S0 st2) (hl:st2.lv n=false)
  (G:∀a w v',NI K t2 t7 v2 v' z rows' st2 a w→F .normal a w):(Code.region id l.toArray true).wp P F a w:=by
 obtain⟨p,R,h2,h7,S⟩:=h;refine DQ is n0 hK hm hB FV Dw IF h' H hd hd R h2 h2 λa w' p' R' kp h2 _=>?_
 obtain⟨p2,R2,S2,_⟩:=SL.RW R' hn he ht W hl;exact G a w' _ ⟨p2,R2,h2,rfl,S2⟩
theorem QK {ops:Array Oper} {F:Exit→Act→World→Prop} {G:Act→World→Prop} {l:List Oper} (k:Nat) (h:wpList P ops (λe a w=>e=.normal∧G a w) (l.take k) a w) (H:∀a w,G a w→wpList P ops F (l.drop k) a w):wpList P ops F l a w:=by
 have:=wu H _ _ _ h
 rwa [fw] at this
theorem OO {o:Oper} {ops:Array Oper} {rest:List Oper} {Q:Exit→Act→World→Prop} (hg:o.guard=none) (t:TypeId) (x y:Operand) (sB:o.op=.store t x y) (hd:o.dst=none) (g off:Nat) (cur:Array Value) (ty:TypeId) {k:IntKind} {n:Int} (hx:a.eval x=.pointer (some ⟨g,off,none⟩)) (hy:a.eval y=.int k n) (gS:fh P t=some 1)
  (hw:w.heap[g]? =some (.cells cur ty (0,0))) (hl:off < cur.size) (hK:wpList P ops Q rest (a.put none undef) (w.setRow g (cur.setIfInBounds off (.int k n)))):wpList P ops Q (o::rest) a w:=by
 have sV:=mS P g off ty [Value.int k n] 0 cur w hw (by simp;omega) (by simp[Value.oneCell']);have he:(cur.toList.take (off+0)++[Value.int k n]++cur.toList.drop (off+0+[Value.int k n].length)).toArray=cur.setIfInBounds off (.int k n):=by
  apply Array.ext';rw[pV];simp only[ov,fe];rw[List.set_eq_take_append_cons_drop,ai (by simpa using hl)];simp
 rw[he] at sV;refine D9 hg (w':=w.setRow g (cur.setIfInBounds off (.int k n))) ?_ (by rw[hd];exact hK);have hc:(Value.int k n).cells= #[Value.int k n]:=by simp[Value.cells]
 simp only[execOp,sB,hx,hy,Instr.storeAt,Instr.sureAddr,bk,cV,aU,storeVar,eO gS,hc,ne_eq,Array.size_singleton,mD,fe,mC,cS,mU,sV]
theorem Ra {t ty e:TypeId} {zs:List AV} (hu:P.underlying t=some (.slice e)) (hz:fZ P e=some zs) {a b:Option Addr} {n m c:Nat} (hle:n≤m) (w:World):(Builtin.append_ #[t,t] ty #[.slice b n m,.slice a 0 c]).run P w=.ok (.slice b n m) w:=by
 obtain⟨i,zv,hi,_⟩:=nk hz;refine run_append_nothing w t t ty e i hu hi b n m hle _ ?_;cases a with
 |none=>exact Src.ofNil w hu c
 |some a=>exact Src.ofSlice w hu a 0 c [] (by simp) (λj u h=>by simp at h) (λu h=>by cases h)
theorem Ic {t e:TypeId} {z:Nat} (hu:P.underlying t=some (.slice e)) (hz:fh P e=some z) {g n c k:Nat} {k1 k2:IntKind} (h:k≤c) (w:World):(Instr.sliceAt t (.slice (some ⟨g,0,none⟩) n c) none (some (.int k1 (k:Int))) (some (.int k2 (k:Int)))).run P w=.ok (.slice (some ⟨g,0,none⟩) k k) w:=by
 have hb:=C9 (P:=P) (w:=w) (len:=n) (cap:=c) (lo:=none) (vl:=none) (k:=k1) (k':=k2) (h:=(k:Int)) (m:=(k:Int)) (.inl ⟨rfl,rfl⟩) (by simp) (by simp) (su _) (by omega);simp only[Instr.sliceAt,Instr.slice,bk,aJ hu,aU,hb,eO hz,cV];simp;intro _
 rfl
end
end Go.Vl
namespace Go.Vl
open Go Go.RowKit
section
variable {P:Program} {α:Type} {K K0:Ctx P} {st:St} {a:Act} {w w':World} {p:Pl} {hid DA ok nf:Nat→Prop} {f:α→List D} {e e1:TypeId} {z1:Nat} {v:Value} {L:List (D×List α)} {xs:List Value}
structure T5 (w:World) (hid ok:Nat→Prop) (f:α→List D) (e1:TypeId) (z1:Nat) (q:D×List α) (v0 v1:Value):Prop where
 QB:RD w ok q.1 v0
 one:v0.oneCell'=true
 own:∃xv,w.ownsRow 0 e1 z1 v1 q.2.length xv∧∀(i:Nat) (d:D) (u:Value),(ak f q.2).flatten[i]? =some d→xv[i]? =some u→RD w (λ_=>False) d u
 hid:∀g,v1.fN=some g→hid g
structure uf (w:World) (hid ok:Nat→Prop) (f:α→List D) (e e1:TypeId) (z1:Nat) (v:Value) (L:List (D×List α)) (xs:List Value):Prop where
 own:w.ownsRow 0 e 2 v L.length xs
 MN:∀g,v.fN=some g→hid g
 ZG:∀(j:Nat) (q:D×List α),L[j]? =some q→∃v0 v1,xs[2 * j]? =some v0∧xs[2 * j+1]? =some v1∧T5 w hid ok f e1 z1 q v0 v1
 apart:∀(i j:Nat) (u u':Value) (g:Nat),xs[2 * i+1]? =some u→xs[2 * j+1]? =some u'→u.fN=some g→u'.fN=some g→i=j
theorem T5.mono {q:D×List α} {v0 v1:Value} (h:T5 w hid ok f e1 z1 q v0 v1) (hh:∀g,v1.fN=some g→hid g→DA g∧w'.heap[g]? =w.heap[g]?) (ho:∀g,ok g→nf g∧w'.heap[g]? =w.heap[g]?):T5 w' DA nf f e1 z1 q v0 v1:=by
 obtain⟨xv,o1,o2⟩:=h.own;exact⟨h.QB.mono (λq hq=>cT (ho _ hq).2) λb hb=>(ho b hb).1,h.one,⟨xv,lg o1 λg hg=>(hh g hg (h.hid g hg)).2,λi d u h3 h4=>(o2 i d u h3 h4).mono (λ_ h=>h.elim) λ_ h=>h.elim⟩,λg hg=>(hh g hg (h.hid g hg)).1⟩
theorem uf.mono (h:uf w hid ok f e e1 z1 v L xs) (hh:∀g,hid g→DA g∧w'.heap[g]? =w.heap[g]?) (ho:∀g,ok g→nf g∧w'.heap[g]? =w.heap[g]?):uf w' DA nf f e e1 z1 v L xs:=
 ⟨lg h.own λg hg=>(hh g (h.MN g hg)).2,λg hg=>(hh g (h.MN g hg)).1,λj q hq=>by
  obtain⟨v0,v1,g1,g2,g3⟩:=h.ZG j q hq;exact⟨v0,v1,g1,g2,g3.mono (λg _ hg=>hh g hg) ho⟩,h.apart⟩
def HW (K0:Ctx P) (f:α→List D) (e e1:TypeId) (z1 t:Nat) (L:List (D×List α)) (st:St) (a:Act) (w:World):Prop:=
 ∃(K:Ctx P) (p:Pl) (v:Value) (xs:List Value),K.lx=[]∧ur K0 K∧(∀k,K.w0.heap.size≤k∨k∈K.qO→K0.w0.heap.size≤k∨k∈K0.qO)∧Rel K st a w p∧uf w (mY K0 K) (nh K) f e e1 z1 v L xs∧a.eval (.tmp t)=v
theorem uf.keep {p p':Pl} {cM:St} {a':Act} {w':World} (hK:K.lx=[]) (R:Rel K st a w p) (R':Rel K cM a' w' p') (h:uf w (mY K0 K) (nh K) f e e1 z1 v L xs):uf w' (mY K0 K) (nh K) f e e1 z1 v L xs:=
 h.mono (λ_ hg=>⟨hg,(hg.1.heap hK R').trans (hg.1.heap hK R).symm⟩) λ_ hg=>⟨hg,(hg.heap hK R').trans (hg.heap hK R).symm⟩
variable {t:Nat}
theorem HW.qR (h:HW K0 f e e1 z1 t L st a w) {cM:St} (W:lZ st cM):HW K0 f e e1 z1 t L cM a w:=by
 obtain⟨K,p,v,xs,h1,h2,h3,R,h5,h6⟩:=h;obtain⟨p',R',_⟩:=R.oK W;exact⟨K,p',v,xs,h1,h2,h3,R',h5,h6⟩
theorem HW.wk (h:HW K0 f e e1 z1 t L st a w) {cM:St} (W:Wk st cM):HW K0 f e e1 z1 t L cM a w:=by
 obtain⟨K,p,v,xs,h1,h2,h3,R,h5,h6⟩:=h;obtain⟨p',R'⟩:=W K a w p R;exact⟨K,p',v,xs,h1,h2,h3,R',h5,h6⟩
theorem HW.bool (h:HW K0 f e e1 z1 t L st a w) {s:Nat} {c:Bool} (hs:st.look s=.d (.bool c)):a.eval (.tmp s)=.bool c:=by
 obtain⟨K,p,v,xs,h1,h2,h3,R,h5,h6⟩:=h;exact uA R hs
theorem HW.wpl (h:HW K0 f e e1 z1 t L st a w) {ops:Array Oper} {l:List Oper} {st1:St} {F:Exit→Act→World→Prop} (hT:∀K:Ctx P,K.lx=[]→fc P K ops l st (xz st1)) (hd:∀o∈l,o.dst≠some t) (H:∀a w,HW K0 f e e1 z1 t L st1 a w→F .normal a w):wpList P ops F l a w:=by
 obtain⟨K,p,v,xs,h1,h2,h3,R,h5,h6⟩:=h;exact wq (hT K h1) hd R h6 λa' w' p' R' hv=>H a' w' ⟨K,p',v,xs,h1,h2,h3,R',h5.keep h1 R R',hv⟩
theorem HW.xc (h:HW K0 f e e1 z1 t L st a w) {id:Nat} {l:List Oper} {y:Code} {st1:St} {F:Exit→Act→World→Prop} (hT:∀K:Ctx P,K.lx=[]→fc P K l.toArray l st (xz st1)) (hd:∀o∈l,o.dst≠some t) (H:∀a w,HW K0 f e e1 z1 t L st1 a w→y.wp P F a w):(Code.seq (.region id l.toArray false) y).wp P F a w:=
 eU (eW (h.wpl hT hd H))
theorem HW.zM (h:HW K0 f e e1 z1 t L st a w) {id:Nat} {l:List Oper} {st1:St} {F:Exit→Act→World→Prop} (hT:∀K:Ctx P,K.lx=[]→fc P K l.toArray l st (xz st1)) (hd:∀o∈l,o.dst≠some t) (H:∀a w,HW K0 f e e1 z1 t L st1 a w→F .normal a w):(Code.region id l.toArray false).wp P F a w:=
 eW (h.wpl hT hd H)
theorem HW.held (h:HW K0 f e e1 z1 t L st a w) {id:Nat} {l:List Oper} {st1 S0:St} {F:Exit→Act→World→Prop} (is:List Nat) (n:Nat) (hm:P.follows .mixedOrders=true) (hB:(Region.noSelect l.toArray&&decide (is.length+n=l.toArray.size)&&sG l.toArray is (Array.replicate l.toArray.size false))=true)
  {ol:List (Option Oper)} (FV:is.map (l.toArray[·]?)=ol) {os:List Oper} (Dw:ol.filterMap (λx=>x)=os) (IF:ol=os.map some) (h':lB P l.toArray os st=some st1)
  (H:∀K' S F,BC K' S F (λe s=>e=.normal∧lZ s S0)→sD P K' S F l.toArray n (lD is (Array.replicate l.toArray.size false)) st1) (hd:∀o∈l,o.dst≠some t) (G:∀a w,HW K0 f e e1 z1 t L S0 a w→F .normal a w):(Code.region id l.toArray true).wp P F a w:=by
 obtain⟨K,p,v,xs,h1,h2,h3,R,h5,h6⟩:=h;exact DQ is n h1 hm hB FV Dw IF h' H hd hd R h6 h6 λa w' p' R' _ hv _=>G a w' ⟨K,p',v,xs,h1,h2,h3,R',h5.keep h1 R R',hv⟩
theorem HW.start {p:Pl} (R:Rel K0 st a w p) (hK:K0.lx=[]) (ht:st.look t=.dK):HW K0 f e e1 z1 t ([]:List (D×List α)) st a w:=by
 have hv:a.eval (.tmp t)=.slice none 0 0:=by
  have:=R.ca (.tmp t);have ho:ca st (.tmp t)=.dK:=ht;rw[ho] at this;generalize a.eval (.tmp t)=v at this;cases this;rfl
 exact⟨K0,p,.slice none 0 0,[],hK,ur.refl K0,λ_ h=>h,R,⟨mT w _ _ _,λg hg=>(by cases hg),λj q h=>(by simp at h),λi j u u' g h=>(by simp at h)⟩,hv⟩
theorem XJ {β:Type} (g:β→D×D):∀(l:List β) (j:Nat) (q:β),l[j]? =some q→(l.map λx=>[(g x).1,(g x).2]).flatten[2 * j]? =some (g q).1∧(l.map λx=>[(g x).1,(g x).2]).flatten[2 * j+1]? =some (g q).2
 |[],j,q,h=>by simp at h
 |x::l,j,q,h=>by
  rw[aW,eG];cases j with
  |zero=>simp at h;subst h;simp
  |succ j=>
   have:=XJ g l j q (by simpa using h);rw[show 2 * (j+1)=2 * j+2 by omega,show 2 * j+2+1=2 * j+1+2 by omega];simpa using this
theorem HW.back (h:HW K0 f e e1 z1 t L st a w):∃p,Rel K0 st a w p:=by
 obtain⟨K,p,v,xs,h1,h2,h3,R,h5,h6⟩:=h;exact⟨p,h2.rel _ _ _ _ R⟩
theorem HW.show (h:HW K0 f e e1 z1 t L st a w) (hf:∀x,(f x).length=z1):∃p,Rel K0 (st.put t (.d (.slice (L.map λq=>[q.1,.slice (ak f q.2)])))) a w p:=by
 obtain⟨K,p,v,xs,h1,h2,h3,R,h5,h6⟩:=h;have R0:=h2.rel _ _ _ _ R;have hsh:∀g,mY K0 K g→dx K0 w p g:=λg hg=>hg.1.show h1 R hg.2
 have hse:∀g,nh K g→dx K0 w p g:=λg hg=>h2.ok _ _ _ _ g R (hg.dx h1 R)
 refine⟨p,R0.Ql ?_⟩;simp only[Act.eval] at h6;rw[h6];have hl:(L.map λq=>[q.1,D.slice (ak f q.2)]).length=L.length:=by simp
 have eC:=h5.own;rw[← hl] at eC;refine .d (EE eC (λr hr=>by obtain⟨q,_,rfl⟩:=aG.1 hr;rfl) (ok:=dx K0 w p) (λj d u hd hu=>?_) (λ_ h=>h) λg hg=>hsh g (h5.MN g hg));have wj:j < 2 * L.length:=by
  have:=(aj.1 hd).1;rw[ir (z:=2) (λr hr=>by obtain⟨q,_,rfl⟩:=aG.1 hr;rfl),bq] at this;omega
 obtain⟨q,hq⟩:∃q,L[j / 2]? =some q:=⟨_,ae (by omega)⟩;obtain⟨v0,v1,g1,g2,g3⟩:=h5.ZG _ _ hq;have tW:=XJ (λq:D×List α=>(q.1,D.slice (ak f q.2))) L (j / 2) q hq;rcases Nat.mod_two_eq_zero_or_one j with hm |hm
 ·have ej:2 * (j / 2)=j:=by omega
  rw[ej] at g1 tW;rw[hu] at g1;cases g1;rw[hd] at tW;have:=af tW.1;subst this;exact g3.QB.mono (λ_ _=>rfl) hse
 ·have ej:2 * (j / 2)+1=j:=by omega
  rw[ej] at g2 tW;rw[hu] at g2;cases g2;rw[hd] at tW;have:=af tW.2;subst this;obtain⟨xv,o1,o2⟩:=g3.own;have PK:(ak f q.2).length=q.2.length:=by simp[ak]
  rw[← PK] at o1;exact EE o1 (λr hr=>by unfold ak at hr;obtain⟨x,_,rfl⟩:=aG.1 hr;exact hf x) (λi d u h3 h4=>o2 i d u h3 h4) (λ_ h=>h.elim) λg hg=>hsh g (g3.hid g hg)
theorem IC {st1 cM:St} {a1:Act} (R0:Rel K st a w p) (R1:Rel K st1 a1 w p) (hK:K.lx=[]) (W:lZ st1 cM) {w2:World} (hs:w.heap.size≤w2.heap.size) (ho:w2.os=w.os∧w2.tape=w.tape∧w2.output=w.output)
  (iA:∀g,g < w.heap.size→¬mY K0 K g→w2.heap[g]? =w.heap[g]?) (Hy:K0.lx=[]) (hB:ur K0 K) (h6:∀k,K.w0.heap.size≤k∨k∈K.qO→K0.w0.heap.size≤k∨k∈K0.qO):
  ∃K' p',K'.lx=[]∧K'.w0=w2∧Rel K' cM a1 w2 p'∧ur K0 K'∧(∀k,K'.w0.heap.size≤k∨k∈K'.qO→K0.w0.heap.size≤k∨k∈K0.qO)∧(∀g,mY K0 K g→mY K0 K' g)∧(∀g,w.heap.size≤g→g < w2.heap.size→mY K0 K' g)∧(∀g,dx K w p g→nh K' g∧w2.heap[g]? =w.heap[g]?)∧∀g,dx K' w2 p' g→dx K w p g:=by
 have sX:∀n,cM.lb n=true→p.lb n:=λn hn=>by
  obtain⟨cs',Cl⟩:=aY.1 hn;obtain⟨cs,je,_⟩:=mQ W.box Cl;exact(R1.vg n).2 (by simp[St.lb,je])
 have MK:∀n,cM.lv n=true→p.lv n:=λn hn=>by
  obtain⟨s,hs⟩:=aY.1 hn;exact(R1.sT n).2 (by simp[St.lv,mP W.vec hs])
 have SQ:∀g,dx K w p g→w2.heap[g]? =w.heap[g]? :=λg hg=>iA g hg.1 λh=>h.1.WX hg
 have RB:=hB.rel _ _ _ _ R1;obtain⟨K',p',t1,t2,t3,t4,t5,t6,t7,t8,_,t10⟩:=R1.Q1 hK W hs ho SQ (λn hn=>iA _ (R1.blt (sX n hn)) λh=>h.1.bx hK R1 (sX n hn) rfl)
  (λn g hn hg=>iA g (R1.yI (MK n hn) hg).2 λh=>h.1.rw hK R1 (MK n hn) hg) (aM _) K0 hB (λk h1 h2=>iA k (bu h1 RB.size) λh=>by
   rcases h.2 with q |q
   ·omega
   ·exact h2 q) Hy h6
 refine⟨K',p',t1,t2,t3,t5,t6,λg h=>⟨t7 g h.1,h.2⟩,λg h1 h2=>⟨t8 g h1 h2,.inl (bO RB.size h1)⟩,λg hg=>⟨⟨?_,?_,t10 g hg⟩,SQ g hg⟩,λg=>(t4 g).1⟩
 ·rw[t2];exact bu hg.1 hs
 ·have:=(t4 g).2 hg
  rcases this.2.1 with q |q |q
  ·exact q
  ·rw[t2] at q
   have:=hg.1;omega
  ·exact absurd q (t10 g hg)
theorem nK {e:TypeId} {size n:Nat} {xs:List Value} {u:Value} {g:Nat} (h:w.ownsRow 0 e size u n xs) (hg:u.fN=some g):∃cur,w.heap[g]? =some (.cells cur e (0,0)):=by
 rcases h.2 with ⟨h0,_⟩ |⟨g',cap,cur,h0,_,hh,_⟩
 ·rw[h0] at hg;cases hg
 ·rw[h0] at hg
  have:g'=g:=af hg;subst this;exact⟨cur,hh⟩
theorem OG {u:Value} {g:Nat} (h:u.ownBlock=some g):u.fN=some g:=by
 cases u <;> simp[Value.ownBlock] at h
 rename_i ad _ _;cases ad <;> simp at h
 subst h;rfl
theorem uf.inner (H:uf w hid ok f e e1 z1 v L xs) (Td:e≠e1) {k:Nat} {q:D×List α} {c0 c1:Value} (_:xs[k]? =some c1) (h:T5 w hid ok f e1 z1 q c0 c1) {g:Nat} (hg:c1.fN=some g) (hv:v.ownBlock=some g):False:=by
 obtain⟨xv,o1,_⟩:=h.own;obtain⟨c,hc⟩:=nK o1 hg;obtain⟨c',wP⟩:=nK H.own (OG hv);rw[hc] at wP;injection wP with h1
 injection h1 with _ h2
 exact Td h2.symm
theorem uf.push (R:Rel K st a w p) (hK:K.lx=[]) (Hy:K0.lx=[]) (hB:ur K0 K) (h6:∀k,K.w0.heap.size≤k∨k∈K.qO→K0.w0.heap.size≤k∨k∈K0.qO) (H:uf w (mY K0 K) (nh K) f e e1 z1 v L xs)
  {ts:TypeId} (hu:P.underlying ts=some (.slice e)) {ie:TypeInfo} {z:Value} (xC:P.info? e=some ie) (hz:ie.zero=some z) (h2:ie.size=2) (Ul:z.cells.size=2) (Fh:ie.bytes≤65536) {d:D} {v0:Value} (hd:RD w (dx K w p) d v0) (h1:v0.oneCell'=true) (hlen:L.length≤2000000) (Td:e≠e1)
  (acH:Instr.fill (λi=>some (i * ie.size,ie.size)) ((Array.range (1 * ie.size)).map (z.cells[· % z.cells.size]!)) [(0,.agg #[v0,.slice none 0 0])]=some #[v0,.slice none 0 0]) (ty:TypeId):
  ∃v' w1 w2,(Instr.buildSlice ts 1 #[(0,.agg #[v0,.slice none 0 0])]).run P w=.ok (.slice (some ⟨w.heap.size,0,none⟩) 1 1) w1∧(∀g,nh K g→w1.heap[g]? =K.w0.heap[g]?)∧(Builtin.append_ #[ts,ts] ty #[v,.slice (some ⟨w.heap.size,0,none⟩) 1 1]).run P w1=.ok v' w2∧(∀g,nh K g→w2.heap[g]? =K.w0.heap[g]?)∧
   ∀st1 a1 cM,Rel K st1 a1 w p→lZ st1 cM→∃K' p' xs',K'.lx=[]∧K'.w0=w2∧Rel K' cM a1 w2 p'∧ur K0 K'∧(∀k,K'.w0.heap.size≤k∨k∈K'.qO→K0.w0.heap.size≤k∨k∈K0.qO)∧uf w2 (mY K0 K') (nh K') f e e1 z1 v' (L++[(d,[])]) xs':=by
 have gT:=run_buildSlice w ts e 1 #[(0,.agg #[v0,.slice none 0 0])] #[v0,.slice none 0 0] ie z hu xC hz (by rw[h2];decide) (by rw[h2];decide) acH
 let w1:=w.alloc (.cells #[v0,.slice none 0 0] e)
 have gY:w.grownBy w1 none:=kW w _ none;have acn:w1.heap[w.heap.size]? =some (.cells #[v0,.slice none 0 0] e (0,0)):=gE w _;have acg:w1.ownsRow 0 e 2 v L.length xs:=lg H.own λg hg=>gY.block g (bu (H.MN g hg).1.lt R.size) (by simp)
 obtain⟨v',w2,r2,o2,g2,_,b2⟩:=run_append_own_at (P:=P) w1 0 ts ty e ie z 2 ie.bytes hu xC hz h2 rfl Ul (by decide) v L.length xs acg ⟨w.heap.size,0,none⟩ 1 1 [v0,.slice none 0 0] rfl (λj u hj=>by
  unfold World.cell?;rw[block_add];simp only[acn]
  match j,hj with
  |0,hj=>simp at hj;subst hj;rfl
  |1,hj=>simp at hj;subst hj;rfl
  |j+2,hj=>simp at hj) (λu hu=>by
  simp at hu;rcases hu with rfl |rfl
  ·exact h1
  ·rfl) (by simp only[maxLen];omega) (bO (Nat.mul_le_mul (show L.length+1≤2000001 by omega) Fh) (by decide)) (cE _)
 have hvw:∀g,v.ownBlock=some g→mY K0 K g:=λg hg=>H.MN g (OG hg)
 have Bd:∀g,g < w.heap.size→¬mY K0 K g→w2.heap[g]? =w.heap[g]? :=λg hg hn=>(g2.block g (bu hg gY.size) λh=>hn (hvw g h.symm)).trans (gY.block g hg (by simp))
 have SI:∀g,nh K g→w1.heap[g]? =K.w0.heap[g]? :=λg hg=>(gY.block g (hg.dx hK R).1 (by simp)).trans (hg.heap hK R)
 have Ht:∀g,nh K g→w2.heap[g]? =K.w0.heap[g]? :=λg hg=>(Bd g (hg.dx hK R).1 λh=>h.1.WX (hg.dx hK R)).trans (hg.heap hK R)
 refine⟨v',w1,w2,gT,SI,r2,Ht,λst1 a1 cM R1 W=>?_⟩;obtain⟨K',p',t1,t2,t3,t4,t5,t6,t7,t8,t9⟩:=IC R R1 hK W (bO gY.size g2.size) ⟨g2.os.trans gY.os,g2.tape.trans gY.tape,g2.output.trans gY.output⟩ Bd Hy hB h6;refine⟨K',p',xs++[v0,.slice none 0 0],t1,t2,t3,t4,t5,⟨by rw[bF];exact o2,λg hg=>?_,λj q hq=>?_,λi j u u' g hu E8 hg LK=>?_⟩⟩
 ·have h:v'.ownBlock=some g:=(AS o2).symm.trans hg
  rcases b2 with b |b
  ·exact t6 g (hvw g (b▸h))
  ·rw[b] at h
   have hgs:g=w1.heap.size:=(af h).symm;refine t7 g (by rw[hgs];exact gY.size) ?_;obtain⟨c,hc⟩:=nK o2 hg;exact(aL.1 hc).1
 ·have N6:xs.length=L.length * 2:=H.own.1
  by_cases hj:j < L.length
  ·rw[ek hj] at hq
   obtain⟨c0,c1,q1,q2,q3⟩:=H.ZG j q hq;refine⟨c0,c1,by rw[ek (by omega)];exact q1,by rw[ek (by omega)];exact q2,q3.mono (λg hg hh=>⟨t6 g hh,?_⟩) λg hg=>⟨(t8 g (hg.dx hK R)).1,(t8 g (hg.dx hK R)).2⟩⟩;refine(g2.block g (bu (bu hh.1.lt R.size) gY.size) λh=>?_).trans (gY.block g (bu hh.1.lt R.size) (by simp));exact H.inner Td q2 q3 hg h.symm
  ·have wj:j=L.length:=by
    have:=(aj.1 hq).1;simp at this;omega
   subst wj;rw[fF (aM _)] at hq;simp at hq;subst hq;refine⟨v0,.slice none 0 0,by rw[fF (by omega)];simp[N6,kT],by rw[fF (by omega)];simp[N6,kT],⟨hd.mono (λq hq=>cT (t8 _ hq).2) λb hb=>(t8 b hb).1,h1,⟨[],mT _ _ _ _,λi d u h=>by simp[ak] at h⟩,λg hg=>by cases hg⟩⟩
 ·have N6:xs.length=L.length * 2:=H.own.1
  have lt:∀(k:Nat) (x:Value) g,(xs++[v0,.slice none 0 0])[2 * k+1]? =some x→x.fN=some g→xs[2 * k+1]? =some x:=λk x g hx hb=>by
   by_cases hk:2 * k+1 < xs.length
   ·rwa [ek hk] at hx
   ·rw[fF (by omega)] at hx
    have:2 * k+1 - xs.length=1:=by
     have:=(aj.1 hx).1;simp at this;omega
    rw[this] at hx;simp at hx;subst hx;cases hb
  exact H.apart i j u u' g (lt i u g hu hg) (lt j u' g E8 LK) hg LK
theorem uf.load (H:uf w hid ok f e e1 z1 v L xs) {j:Nat} {q:D×List α} (hj:L[j]? =some q):∃g c v1,v=.slice (some ⟨g,0,none⟩) L.length c∧L.length≤c∧xs[2 * j+1]? =some v1∧w.cell? ⟨g,2 * j+1,none⟩=some v1∧v1.oneCell'=true:=by
 obtain⟨v0,v1,g1,g2,g3⟩:=H.ZG j q hj;have wj:=(aj.1 hj).1;rcases H.own.2 with ⟨_,h0⟩ |⟨g,cap,cur,h0,_,hh,hc,_,hs,ht⟩
 ·omega
 ·refine⟨g,cap,v1,h0,hc,g2,?_,?_⟩
  ·unfold World.cell?
   rw[← ht] at g2;have iN:2 * j+1 < L.length * 2:=by omega
   rw[dR iN,bo] at g2;simp only[hh];exact g2
  ·obtain⟨xv,o1,_⟩:=g3.own
   rcases o1.2 with ⟨h,_⟩ |⟨_,_,_,h,_⟩ <;> (rw [h];rfl)
theorem uf.place (R:Rel K st a w p) (hK:K.lx=[]) (Hy:K0.lx=[]) (hB:ur K0 K) (h6:∀k,K.w0.heap.size≤k∨k∈K.qO→K0.w0.heap.size≤k∨k∈K0.qO) (H:uf w (mY K0 K) (nh K) f e e1 z1 v L xs) (Td:e≠e1)
  {ts:TypeId} (YY:P.underlying ts=some (.slice e1)) {zs:List AV} (Aw:fZ P e1=some zs) (BF:zs.length=z1) (rW:0 < z1) (Fh:wV P e1=true) (tW:∀x,∀d∈f x,qC d) (Uu:∀x,(f x).length=z1)
  {j:Nat} {q:D×List α} (hj:L[j]? =some q) {g c:Nat} (hv:v=.slice (some ⟨g,0,none⟩) L.length c) {v1:Value} (zy:xs[2 * j+1]? =some v1) {y:AV} {u:Value} {x:α} (hy:rowsOf st y=some [f x]) (PC:RA w (dx K w p) p y u) (gS:q.2.length+1≤268435456) (ty:TypeId):
  ∃yJ w1,(Builtin.append_ #[ts,ts] ty #[v1,u]).run P w=.ok yJ w1∧(∀g,nh K g→w1.heap[g]? =K.w0.heap[g]?)∧∃w2,(storeCells ⟨g,2 * j+1,none⟩ [yJ] 0).run P w1=.ok () w2∧(yJ.cells= #[yJ]∧(∀g,nh K g→w2.heap[g]? =K.w0.heap[g]?))∧
   ∀st1 a1 cM,Rel K st1 a1 w p→lZ st1 cM→∃K' p' xs',K'.lx=[]∧K'.w0=w2∧Rel K' cM a1 w2 p'∧ur K0 K'∧(∀k,K'.w0.heap.size≤k∨k∈K'.qO→K0.w0.heap.size≤k∨k∈K0.qO)∧uf w2 (mY K0 K') (nh K') f e e1 z1 v (L.set j (q.1,q.2++[x])) xs':=by
 subst BF;have wj:=(aj.1 hj).1;obtain⟨v0,yJ,q1,q2,q3⟩:=H.ZG j q hj;rw[zy] at q2;cases q2;obtain⟨xv,eC,Du⟩:=q3.own;have KK:(ak f q.2).length=q.2.length:=by simp[ak]
 rw[← KK] at eC;obtain⟨yJ,w1,Jr,gT,nS,hg,hblk,SG⟩:=zb (ty:=ty) YY Aw rW Fh R eC hy PC (by simpa using Uu x) (by simpa[ak] using gS) (λr hr=>by
  unfold ak at hr;obtain⟨y,_,rfl⟩:=aG.1 hr;exact Uu y) (λi d v h1 h2=>(Du i d v h1 h2).mono (λ_ h=>h.elim) (λ_ h=>h.elim))
 have Tc:∀(i:Nat) (d:D),(ak f (q.2++[x])).flatten[i]? =some d→qC d:=λi d hd=>by
  obtain⟨r,hr,hd⟩:=uv.1 (bm hd);unfold ak at hr;obtain⟨y,_,rfl⟩:=aG.1 hr;exact tW y d hd
 have yn:ak f q.2++[f x]=ak f (q.2++[x]):=by simp[ak]
 rw[yn] at nS SG;have CZ:(ak f (q.2++[x])).length=(q.2++[x]).length:=by simp[ak]
 rw[CZ] at nS;have KC:v.fN=some g:=by rw[hv];rfl
 have hgh:=H.MN g KC;have xh:g < w.heap.size:=bu hgh.1.lt R.size;have VP:v1.fN≠some g:=λh=>by
  obtain⟨c0,Ux⟩:=nK eC h;obtain⟨c1,Zk⟩:=nK H.own KC;rw[Ux] at Zk;injection Zk with h1
  injection h1 with _ h2
  exact Td h2.symm
 obtain⟨cap,cur,hh,je,hct,V0,hcm⟩:∃cap cur,w.heap[g]? =some (.cells cur e (0,0))∧cur.size=cap * 2∧cur.toList.take (L.length * 2)=xs∧L.length≤cap∧(c=cap∧cap≤maxLen):=by
  rcases H.own.2 with ⟨_,h0⟩ |⟨g',cap,cur,h0,_,hh,hc,hm,hs,ht⟩
  ·omega
  ·rw[hv] at h0
   injection h0 with a1 a2 a3
   injection a1 with a1
   injection a1 with a1
   subst a1;exact⟨cap,cur,hh,hs,ht,hc,a3,hm⟩
 have gY:w1.heap[g]? =some (.cells cur e (0,0)):=(hg.block g xh (λh=>VP h.symm)).trans hh;have iN:2 * j+1 < cur.size:=by omega
 have vj:yJ.oneCell'=true:=by rcases nS.2 with ⟨h,_⟩ |⟨_,_,_,h,_⟩ <;> (rw [h];rfl)
 have sV:=mS P g (2 * j+1) e [yJ] 0 cur w1 gY (by simp;omega) (by simpa using vj);have he:(cur.toList.take (2 * j+1+0)++[yJ]++cur.toList.drop (2 * j+1+0+[yJ].length)).toArray=cur.setIfInBounds (2 * j+1) yJ:=by
  apply Array.ext';rw[pV];simp only[ov,fe];rw[List.set_eq_take_append_cons_drop,ai (by simpa using iN)];simp
 rw[he] at sV;have agu:yJ.cells= #[yJ]:=by rcases nS.2 with ⟨h,_⟩ |⟨_,_,_,h,_⟩ <;> (rw [h];rfl)
 obtain⟨w2,PD⟩:∃w2,w2=w1.setRow g (cur.setIfInBounds (2 * j+1) yJ):=⟨_,rfl⟩;have akQ:g < w1.heap.size:=bu xh hg.size;have h2g:w2.heap[g]? =some (.cells (cur.setIfInBounds (2 * j+1) yJ) e (0,0)):=by
  rw[PD];unfold World.setRow;simp only[dJ,gY,eM];simp
 have Zs:∀k,k≠g→w2.heap[k]? =w1.heap[k]? :=λk hk=>by
  rw[PD];unfold World.setRow;simp only[dJ];rw[ah (eN hk)]
 have h2s:w2.heap.size=w1.heap.size:=by rw[PD];simp[World.setRow]
 have h2o:w2.os=w1.os∧w2.tape=w1.tape∧w2.output=w1.output:=by rw[PD];exact⟨rfl,rfl,rfl⟩
 rw[← PD] at sV;have abW:=q3.hid;have acp:∀k,k < w.heap.size→¬mY K0 K k→w1.heap[k]? =w.heap[k]? :=λk hk hn=>hg.block k hk λh=>hn (abW k h.symm)
 have aco:∀k,k < w.heap.size→¬mY K0 K k→w2.heap[k]? =w.heap[k]? :=λk hk hn=>(Zs k λh=>hn (h▸hgh)).trans (acp k hk hn)
 have ab6:∀k,nh K k→w1.heap[k]? =K.w0.heap[k]? :=λk hk=>(acp k (hk.dx hK R).1 λh=>h.1.WX (hk.dx hK R)).trans (hk.heap hK R)
 have ab5:∀k,nh K k→w2.heap[k]? =K.w0.heap[k]? :=λk hk=>(aco k (hk.dx hK R).1 λh=>h.1.WX (hk.dx hK R)).trans (hk.heap hK R)
 refine⟨yJ,w1,gT,ab6,w2,sV,⟨agu,ab5⟩,λst1 a1 cM R1 W=>?_⟩;obtain⟨K',p',t1,t2,t3,t4,t5,t6,t7,t8,t9⟩:=IC R R1 hK W (by rw[h2s];exact hg.size) ⟨h2o.1.trans hg.os,h2o.2.1.trans hg.tape,h2o.2.2.trans hg.output⟩ aco Hy hB h6;have N6:xs.length=L.length * 2:=H.own.1;have ab0:∀k,yJ.fN=some k→mY K0 K' k:=λk hk=>by
  rcases hblk with h |h
  ·exact t6 k (abW k (h▸hk))
  ·rw[h] at hk
   have Zb:k=w.heap.size:=(af hk).symm;refine t7 k (by omega) ?_;obtain⟨c0,Ux⟩:=nK nS (g:=k) (by rw[h,Zb]);rw[h2s];exact(aL.1 Ux).1
 have ab1:yJ.fN≠some g:=λh=>by
  obtain⟨c0,Ux⟩:=nK nS h;rw[gY] at Ux;injection Ux with h1
  injection h1 with _ h2
  exact Td h2
 refine⟨K',p',xs.set (2 * j+1) yJ,t1,t2,t3,t4,t5,⟨?_,λk hk=>t6 k (H.MN k hk),λi r hi=>?_,λi i' u1 u2 k Uo Un uO KL=>?_⟩⟩
 ·refine⟨by rw[jf,jf];exact N6,.inr ⟨g,c,_,by rw[jf];exact hv,cE _,h2g,by rw[jf];omega,by omega,by rw[Array.size_setIfInBounds];omega,?_⟩⟩
  rw[jf,pV,List.take_set,hct]
 ·by_cases rY:i=j
  ·subst rY
   rw[kV wj] at hi;cases hi;refine⟨v0,yJ,by rw[iF (by omega)];exact q1,by rw[kV (by omega)],⟨q3.QB.mono (λr hr=>cT (t8 _ (hr.dx hK R)).2) λb hb=>(t8 b (hb.dx hK R)).1,q3.one,⟨Jr,lg nS λk hk=>Zs k λh=>ab1 (h▸hk),λi d v h1 h2=>(Tc i d h1).rd (SG i d v h1 h2)⟩,ab0⟩⟩
  ·rw[iF (eN rY)] at hi
   obtain⟨c0,c1,r1,r2,r3⟩:=H.ZG i r hi;refine⟨c0,c1,by rw[iF (by omega)];exact r1,by rw[iF (by omega)];exact r2,r3.mono (λk hk hhk=>⟨t6 k hhk,?_⟩) λk hk=>⟨(t8 k (hk.dx hK R)).1,(t8 k (hk.dx hK R)).2⟩⟩;have MM:=bu hhk.1.lt R.size;refine(Zs k λh=>?_).trans (hg.block k MM λh=>rY (H.apart i j c1 v1 k r2 zy hk h.symm));obtain⟨xv2,o1,_⟩:=r3.own;obtain⟨b0,Jl⟩:=nK o1 hk;rw[h,hh] at Jl;injection Jl with h7
   injection h7 with _ h8
   exact Td h8
 ·have old:∀(i:Nat) (x:Value),i≠j→(xs.set (2 * j+1) yJ)[2 * i+1]? =some x→xs[2 * i+1]? =some x:=λi x hi hx=>by rwa [iF (by omega)] at hx
  have new:∀(i:Nat) (x:Value),i≠j→xs[2 * i+1]? =some x→x.fN=some k→yJ.fN=some k→False:=λi x hi hx Ax hk=>by
   rcases hblk with h |h
   ·exact hi (H.apart i j x v1 k hx zy Ax (h▸hk))
   ·have ph:i < L.length:=by have:=(aj.1 hx).1;omega
    obtain⟨c0,c1,r1,r2,r3⟩:=H.ZG i _ (ae ph);rw[hx] at r2;cases r2;have:=bu (r3.hid k Ax).1.lt R.size;rw[h] at hk;have:w.heap.size=k:=af hk;omega
  by_cases h1:i=j <;> by_cases h2:i'=j
  ·omega
  ·subst h1
   rw[kV (by omega)] at Uo;cases Uo;exact(new i' u2 h2 (old i' u2 h2 Un) KL uO).elim
  ·subst h2
   rw[kV (by omega)] at Un;cases Un;exact(new i u1 h1 (old i u1 h1 Uo) uO KL).elim
  ·exact H.apart i i' u1 u2 k (old i u1 h1 Uo) (old i' u2 h2 Un) uO KL
theorem HW.draw (h:HW K0 f e e1 z1 t L st a w) {cM:St} (W:lZ st cM) (Hy:K0.lx=[]) (hm:P.follows .mixedOrders=true) {id:Nat} {ops:Array Oper} {F:Exit→Act→World→Prop}
  (H:∀(K:Ctx P) (p:Pl) (v:Value) (xs:List Value) (w:World),K.lx=[]→ur K0 K→(∀k,K.w0.heap.size≤k∨k∈K.qO→K0.w0.heap.size≤k∨k∈K0.qO)→Rel K cM a w p→uf w (mY K0 K) (nh K) f e e1 z1 v L xs→a.eval (.tmp t)=v→(∀g,dx K w p g→nh K g)→
   wpAnyH P .any ops F (ng K) ops.size (Array.replicate ops.size false) a w):(Code.region id ops true).wp P F a w:=by
 obtain⟨K,p,v,xs,h1,h2,h3,R,h5,h6⟩:=h;have R1:Rel K st a ({ w with drawn:=w.drawn+1 }:World) p:=R.drew;have h5':uf ({ w with drawn:=w.drawn+1 }:World) (mY K0 K) (nh K) f e e1 z1 v L xs:=h5.mono (λ_ h=>⟨h,rfl⟩) λ_ h=>⟨h,rfl⟩
 obtain⟨K',p',t1,t2,t3,t4,t5,t6,t7,t8,t9⟩:=IC (w2:=({ w with drawn:=w.drawn+1 }:World)) R1 R1 h1 W (aM _) ⟨rfl,rfl,rfl⟩ (λ_ _ _=>rfl) Hy h2 h3;refine ug hm (H K' p' v xs _ t1 t4 t5 t3 (h5'.mono (λg hg=>⟨t6 g hg,rfl⟩) λg hg=>⟨(t8 g (hg.dx h1 R1)).1,rfl⟩) h6 λg hg=>(t8 g (t9 g hg)).1)
end
end Go.Vl
namespace Go.Vl
open Go Go.RowKit
section
variable {P:Program} {α:Type} {K K0:Ctx P} {st:St} {a:Act} {w w':World} {p:Pl} {f:α→List D} {e e1:TypeId} {z1 t:Nat} {v:Value} {L:List (D×List α)} {xs:List Value}
theorem XV {ops:Array Oper} {F:Exit→Act→World→Prop} {Q':Act→World→Prop} {i:Nat} {o:Oper} {st1:St} (ho:ops[i]? =some o) (hT:fc P K ops [o] st (xz st1)) (hd:o.dst≠some t) (R:Rel K st a w p) (hv:a.eval (.tmp t)=v)
  (H:∀a w p,Rel K st1 a w p→a.eval (.tmp t)=v→Q' a w):wpOp P ops F i Q' a w:=by
 have hh:=wq (F:=λe a w=>e=.normal∧Q' a w) hT (by simpa using hd) R hv λa w p R hv=>⟨rfl,H a w p R hv⟩
 have hn:∀a w,wpList P ops (λe a w=>e=.normal∧Q' a w) [] a w→Q' a w:=λa w h=>h.2
 unfold wpList at hh;unfold wpOp;simp only[ho];split
 ·rename_i hw
  rw[ai hw] at hh;rcases hh with hh |⟨h1,a0,w0,q,_⟩
  ·left
   unfold Oper.wp at hh ⊢;generalize (execOp a.eval o).run P w=r at hh ⊢;cases r with
   |ok n w'=>
    cases n <;> simp only[Oper.upon] at hh ⊢
    case value v=>exact hn _ _ hh
    case skip=>exact hn _ _ hh
    case defer d=>exact hn _ _ hh
    case enter f args=>
     refine qE hh λe F3 he=>?_
     cases e with
     |returned v=>exact hn _ _ he
     |panicked c=>exact absurd he.1 (by simp)
     |outgrown=>obtain⟨a0,w0,q,_⟩:=he;exact absurd q (by simp)
    case row row args=>exact Rows.mono hh λv F3 he=>hn _ _ he
   |halt x w'=>
    cases x <;> simp only[Oper.upon] at hh ⊢
    case panic v=>exact absurd hh.1 (by simp)
  ·exact absurd q (by simp)
 ·rename_i hw
  rw[ah hw] at hh;exact hn _ _ hh
theorem OL {ops:Array Oper} {F:Exit→Act→World→Prop} {Q':Act→World→Prop} {i:Nat} {o:Oper} (ho:ops[i]? =some o) (hg:o.guard=none) (hd:o.dst=none) (hr:(execOp a.eval o).run P w=.ok .skip w') (h:Q' (a.put none undef) w'):wpOp P ops F i Q' a w:=by
 unfold wpOp;simp only[ho];rw[show Region.wanted o (yielded ops a.tmps)=true by simp[Region.wanted,hg],ai rfl];refine .inl ?_;unfold Oper.wp;rw[hr];show Q' (a.put o.dst undef) w';rw[hd];exact h
theorem D' {t e:TypeId} {z g n c i:Nat} {k:IntKind} (hu:P.underlying t=some (.slice e)) (hz:fh P e=some z) (h:i < n) (w:World):(Instr.indexAt t (.slice (some ⟨g,0,none⟩) n c) (.int k (i:Int))).run P w=.ok (.pointer (some ⟨g,i * z,none⟩)) w:=by
 have h1:(i:Int) < (n:Int):=by omega
 have h0:(0:Int)≤(i:Int):=by omega
 simp[Instr.indexAt,aJ hu,asIntOf,h0,h1,eO hz,ix];exact λh=>absurd h (by omega)
theorem Ea {s:TypeId} {o x g q:Nat} (hu:(match P.underlying s with |some (.struct fs)=>(fs[x]?).bind λfd=>(match fh P fd.type with |some (_+1)=>some fd.offset |_=>none) |_=>none)=some o) (w:World):(Instr.fieldAt s (.pointer (some ⟨g,q,none⟩)) x).run P w=.ok (.pointer (some ⟨g,q+o,none⟩)) w:=by
 split at hu
 case h_2=>cases hu
 rename_i fs hs;cases hf:fs[x]? with
 |none=>simp[hf] at hu
 |some fd=>
  simp only[hf,aa] at hu;split at hu
  case h_2=>cases hu
  rename_i k hk;cases hu;simp[Instr.fieldAt,Instr.sureAddr,aJ hs,hf,fieldPlace,eO hk,ix]
theorem Md {t:TypeId} {b:Addr} {u:Value} (hz:fh P t=some 1) (hc:u.cells= #[u]) (sV:(storeCells b [u] 0).run P w=.ok () w'):(Instr.storeAt t (.pointer (some b)) u).run P w=.ok () w':=by
 simp only[Instr.storeAt,Instr.sureAddr,bk,cV,aU,storeVar,eO hz,hc,ne_eq,Array.size_singleton,mC,cS,mU,sV]
theorem T2 {ok:Nat→Prop} {x:D} {u:Value} (h:RA w ok p (.agg [.d x,.dK]) u):∃v0,u=.agg #[v0,.slice none 0 0]∧RD w ok x v0∧v0.oneCell'=true:=by
 cases h with
 |agg hl h h1=>
  rename_i cs;obtain⟨l,rfl⟩:∃l,cs=l.toArray:=⟨cs.toList,by simp⟩
  match l,hl with
  |[v0,v1],_=>
   have g0:=h 0 (.d x) v0 rfl rfl;have g1:=h 1 .dK v1 rfl rfl;cases g1;cases g0 with
   |d g0=>exact⟨v0,rfl,g0,h1 0 v0 rfl⟩
theorem ac5 {c0 c1 v0 v1:Value}:Instr.fill (λi=>some (i * 2,2)) #[c0,c1] [(0,.agg #[v0,v1])]=some #[v0,v1]:=by
 simp[Instr.fill,Value.cells]
 try rfl
theorem aht {c0 c1:Value}:(Array.map (λx=>(Value.agg #[c0,c1]).cells[x % (Value.agg #[c0,c1]).cells.size]!) (Array.range (1 * 2)))= #[c0,c1]:=by
 have:Array.range (1 * 2)= #[0,1]:=by decide
 rw[this];simp[Value.cells]
theorem Pc (hK:K.lx=[]) (Hy:K0.lx=[]) (hB:ur K0 K) (h6:∀k,K.w0.heap.size≤k∨k∈K.qO→K0.w0.heap.size≤k∨k∈K0.qO) (R:Rel K st a w p) (H:uf w (mY K0 K) (nh K) f e e1 z1 v L xs)
  {ts:TypeId} (hu:P.underlying ts=some (.slice e)) {by0:Nat} {c0 c1:Value} (xC:(P.info? e).map (λi=>(i.size,i.bytes,i.zero))=some (2,by0,some (.agg #[c0,c1]))) (Fh:by0≤65536) (hlen:L.length≤2000000) (Td:e≠e1)
  {ops:Array Oper} {listed:Array Bool} {i1 i2 i3 xv xx d1 d2:Nat} {o1 o2 o3:Oper} (Uq:ops[i1]? =some o1) (FW:ops[i2]? =some o2) (Y5:ops[i3]? =some o3) (gY:o1.guard=none) (vR:o2.guard=none) (MO:o3.guard=none) (MS:o1.dst=some d1) (Ff:o2.dst=some d2) (hd3:o3.dst=some t)
  (SO:o1.op=.buildSlice ts 1 #[(0,.tmp xx)]) (SN:o2.op=.call { callee:=.builtin .append,args:=#[.tmp xv,.tmp d1],argTypes:=#[ts,ts]}) (Y2:o3.op=.assign (.tmp d2))
  (Oa:Region.ready .any ops listed=[i1]) (CX:Region.ready .any ops (listed.setIfInBounds i1 true)=[i2]) (Ji:Region.ready .any ops ((listed.setIfInBounds i1 true).setIfInBounds i2 true)=[i3]) (hr4:Region.ready .any ops (((listed.setIfInBounds i1 true).setIfInBounds i2 true).setIfInBounds i3 true)=[])
  {d:D} (hx:ca st (.tmp xx)=.agg [.d d,.dK]) (xn:a.eval (.tmp xv)=v) (h1v:d1≠xv) (IJ:d1 < st.nt) (II:d2 < st.nt) (zX:t < st.nt) {cM:St} (W:lZ (((st.put d1 .undef).put d2 .undef).put t .undef) cM):
  wpAnyH P .any ops (λe' a w=>e'=.normal∧HW K0 f e e1 z1 t (L++[(d,[])]) cM a w) (ng K) 3 listed a w:=by
 have Um:=R.ca (.tmp xx);rw[hx] at Um;obtain⟨v0,ha,hd0,vj⟩:=T2 Um;cases hi:P.info? e with
 |none=>rw[hi] at xC;cases xC
 |some ie=>
 rw[hi] at xC;simp only[cr,ba,jx] at xC;obtain⟨hs2,agw,hz⟩:=xC;obtain⟨v',w1,w2,r1,s1,r2,s2,fin⟩:=H.push R hK Hy hB h6 hu hi hz hs2 (by simp[Value.cells]) (by rw[agw];exact Fh) hd0 vj hlen Td (by rw[hs2,show(Array.map (λx=>(Value.agg #[c0,c1]).cells[x % (Value.agg #[c0,c1]).cells.size]!) (Array.range (1 * 2)))= #[c0,c1] from aht];exact ac5) o2.type;refine fv Oa (by simp) λi hi=>?_
 rw[aD.1 hi];refine mF Uq gY (v:=.slice (some ⟨w.heap.size,0,none⟩) 1 1) (w':=w1) (by
  have:(a.eval (.tmp xx))=_:=ha;simp[execOp,SO,this,r1]) ⟨s1,?_⟩
 rw[MS];have q1:(a.put (some d1) (.slice (some ⟨w.heap.size,0,none⟩) 1 1)).eval (.tmp d1)=.slice (some ⟨w.heap.size,0,none⟩) 1 1:=dm (by rw[R.nt];exact IJ);have q2:(a.put (some d1) (.slice (some ⟨w.heap.size,0,none⟩) 1 1)).eval (.tmp xv)=v:=(fI (by simpa using h1v)).trans xn;have R1:=R.put (d:=d1) (x:=.undef) (v:=.slice (some ⟨w.heap.size,0,none⟩) 1 1) .undef IJ;generalize a.put (some d1) (.slice (some ⟨w.heap.size,0,none⟩) 1 1)=a1 at *;refine fv CX (by simp) λi hi=>?_
 rw[aD.1 hi];refine mF FW vR (v:=v') (w':=w2) (by simp[execOp,SN,resolve,invoke,builtin,q1,q2,r2]) ⟨s2,?_⟩;rw[Ff];have q3:(a1.put (some d2) v').eval (.tmp d2)=v':=dm (by rw[R1.nt];exact II);have R2:=R1.put (d:=d2) (x:=.undef) (v:=v') .undef II;generalize a1.put (some d2) v'=a2 at *;refine fv Ji (by simp) λi hi=>?_
 rw[aD.1 hi];refine mF Y5 MO (v:=v') (w':=w2) (by simp[execOp,Y2,q3]) ⟨s2,?_⟩;rw[hd3];have q4:(a2.put (some t) v').eval (.tmp t)=v':=dm (by rw[R2.nt];exact zX);have R3:=R2.put (d:=t) (x:=.undef) (v:=v') .undef zX;obtain⟨K',p',xs',u1,u2,u3,u4,u5,u6⟩:=fin _ _ _ R3 W;exact wpAnyH_done hr4 ⟨rfl,K',p',v',xs',u1,u4,u5,u3,u6,q4⟩ _
theorem Hp (hK:K.lx=[]) (Hy:K0.lx=[]) (hB:ur K0 K) (h6:∀k,K.w0.heap.size≤k∨k∈K.qO→K0.w0.heap.size≤k∨k∈K0.qO) (R:Rel K st a w p) (H:uf w (mY K0 K) (nh K) f e e1 z1 v L xs) (Td:e≠e1)
  {ts:TypeId} (YY:P.underlying ts=some (.slice e1)) (hzt:fh P ts=some 1) {zs:List AV} (Aw:fZ P e1=some zs) (BF:zs.length=z1) (rW:0 < z1) (Fh:wV P e1=true) (tW:∀x,∀d∈f x,qC d) (Uu:∀x,(f x).length=z1)
  {j:Nat} {q:D×List α} (hj:L[j]? =some q) {g c:Nat} (hv:v=.slice (some ⟨g,0,none⟩) L.length c) {v1:Value} (zy:xs[2 * j+1]? =some v1) {x:α} (gS:q.2.length+1≤268435456)
  {sg so:TypeId} {fx:Nat} (hug:P.underlying sg=some (.slice so)) (hzg:fh P so=some 2) (Xy:(match P.underlying so with |some (.struct fs)=>(fs[fx]?).bind λfd=>(match fh P fd.type with |some (_+1)=>some fd.offset |_=>none) |_=>none)=some 1)
  {ops:Array Oper} {listed:Array Bool} {i1 i2 i3 i4 xv xy x3 x4 d1 d3 d4:Nat} {ki:IntKind} {o1 o2 o3 o4:Oper} (Uq:ops[i1]? =some o1) (Y5:ops[i3]? =some o3) (ho4:ops[i4]? =some o4) (FW:ops[i2]? =some o2) (gY:o1.guard=none) (MO:o3.guard=none) (Og:o4.guard=none) (vR:o2.guard=none) (MS:o1.dst=some d1) (hd3:o3.dst=some d3) (hd4:o4.dst=some d4) (Ff:o2.dst=none)
  (SO:o1.op=.call { callee:=.builtin .append,args:=#[.tmp xv,.tmp xy],argTypes:=#[ts,ts]}) (Y2:o3.op=.indexAddr sg (.tmp x3) (.tmp x4)) (afP:o4.op=.fieldAddr so (.tmp d3) fx) (SN:o2.op=.store ts (.tmp d4) (.tmp d1)) (Oa:Region.ready .any ops listed=[i1]) (CX:Region.ready .any ops (listed.setIfInBounds i1 true)=[i3]) (Ji:Region.ready .any ops ((listed.setIfInBounds i1 true).setIfInBounds i3 true)=[i4])
  (hr4:Region.ready .any ops (((listed.setIfInBounds i1 true).setIfInBounds i3 true).setIfInBounds i4 true)=[i2]) (hr5:Region.ready .any ops ((((listed.setIfInBounds i1 true).setIfInBounds i3 true).setIfInBounds i4 true).setIfInBounds i2 true)=[])
  (xn:a.eval (.tmp xv)=v1) (hx3:a.eval (.tmp x3)=v) (hx4:a.eval (.tmp x4)=.int ki (j:Int)) (hxt:a.eval (.tmp t)=v) (hd:d1≠x3∧d1≠x4∧d1≠t∧d3≠t∧d4≠t∧d3≠d1∧d4≠d1) (nW:d1 < st.nt∧d3 < st.nt∧d4 < st.nt)
  (hy:rowsOf st (ca st (.tmp xy))=some [f x]) {cM:St} (W:lZ (((st.put d1 .undef).put d3 .undef).put d4 .undef) cM):
  wpAnyH P .any ops (λe' a w=>e'=.normal∧HW K0 f e e1 z1 t (L.set j (q.1,q.2++[x])) cM a w) (ng K) 4 listed a w:=by
 obtain⟨yJ,w1,r1,s1,w2,r2,⟨hc2,s2⟩,fin⟩:=H.place R hK Hy hB h6 Td YY Aw BF rW Fh tW Uu hj hv zy hy (R.ca (.tmp xy)) gS o1.type;have hjL:j < L.length:=(aj.1 hj).1;obtain⟨n1,n2,n3,n4,n5,n6,n7⟩:=hd;obtain⟨m1,m3,m4⟩:=nW;refine fv Oa (by simp) λi hi=>?_
 rw[aD.1 hi];refine mF Uq gY (v:=yJ) (w':=w1) (by simp[execOp,SO,resolve,invoke,builtin,xn,r1]) ⟨s1,?_⟩;rw[MS];have q1:(a.put (some d1) yJ).eval (.tmp d1)=yJ:=dm (by rw[R.nt];exact m1);have q3:(a.put (some d1) yJ).eval (.tmp x3)=v:=(fI (by simpa using n1)).trans hx3;have q4:(a.put (some d1) yJ).eval (.tmp x4)=_:=(fI (by simpa using n2)).trans hx4;have qt:(a.put (some d1) yJ).eval (.tmp t)=v:=(fI (by simpa using n3)).trans hxt;have R1:=R.put (d:=d1) (x:=.undef) (v:=yJ) .undef m1;clear hxt hx3 hx4 xn;generalize a.put (some d1) yJ=a1 at *;refine fv CX (by simp) λi hi=>?_
 rw[aD.1 hi];rw[hv] at q3;refine mF (v:=.pointer (some ⟨g,j * 2,none⟩)) (w':=w1) Y5 MO (by simp[execOp,Y2,q3,q4,D' hug hzg hjL]) ⟨s1,?_⟩;rw[hd3];have q5:(a1.put (some d3) (.pointer (some ⟨g,j * 2,none⟩))).eval (.tmp d3)=_:=dm (by rw[R1.nt];exact m3);have q6:(a1.put (some d3) (.pointer (some ⟨g,j * 2,none⟩))).eval (.tmp d1)=yJ:=(fI (by simpa using n6)).trans q1;have q7:(a1.put (some d3) (.pointer (some ⟨g,j * 2,none⟩))).eval (.tmp t)=v:=(fI (by simpa using n4)).trans qt;have R2:=R1.put (d:=d3) (x:=.undef) (v:=.pointer (some ⟨g,j * 2,none⟩)) .undef m3;clear q1 q3 q4 qt;generalize a1.put (some d3) (.pointer (some ⟨g,j * 2,none⟩))=a2 at *;refine fv Ji (by simp) λi hi=>?_
 rw[aD.1 hi];refine mF (v:=.pointer (some ⟨g,j * 2+1,none⟩)) (w':=w1) ho4 Og (by simp[execOp,afP,q5,Ea Xy]) ⟨s1,?_⟩;rw[hd4];have q8:(a2.put (some d4) (.pointer (some ⟨g,j * 2+1,none⟩))).eval (.tmp d4)=_:=dm (by rw[R2.nt];exact m4);have q9:(a2.put (some d4) (.pointer (some ⟨g,j * 2+1,none⟩))).eval (.tmp d1)=yJ:=(fI (by simpa using n7)).trans q6;have q10:(a2.put (some d4) (.pointer (some ⟨g,j * 2+1,none⟩))).eval (.tmp t)=v:=(fI (by simpa using n5)).trans q7;have R3:=R2.put (d:=d4) (x:=.undef) (v:=.pointer (some ⟨g,j * 2+1,none⟩)) .undef m4;clear q5 q6 q7;generalize a2.put (some d4) (.pointer (some ⟨g,j * 2+1,none⟩))=a3 at *;rw[kT j 2] at q8;refine fv hr4 (by simp) λi hi=>?_
 rw[aD.1 hi];refine OL (w':=w2) FW vR Ff (by simp[execOp,SN,q8,q9,Md hzt hc2 r2]) ⟨s2,?_⟩;obtain⟨K',p',xs',u1,u2,u3,u4,u5,u6⟩:=fin _ _ _ R3 W;exact wpAnyH_done hr5 ⟨rfl,K',p',v,xs',u1,u4,u5,u3,u6,(fI (by simp)).trans q10⟩ _
theorem uf.look (H:uf w (mY K0 K) (nh K) f e e1 z1 v L xs) {j:Nat} {q:D×List α} (hj:L[j]? =some q) {t2:TypeId} (XF:∀w,(isAgg t2).run P w=.ok false w):∃g c v1,v=.slice (some ⟨g,0,none⟩) L.length c∧xs[2 * j+1]? =some v1∧(Instr.loadAt t2 (.pointer (some ⟨g,2 * j+1,none⟩))).run P w=.ok v1 w:=by
 obtain⟨g,c,v1,h1,h2,h3,h4,h5⟩:=H.load hj;refine⟨g,c,v1,h1,h3,?_⟩;simp[Instr.loadAt,Instr.sureAddr,loadVar,XF,h4]
end
end Go.Vl
