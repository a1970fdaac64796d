/- The value logic, a bytes-to-bytes conversion of an owned row: the row is read only from then on. Conditions: none. -/
import Derived.Test.YtjnflahicimmlaaGreatDoorVmN
import Derived.Test.YtjnflahicimmlaaGreatDoorVmRst
set_option linter.unusedSimpArgs false
set_option linter.unusedVariables false
namespace Go.Vl
open Go Go.RowKit
section
variable {P:Program} {K:Ctx P} {st:St} {a:Act} {w:World} {p:Pl} {ops:Array Oper} {Q:Exit→St→Prop}
end
end Go.Vl
namespace Go.Vl
open Go Go.RowKit
inductive Lp (σ ε:Type) where
 |go (s:σ)
 |out (e:ε)
def E2 {σ ε:Type} (body:σ→Option (Lp σ ε)):Nat→σ→Option ε
 |0,_=>none
 |n+1,s=>match body s with
  |none=>none
  |some (.go s')=>E2 body n s'
  |some (.out e)=>some e
theorem E1 {σ ε:Type} {body:σ→Option (Lp σ ε)}:∀{n m:Nat} {s:σ} {e:ε},n≤m→E2 body n s=some e→E2 body m s=some e
 |0,_,_,_,_,h=>by simp[E2] at h
 |n+1,0,_,_,hle,_=>by omega
 |n+1,m+1,s,e,hle,h=>by
  simp only[E2] at h ⊢;split at h
  ·cases h
  ·exact E1 (by omega) h
  ·exact h
open Classical in
noncomputable def iter {σ ε:Type} (body:σ→Option (Lp σ ε)) (s:σ):Option ε:=
 if h:∃n e,E2 body n s=some e then some (Classical.choose (de h)) else none
theorem tS {σ ε:Type} {body:σ→Option (Lp σ ε)} {s:σ} {e:ε}:iter body s=some e↔∃n,E2 body n s=some e:=by
 unfold iter;split
 ·rename_i h
  have hc:=de (de h)
  constructor
  ·intro h2;cases h2;exact⟨_,hc⟩
  ·rintro⟨n,hn⟩
   have h1:=E1 (Nat.le_max_left n (Classical.choose h)) hn;have h2:=E1 (Nat.le_max_right n (Classical.choose h)) hc;rw[h1] at h2;exact h2.symm
 ·rename_i h
  exact⟨λh2=>(by cases h2),λ⟨n,hn⟩=>absurd ⟨n,e,hn⟩ h⟩
theorem fT {σ ε:Type} {body:σ→Option (Lp σ ε)} {s s':σ} (h:body s=some (.go s')):iter body s=iter body s':=by
 refine Option.ext λe=>?_
 rw[tS,tS]
 constructor
 ·rintro⟨n,hn⟩
  cases n with
  |zero=>simp[E2] at hn
  |succ n=>simp only[E2,h] at hn;exact⟨n,hn⟩
 ·rintro⟨n,hn⟩;exact⟨n+1,by simp only[E2,h];exact hn⟩
theorem dP {σ ε:Type} {body:σ→Option (Lp σ ε)} {s:σ} {e:ε} (h:body s=some (.out e)):iter body s=some e:=tS.2 ⟨1,by simp[E2,h]⟩
theorem qu {σ ε:Type} {body:σ→Option (Lp σ ε)} (inv:σ→Prop) (μ:σ→Nat) (R:ε→Prop)
  (h:∀s,inv s→(∃s',body s=some (.go s')∧inv s'∧μ s' < μ s)∨∃e,body s=some (.out e)∧R e):∀{s:σ},inv s→∃e,iter body s=some e∧R e:=by
 have key:∀(n:Nat) (s:σ),μ s < n→inv s→∃e,iter body s=some e∧R e:=λn=>by
  induction n with
  |zero=>intro s hs;omega
  |succ n ih=>
   intro s hs hi;rcases h s hi with ⟨s',h1,h2,h3⟩ |⟨e,h1,h2⟩
   ·rw[fT h1];exact ih s' (by omega) h2
   ·exact⟨e,dP h1,h2⟩
 exact λ{s} hi=>key _ s (Nat.lt_succ_self _) hi
def ck (p:Prop) [Decidable p]:Option Unit:=if p then some () else none
theorem bT {p:Prop} [Decidable p] {u:Unit} (h:ck p=some u):p:=by unfold ck at h;split at h;assumption;cases h
theorem eV {p:Prop} [Decidable p] (h:p):ck p=some ():=ai h
def idx {α:Type} (l:List α) (i:Int):Option α:=if 0≤i then l[i.toNat]? else none
theorem bD {α:Type} {l:List α} {i:Int} {x:α} (h:idx l i=some x):0≤i∧l[i.toNat]? =some x:=by unfold idx at h;split at h;exact⟨‹_›,h⟩;cases h
theorem A8 {α:Type} (l:List α) (i:Nat):idx l (i:Int)=l[i]? :=by simp[idx]
theorem bI {α β:Type} {x:Option α} {f:α→Option β} {r:β} (h:x.bind f=some r):∃y,x=some y∧f y=some r:=jW.1 h
def ak {α:Type} (f:α→List D) (l:List α):List (List D):=l.map f
section
variable {α:Type} {f:α→List D}
theorem Ie (l:List α):(ak f l).length=l.length:=by simp[ak]
theorem BS (l:List α) (i:Nat):(ak f l)[i]? =l[i]?.map f:=by simp[ak]
theorem Ig (l m:List α):ak f (l++m)=ak f l++ak f m:=by simp[ak]
theorem O4:ak f []=[]:=rfl
theorem wE (x:α) (l:List α):ak f (x::l)=f x::ak f l:=rfl
theorem Me (l:List α) (n:Nat):(ak f l).take n=ak f (l.take n):=by simp[ak,List.map_take]
theorem Mg (l:List α) (n:Nat):(ak f l).drop n=ak f (l.drop n):=by simp[ak,List.map_drop]
theorem Mf (l:List α):(ak f l).tail=ak f l.tail:=by cases l <;> rfl
theorem GS {z:Nat} (l:List α):(∀r∈ak f l,r.length=z)↔∀x∈l,(f x).length=z:=by simp[ak]
theorem GR (l:List α) (n:Nat) (x:α):ak f (l.set n x)=(ak f l).set n (f x):=by simp[ak,List.map_set]
end
def aH (k:IntKind) (n:Int):List D:=[.int k n]
def gm (b:Bool):List D:=[.bool b]
def mW (b:ByteArray):List D:=[.str b]
def uE {α:Type} (f:α→List D) (l:List α):List D:=[.slice (ak f l)]
def arD {α:Type} [Inhabited α] (l:List α) (i:Nat):α:=l.getD i default
theorem TS {α:Type} [Inhabited α] (x:α) (l:List α):arD (x::l) 0=x:=rfl
theorem TT {α:Type} [Inhabited α] (x:α) (l:List α) (n:Nat):arD (x::l) (n+1)=arD l n:=rfl
def Ni {α:Type} [Inhabited α] (f:α→List D) (l:List α):Nat→Nat→List D
 |_,0=>[]
 |k,n+1=>f (arD l k)++Ni f l (k+1) n
def ado {α:Type} [Inhabited α] (n:Nat) (f:α→List D) (l:List α):List D:=Ni f l 0 n
def CB {α:Type} (f:α→List D):List α→List AV
 |[]=>[]
 |x::l=>(f x).map .d++CB f l
theorem TU {α:Type} {f:α→List D} (lb lv:Nat→Bool) (l:List α):AV.we lb lv (CB f l)=true:=by
 have key:∀m:List D,AV.we lb lv (m.map .d)=true:=λm=>by induction m with |nil=>rfl |cons x m ih=>simp[AV.we,AV.wf,ih]
 have app:∀m n:List AV,AV.we lb lv m=true→AV.we lb lv n=true→AV.we lb lv (m++n)=true:=λm n h1 h2=>by
  induction m with
  |nil=>exact h2
  |cons x m ih=>simp only[cv,AV.we,aR] at h1 ⊢;exact⟨h1.1,ih h1.2⟩
 induction l with
 |nil=>rfl
 |cons x l ih=>exact app _ _ (key _) ih
theorem Wu {α:Type} {f:α→List D} (n:Nat) (rows:D) (l:List α):AV.Gu n rows (CB f l)=CB f l:=by
 have key:∀m:List D,(m.map AV.d).map (AV.sY n rows)=m.map .d:=λm=>by simp[AV.sY]
 rw[Bg]
 induction l with
 |nil=>rfl
 |cons x l ih=>simp only[CB,bV,ih,key]
def Wk (s s':St):Prop:=∀{P:Program} (K:Ctx P) (a:Act) (w:World) (p:Pl),Rel K s a w p→∃p',Rel K s' a w p'
theorem wk {s s':St} (W:lZ s s'):Wk s s':=λ_ _ _ _ R=>⟨_,R.qR W⟩
theorem cq {s s':St} (W:lZ s s':=by simp[bw]):Wk s s':=wk W
theorem Wk.trans {s s' s'':St} (h:Wk s s') (h':Wk s' s''):Wk s s'':=λK a w p R=>by obtain⟨p',R'⟩:=h K a w p R;exact h' K a w p' R'
theorem pX {s:St} (t n:Nat) (e:TypeId) (z:Nat) (ht:s.look t=.dK) (hn:get s.vec n=none) (he:e < 1000000:=by decide):Wk s ({ s with vec:=(n,⟨e,z,[]⟩)::s.vec }.put t (.vec n)):=λ_ _ _ _ R=>R.own ht hn e z he
theorem BJ {s:St} (n:Nat):Wk s (s.sY n):=λ_ _ _ _ R=>by obtain⟨p',R',_⟩:=R.sY n;exact⟨p',R'⟩
section
variable {P:Program} {K:Ctx P} {st:St} {Q:Exit→St→Prop}
theorem dp {c:Code} {st1:St} (W:Wk st st1) (h:Tr P K c st1 Q):Tr P K c st Q:=λa w p R=>by obtain⟨p',R'⟩:=W K a w p R;exact h a w p' R'
theorem lA {ops:Array Oper} {l:List Oper} {st1:St} (W:Wk st st1) (h:fc P K ops l st1 Q):fc P K ops l st Q:=λa w p R=>by obtain⟨p',R'⟩:=W K a w p R;exact h a w p' R'
theorem qF {x z:Code} {ν:Type} (S:ν→St) (G:ν→Prop) (HZ:∀v,G v→Tr P K z (S v) Q) (HX:Tr P K x st (sF (λs=>∃v,G v∧Wk s (S v)) Q)):Tr P K (.seq x z) st Q:=
 aF (Nx HX λe s q=>by
  cases e with
  |normal=>obtain⟨v,g,W⟩:=q;exact dp W (HZ v g)
  |_=>exact q)
theorem oa {x:Code} {ν:Type} (S:ν→St) (G:ν→Prop) (HZ:∀v,G v→∀s,Wk s (S v)→Q .normal s) (HX:Tr P K x st (sF (λs=>∃v,G v∧Wk s (S v)) Q)):Tr P K x st Q:=
 Nx HX λe s q=>by
  cases e with
  |normal=>obtain⟨v,g,W⟩:=q;exact HZ v g s W
  |_=>exact q
theorem cA {c:Code} {σ ε:Type} {body:σ→Option (Lp σ ε)} (S:σ→St) {s0:σ} {e:ε} (hI:iter body s0=some e) (W:Wk st (S s0))
  (round:∀(G:σ→Prop) (s:σ) (o:Lp σ ε),body s=some o→(∀s',.go s'=o→G s')→(∀e',.out e'=o→e'=e)→Tr P K c (S s) (sF (λcM=>∃s',G s'∧Wk cM (S s')) Q)):Tr P K (.loop c) st Q:=λa w p R=>by
 obtain⟨p1,R1⟩:=W K a w p R;obtain⟨n0,hn0⟩:=tS.1 hI;exact gG (λn a' w'=>∃s p',E2 body n s=some e∧Rel K (S s) a' w' p') n0 ⟨s0,_,hn0,R1⟩ (λn a' w' ⟨s,p',hn,R'⟩=>by
  cases n with
  |zero=>simp[E2] at hn
  |succ n=>
   simp only[E2] at hn;cases hb:body s with
   |none=>simp[hb] at hn
   |some o=>
    rw[hb] at hn;refine hU (round (λs'=>E2 body n s'=some e) s o hb (λs' h=>by subst h;exact hn) (λe' h=>by subst h;simpa using hn) a' w' p' R') λx a2 w2 ⟨t,p2,R2,q⟩=>?_
    cases x with
    |normal=>
     obtain⟨s',g,W2⟩:=q;obtain⟨p3,R3⟩:=W2 K a2 w2 p2 R2;exact⟨n,Nat.lt_succ_self n,s',p3,g,R3⟩
    |_=>exact⟨t,p2,R2,q⟩)
def ddp {α:Type}:List (Nat×α)→List (Nat×α)
 |[]=>[]
 |(k,v)::l=>(k,v)::del (ddp l) k
theorem IT {α:Type}:∀(l:List (Nat×α)) (n:Nat),get (ddp l) n=get l n
 |[],_=>rfl
 |(k,v)::l,n=>by
  simp only[ddp,get,iG,IT l];by_cases h:k=n
  ·simp[h]
  ·simp[h]
def YE (env:List (Nat×AV)):List Nat→List (Nat×AV)
 |[]=>[]
 |t::l=>match get env t with |some x=>(t,x)::YE env l |none=>YE env l
theorem IS {env:List (Nat×AV)}:∀{l:List Nat} {t:Nat} {x:AV},get (YE env l) t=some x→get env t=some x
 |[],_,_,h=>by cases h
 |u::l,t,x,h=>by
  simp only[YE] at h;cases hq:get env u with
  |none=>rw[hq] at h;exact IS h
  |some y=>
   rw[hq] at h;simp only[get] at h;split at h
   ·rename_i e;subst e;cases h;exact hq
   ·exact IS h
def St.kp (l:List Nat) (st:St):St:={ nt:=st.nt,env:=YE st.env l,box:=ddp st.box,vec:=ddp st.vec }
theorem CG {st:St} (l:List Nat):Wk st (st.kp l):=λK a w p R=>by
 refine⟨p,Rel.eqv (st:={ st with env:=YE st.env l }) ?_ ⟨rfl,λt=>rfl,λn=>IT _ _,λn=>IT _ _⟩⟩;exact { lb:=R.lb,lv:=R.lv,pj:=R.pj,nt:=R.nt,pK:=R.pK,oB:=R.oB,size:=R.size,os:=R.os,tape:=R.tape,dr:=R.dr,output:=R.output,old:=R.old,env:=λt x h=>R.env t x (IS h),box:=R.box,vec:=R.vec,oF:=R.oF,my:=R.my,mX:=R.mX }
def rk (P:Program) (ops:Array Oper) (l:List Oper) (st:St) (ks:List Nat):Option St:=(runs P ops l st).map (St.kp ks)
theorem NG {ops:Array Oper} {l:List Oper} {ks:List Nat} {st1:St} (h:rk P ops l st ks=some st1):∃s,runs P ops l st=some s∧Wk s st1:=by
 unfold rk at h;cases hr:runs P ops l st with
 |none=>simp[hr] at h
 |some s=>simp[hr] at h;subst h;exact⟨s,rfl,CG ks⟩
theorem kr {id:Nat} {l:List Oper} {y:Code} {st1:St} (ks:List Nat) (h:rk P l.toArray l st ks=some st1) (H:Tr P K y st1 Q):Tr P K (.seq (.region id l.toArray false) y) st Q:=by
 obtain⟨s,h1,h2⟩:=NG h;exact aF (yK (vC l.length (by rw[ll];exact h1) (by rw[uz];exact ar (dp h2 H))))
theorem kR {id:Nat} {l:List Oper} {y:Code} {st1:St} (ks:List Nat) (H:Tr P K y st1 Q) (h:rk P l.toArray l st ks=some st1:=by simp;rfl):Tr P K (.seq (.region id l.toArray false) y) st Q:=kr ks h H
theorem ko {ops:Array Oper} {l:List Oper} {st1:St} (ks:List Nat) (k:Nat) (h:rk P ops (l.take k) st ks=some st1) (H:fc P K ops (l.drop k) st1 Q):fc P K ops l st Q:=by
 obtain⟨s,h1,h2⟩:=NG h;exact vC k h1 (lA h2 H)
theorem kO {ops:Array Oper} {l:List Oper} {st1:St} (ks:List Nat) (k:Nat) (H:fc P K ops (l.drop k) st1 Q) (h:rk P ops (l.take k) st ks=some st1:=by simp;rfl):fc P K ops l st Q:=ko ks k h H
theorem kc {id:Nat} {l:List Oper} {y:Code} (H:fc P K l.toArray l st (sF (λs=>Tr P K y s Q) Q)):Tr P K (.seq (.region id l.toArray false) y) st Q:=aF (yK H)
theorem kd {id:Nat} {l:List Oper} {y:Code} (As:List (List Nat)) (C:List Nat) (W:List (Nat×List Nat)) (V:Option (Nat×Nat)) (T:List Nat) (n:Nat) (hm:P.follows .mixedOrders=true) (hB:K6 l.toArray As C W V T n=true) (hV:Qu V T W st=true) (h:CF P K l st As C W V T n (sF (λs=>Tr P K y s Q) Q) []):Tr P K (.seq (.region id l.toArray true) y) st Q:=aF (K7 As C W V T n hm hB hV h)
theorem qH {id:Nat} {l:List Oper} (H:fc P K l.toArray l st Q):Tr P K (.region id l.toArray false) st Q:=yK H
theorem Sx {id:Nat} {l:List Oper} (As:List (List Nat)) (C:List Nat) (W:List (Nat×List Nat)) (V:Option (Nat×Nat)) (T:List Nat) (n:Nat) (hm:P.follows .mixedOrders=true) (hB:K6 l.toArray As C W V T n=true) (hV:Qu V T W st=true) (h:CF P K l st As C W V T n Q []):Tr P K (.region id l.toArray true) st Q:=K7 As C W V T n hm hB hV h
theorem GV {a:Act} {w:World} {p:Pl} {t:Nat} {x:AV} (R:Rel K st a w p) (hx:x≠.undef) (h:st.look t=x):Rel K (st.put t x) a w p:=by
 refine R.eqv ⟨rfl,λu=>?_,λ_=>rfl,λ_=>rfl⟩;simp only[St.put,get];split
 ·rename_i e
  subst e;unfold St.look at h;cases hg:get st.env t with
  |none=>rw[hg] at h;exact absurd h.symm hx
  |some y=>rw[hg] at h;simpa using h.symm
 ·rfl
theorem bh {ops:Array Oper} {l:List Oper} (t:Nat) (b:Bool) (hl:st.look t=.d (.bool b)) (ht:b=true→fc P K ops l (st.put t (.d (.bool true))) Q) (hf:b=false→fc P K ops l (st.put t (.d (.bool false))) Q):fc P K ops l st Q:=λa w p R=>by
 cases b with
 |true=>exact ht rfl a w p (GV R (by simp) hl)
 |false=>exact hf rfl a w p (GV R (by simp) hl)
theorem mL {l:List Oper} {As:List (List Nat)} {C:List Nat} {W:List (Nat×List Nat)} {V:Option (Nat×Nat)} {T:List Nat} {n:Nat} {es:List mN} (j t:Nat) (b:Bool) (hl:es[j]? =some ⟨some t,.d (.bool b),none,[],none,none⟩) (ht:b=true→CF P K l st As C W V T n Q (es.set j ⟨some t,.d (.bool true),none,[],none,none⟩)) (hf:b=false→CF P K l st As C W V T n Q (es.set j ⟨some t,.d (.bool false),none,[],none,none⟩)):CF P K l st As C W V T n Q es:=by
 have key:∀x,es[j]? =some x→es.set j x=es:=λx hx=>by
  refine eH λi=>?_
  rw[iV];split
  ·rename_i e;subst e;split
   ·exact hx.symm
   ·rename_i h;rw[fy (by omega)] at hx;cases hx
  ·rfl
 cases b with
 |true=>have:=ht rfl;rwa [key _ hl] at this
 |false=>have:=hf rfl;rwa [key _ hl] at this
theorem jg {ops:Array Oper} {f:FuncId} {bx:List (List AV)} {fb:List AV} {res:AV} {bx':List (List AV)} {o:Oper} {c:Call} {l:List Oper} {d:Nat} {st1:St} (ks σ:List Nat) (F:dY P f bx fb res bx') (ho:o.op=.call c) (hc:c.callee=.value (.func f)) (hd:o.dst=some d)
  (jz:∀(args:Array Value) (w:World),(callFunc f args).run P w=.ok (.enter f args) w)
  (tX:pW ops st o=some true∧d < st.nt∧σ.Nodup∧(c.args.toList.map (ca st)).map (AV.view [] [] σ)=fb∧lI st [] σ σ bx∧bx.length=bx'.length)
  (hs:St.kp ks ({ st with box:=iw [] σ σ bx' st.box }.put d (res.back [] σ))=st1)
  (h:fc P K ops l st1 Q):fc P K ops (o::l) st Q:=by
 obtain⟨hg,nW,hσ,eZ,sX,hl⟩:=tX;subst hs;exact OU σ F hg ho hc hd jz nW hσ eZ sX hl (lA (CG ks) h)
theorem ku {ops:Array Oper} {f:FuncId} {fb:List AV} {res:AV} {o:Oper} {c:Call} {l:List Oper} {d:Nat} {st1:St} (ks:List Nat) (F:dY P f [] fb res []) (jz:∀(args:Array Value) (w:World),(callFunc f args).run P w=.ok (.enter f args) w)
  (h:fc P K ops l st1 Q) (ho:o.op=.call c:=by rfl) (hc:c.callee=.value (.func f):=by rfl) (hd:o.dst=some d:=by rfl)
  (tX:pW ops st o=some true∧d<st.nt∧([]:List Nat).Nodup∧(c.args.toList.map (ca st)).map (AV.view [] [] [])=fb∧lI st [] [] [] []∧([]:List (List AV)).length=([]:List (List AV)).length:=by simp)
  (hs:St.kp ks ({ st with box:=iw [] [] [] [] st.box }.put d (res.back [] []))=st1:=by simp;rfl):fc P K ops (o::l) st Q:=jg ks [] F ho hc hd jz tX hs h
theorem MH {ops:Array Oper} {f:FuncId} {fb:List AV} {res:AV} {o:Oper} {c:Call} {y:Operand} {l:List Oper} {d:Nat} {st1:St} (ks:List Nat) (F:dY P f [] fb res []) (ho:o.op=.call c) (hc:c.callee=.value y) (hd:o.dst=some d)
  (jz:∀(args:Array Value) (w:World),(callFunc f args).run P w=.ok (.enter f args) w)
  (tX:pW ops st o=some true∧d < st.nt∧∃caps,ca st y=.fn f caps∧(c.args.toList.map (ca st)++caps).map (AV.view st.vec [] [])=fb)
  (hs:St.kp ks (st.put d res.QA)=st1)
  (h:fc P K ops l st1 Q):fc P K ops (o::l) st Q:=by
 obtain⟨hg,nW,eZ⟩:=tX;subst hs;exact LY F hg ho hc hd jz nW eZ (lA (CG ks) h)
theorem jQ {ops:Array Oper} {f:FuncId} {bx:List (List AV)} {vx:List VS} {fb:List AV} {res:AV} {bx':List (List AV)} {vx':List VS} {o:Oper} {c:Call} {y:Operand} {l:List Oper} {d:Nat} {st1:St} (ks σ τ υ:List Nat) (F:nV P f bx vx fb res bx' vx') (ho:o.op=.call c) (hc:c.callee=.value y) (hd:o.dst=some d)
  (jz:∀(args:Array Value) (w:World),(callFunc f args).run P w=.ok (.enter f args) w)
  (tX:pW ops st o=some true∧d < st.nt∧σ.Nodup∧τ.Nodup∧υ.Nodup∧(∃caps,ca st y=.fn f caps∧(c.args.toList.map (ca st)++caps).map (AV.view [] τ σ)=fb)∧lI st τ σ σ bx∧sQ st τ vx∧bx.length=bx'.length∧υ.length=vx'.length∧(∀n∈υ,n∈τ∨get st.vec n=none))
  (hs:St.kp ks ((lX st σ τ υ bx' vx').put d (res.back υ σ))=st1)
  (h:fc P K ops l st1 Q):fc P K ops (o::l) st Q:=by
 obtain⟨hg,nW,hσ,hτ,hυ,eZ,sX,MK,hl,S1,LL⟩:=tX;subst hs;exact DX σ τ υ F ho hc hd jz ⟨hg,nW,hσ,hτ,hυ,eZ,sX,MK,hl,S1,LL⟩ (lA (CG ks) h)
end
end Go.Vl
