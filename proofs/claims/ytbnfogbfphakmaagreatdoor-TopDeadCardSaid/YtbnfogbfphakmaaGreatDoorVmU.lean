/- The value logic: what a function computes as a plain function that may fail, loops included, and the rules that tie a walk to it. Conditions: none. -/
import Derived.Test.YtbnfogbfphakmaaGreatDoorVmRst
import Derived.Test.YtbnfogbfphakmaaGreatDoorVmP
set_option linter.unusedSimpArgs false
set_option linter.unusedVariables false
namespace Go.Vl
open Go Go.RowKit
inductive Lp (σ ε:Type) where
 |go (s:σ)
 |out (e:ε)
def itN {σ ε:Type} (body:σ→Option (Lp σ ε)):Nat→σ→Option ε
 |0,_=>none
 |n+1,s=>match body s with
  |none=>none
  |some (.go s')=>itN body n s'
  |some (.out e)=>some e
theorem JD {σ ε:Type} {body:σ→Option (Lp σ ε)}:∀{n m:Nat} {s:σ} {e:ε},n≤m→itN body n s=some e→itN body m s=some e
 |0,_,_,_,_,h=>by simp[itN] at h
 |n+1,0,_,_,hle,_=>by omega
 |n+1,m+1,s,e,hle,h=>by
  simp only[itN] at h ⊢
  split at h
  ·cases h
  ·exact JD (by omega) h
  ·exact h
open Classical in
noncomputable def iter {σ ε:Type} (body:σ→Option (Lp σ ε)) (s:σ):Option ε:=
 if h:∃n e,itN body n s=some e then some (Classical.choose (Classical.choose_spec h)) else none
theorem EL {σ ε:Type} {body:σ→Option (Lp σ ε)} {s:σ} {e:ε}:iter body s=some e↔∃n,itN body n s=some e:=by
 unfold iter
 split
 ·rename_i h
  have hc:=Classical.choose_spec (Classical.choose_spec h)
  constructor
  ·intro h2;cases h2;exact⟨_,hc⟩
  ·rintro⟨n,hn⟩
   have h1:=JD (Nat.le_max_left n (Classical.choose h)) hn
   have h2:=JD (Nat.le_max_right n (Classical.choose h)) hc
   rw[h1] at h2;exact h2.symm
 ·rename_i h
  exact⟨fun h2=>(by cases h2),fun ⟨n,hn⟩=>absurd ⟨n,e,hn⟩ h⟩
theorem Ga {σ ε:Type} {body:σ→Option (Lp σ ε)} {s s':σ} (h:body s=some (.go s')):iter body s=iter body s':=by
 refine Option.ext fun e=>?_
 rw[EL,EL]
 constructor
 ·rintro⟨n,hn⟩
  cases n with
  |zero=>simp[itN] at hn
  |succ n=>simp only[itN,h] at hn;exact⟨n,hn⟩
 ·rintro⟨n,hn⟩;exact⟨n+1,by simp only[itN,h];exact hn⟩
theorem Cf {σ ε:Type} {body:σ→Option (Lp σ ε)} {s:σ} {e:ε} (h:body s=some (.out e)):iter body s=some e:=EL.2 ⟨1,by simp[itN,h]⟩
theorem IW {σ ε:Type} {body:σ→Option (Lp σ ε)} (inv:σ→Prop) (μ:σ→Nat) (R:ε→Prop)
  (h:∀s,inv s→(∃s',body s=some (.go s')∧inv s'∧μ s' < μ s)∨∃e,body s=some (.out e)∧R e):∀{s:σ},inv s→∃e,iter body s=some e∧R e:=by
 have key:∀(n:Nat) (s:σ),μ s < n→inv s→∃e,iter body s=some e∧R e:=fun n=>by
  induction n with
  |zero=>intro s hs;omega
  |succ n ih=>
   intro s hs hi
   rcases h s hi with ⟨s',h1,h2,h3⟩ |⟨e,h1,h2⟩
   ·rw[Ga h1];exact ih s' (by omega) h2
   ·exact⟨e,Cf h1,h2⟩
 exact fun {s} hi=>key _ s (Nat.lt_succ_self _) hi
def ck (p:Prop) [Decidable p]:Option Unit:=if p then some () else none
theorem AZ {p:Prop} [Decidable p] {u:Unit} (h:ck p=some u):p:=by unfold ck at h;split at h;assumption;cases h
theorem Cn {p:Prop} [Decidable p] (h:p):ck p=some ():=if_pos h
def idx {α:Type} (l:List α) (i:Int):Option α:=if 0≤i then l[i.toNat]? else none
theorem AT {α:Type} {l:List α} {i:Int} {x:α} (h:idx l i=some x):0≤i∧l[i.toNat]? =some x:=by unfold idx at h;split at h;exact⟨‹_›,h⟩;cases h
theorem TB {α:Type} (l:List α) (i:Nat):idx l (i:Int)=l[i]? :=by simp[idx]
theorem bnd {α β:Type} {x:Option α} {f:α→Option β} {r:β} (h:x.bind f=some r):∃y,x=some y∧f y=some r:=Option.bind_eq_some_iff.1 h
def AB {α:Type} (f:α→List D) (l:List α):List (List D):=l.map f
section
variable {α:Type} {f:α→List D}
theorem LG (l:List α):(AB f l).length=l.length:=by simp[AB]
theorem PM (l:List α) (i:Nat):(AB f l)[i]? =l[i]?.map f:=by simp[AB]
theorem LH (l m:List α):AB f (l++m)=AB f l++AB f m:=by simp[AB]
theorem PN:AB f []=[]:=rfl
theorem F9 (x:α) (l:List α):AB f (x::l)=f x::AB f l:=rfl
theorem NC (l:List α) (n:Nat):(AB f l).take n=AB f (l.take n):=by simp[AB,List.map_take]
theorem ND (l:List α) (n:Nat):(AB f l).drop n=AB f (l.drop n):=by simp[AB,List.map_drop]
theorem NE (l:List α):(AB f l).tail=AB f l.tail:=by cases l <;> rfl
theorem PO {z:Nat} (l:List α):(∀r∈AB f l,r.length=z)↔∀x∈l,(f x).length=z:=by simp[AB]
theorem PP (l:List α) (n:Nat) (x:α):AB f (l.set n x)=(AB f l).set n (f x):=by simp[AB,List.map_set]
end
def AH (k:IntKind) (n:Int):List D:=[.int k n]
def B2 (b:Bool):List D:=[.bool b]
def Qc (b:ByteArray):List D:=[.str b]
def DJ {α:Type} (f:α→List D) (l:List α):List D:=[.slice (AB f l)]
def arD {α:Type} [Inhabited α] (l:List α) (i:Nat):α:=l.getD i default
theorem Qd {α:Type} [Inhabited α] (x:α) (l:List α):arD (x::l) 0=x:=rfl
theorem Qe {α:Type} [Inhabited α] (x:α) (l:List α) (n:Nat):arD (x::l) (n+1)=arD l n:=rfl
def NF {α:Type} [Inhabited α] (f:α→List D) (l:List α):Nat→Nat→List D
 |_,0=>[]
 |k,n+1=>f (arD l k)++NF f l (k+1) n
def Y3 {α:Type} [Inhabited α] (n:Nat) (f:α→List D) (l:List α):List D:=NF f l 0 n
def arC {α:Type} (f:α→List D):List α→List AV
 |[]=>[]
 |x::l=>(f x).map .d++arC f l
theorem Qf {α:Type} {f:α→List D} (lb lv:Nat→Bool) (l:List α):AV.wfL lb lv (arC f l)=true:=by
 have key:∀m:List D,AV.wfL lb lv (m.map .d)=true:=fun m=>by induction m with |nil=>rfl |cons x m ih=>simp[AV.wfL,AV.wf,ih]
 have app:∀m n:List AV,AV.wfL lb lv m=true→AV.wfL lb lv n=true→AV.wfL lb lv (m++n)=true:=fun m n h1 h2=>by
  induction m with
  |nil=>exact h2
  |cons x m ih=>simp only[List.cons_append,AV.wfL,Bool.and_eq_true] at h1 ⊢;exact⟨h1.1,ih h1.2⟩
 induction l with
 |nil=>rfl
 |cons x l ih=>exact app _ _ (key _) ih
theorem TC {α:Type} {f:α→List D} (n:Nat) (rows:D) (l:List α):AV.frzL n rows (arC f l)=arC f l:=by
 have key:∀m:List D,(m.map AV.d).map (AV.frz n rows)=m.map .d:=fun m=>by simp[AV.frz]
 rw[GL]
 induction l with
 |nil=>rfl
 |cons x l ih=>simp only[arC,List.map_append,ih,key]
def Wk (s s':St):Prop:=∀{P:Program} (K:Ctx P) (a:Act) (w:World) (p:Pl),Rel K s a w p→∃p',Rel K s' a w p'
theorem wk {s s':St} (W:D1 s s'):Wk s s':=fun _ _ _ _ R=>⟨_,R.weak W⟩
theorem Wk.trans {s s' s'':St} (h:Wk s s') (h':Wk s' s''):Wk s s'':=fun K a w p R=>by obtain⟨p',R'⟩:=h K a w p R;exact h' K a w p' R'
theorem HM {s:St} (t n:Nat) (e:TypeId) (z:Nat) (ht:s.look t=.nilS) (hn:get s.vec n=none) (he:e < 1000000:=by decide):Wk s ({ s with vec:=(n,⟨e,z,[]⟩)::s.vec }.put t (.vec n)):=fun _ _ _ _ R=>R.own ht hn e z he
theorem Qg {s:St} (n:Nat):Wk s (s.frz n):=fun _ _ _ _ R=>by obtain⟨p',R',_⟩:=R.frz n;exact⟨p',R'⟩
section
variable {P:Program} {K:Ctx P} {st:St} {Q:Exit→St→Prop}
theorem Al {c:Code} {st1:St} (W:Wk st st1) (h:Tr P K c st1 Q):Tr P K c st Q:=fun a w p R=>by obtain⟨p',R'⟩:=W K a w p R;exact h a w p' R'
theorem FZ {ops:Array Oper} {l:List Oper} {st1:St} (W:Wk st st1) (h:Az P K ops l st1 Q):Az P K ops l st Q:=fun a w p R=>by obtain⟨p',R'⟩:=W K a w p R;exact h a w p' R'
theorem sjv {x z:Code} {ν:Type} (S:ν→St) (G:ν→Prop) (HZ:∀v,G v→Tr P K z (S v) Q) (HX:Tr P K x st (Cq (fun s=>∃v,G v∧Wk s (S v)) Q)):Tr P K (.seq x z) st Q:=
 trq (N9 HX fun e s q=>by
  cases e with
  |normal=>obtain⟨v,g,W⟩:=q;exact Al W (HZ v g)
  |_=>exact q)
theorem tjv {x:Code} {ν:Type} (S:ν→St) (G:ν→Prop) (HZ:∀v,G v→∀s,Wk s (S v)→Q .normal s) (HX:Tr P K x st (Cq (fun s=>∃v,G v∧Wk s (S v)) Q)):Tr P K x st Q:=
 N9 HX fun e s q=>by
  cases e with
  |normal=>obtain⟨v,g,W⟩:=q;exact HZ v g s W
  |_=>exact q
theorem Ai {c:Code} {σ ε:Type} {body:σ→Option (Lp σ ε)} (S:σ→St) {s0:σ} {e:ε} (hI:iter body s0=some e) (W:Wk st (S s0))
  (round:∀(G:σ→Prop) (s:σ) (o:Lp σ ε),body s=some o→(∀s',.go s'=o→G s')→(∀e',.out e'=o→e'=e)→Tr P K c (S s) (Cq (fun st'=>∃s',G s'∧Wk st' (S s')) Q)):Tr P K (.loop c) st Q:=fun a w p R=>by
 obtain⟨p1,R1⟩:=W K a w p R
 obtain⟨n0,hn0⟩:=EL.1 hI
 exact wp_loop_ghost (fun n a' w'=>∃s p',itN body n s=some e∧Rel K (S s) a' w' p') n0 ⟨s0,_,hn0,R1⟩ (fun n a' w' ⟨s,p',hn,R'⟩=>by
  cases n with
  |zero=>simp[itN] at hn
  |succ n=>
   simp only[itN] at hn
   cases hb:body s with
   |none=>simp[hb] at hn
   |some o=>
    rw[hb] at hn
    refine wp_mono (round (fun s'=>itN body n s'=some e) s o hb (fun s' h=>by subst h;exact hn) (fun e' h=>by subst h;simpa using hn) a' w' p' R') fun x a2 w2 ⟨t,p2,R2,q⟩=>?_
    cases x with
    |normal=>
     obtain⟨s',g,W2⟩:=q
     obtain⟨p3,R3⟩:=W2 K a2 w2 p2 R2
     exact⟨n,Nat.lt_succ_self n,s',p3,g,R3⟩
    |_=>exact⟨t,p2,R2,q⟩)
def ddp {α:Type}:List (Nat×α)→List (Nat×α)
 |[]=>[]
 |(k,v)::l=>(k,v)::del (ddp l) k
theorem LI {α:Type}:∀(l:List (Nat×α)) (n:Nat),get (ddp l) n=get l n
 |[],_=>rfl
 |(k,v)::l,n=>by
  simp only[ddp,get,Av,LI l]
  by_cases h:k=n
  ·simp[h]
  ·simp[h]
def kpE (env:List (Nat×AV)):List Nat→List (Nat×AV)
 |[]=>[]
 |t::l=>match get env t with |some x=>(t,x)::kpE env l |none=>kpE env l
theorem LJ {env:List (Nat×AV)}:∀{l:List Nat} {t:Nat} {x:AV},get (kpE env l) t=some x→get env t=some x
 |[],_,_,h=>by cases h
 |u::l,t,x,h=>by
  simp only[kpE] at h
  cases hq:get env u with
  |none=>rw[hq] at h;exact LJ h
  |some y=>
   rw[hq] at h
   simp only[get] at h
   split at h
   ·rename_i e;subst e;cases h;exact hq
   ·exact LJ h
def St.kp (l:List Nat) (st:St):St:={ nt:=st.nt,env:=kpE st.env l,box:=ddp st.box,vec:=ddp st.vec }
theorem OK {st:St} (l:List Nat):Wk st (st.kp l):=fun K a w p R=>by
 refine⟨p,Rel.eqv (st:={ st with env:=kpE st.env l }) ?_ ⟨rfl,fun t=>rfl,fun n=>LI _ _,fun n=>LI _ _⟩⟩
 exact { lb:=R.lb,lv:=R.lv,dfr:=R.dfr,nt:=R.nt,ntl:=R.ntl,ion:=R.ion,size:=R.size,os:=R.os,tape:=R.tape,dr:=R.dr,output:=R.output,old:=R.old,env:=fun t x h=>R.env t x (LJ h),box:=R.box,vec:=R.vec,dbb:=R.dbb,dbv:=R.dbv,dvv:=R.dvv }
def rk (P:Program) (ops:Array Oper) (l:List Oper) (st:St) (ks:List Nat):Option St:=(runs P ops l st).map (St.kp ks)
theorem OL {ops:Array Oper} {l:List Oper} {ks:List Nat} {st1:St} (h:rk P ops l st ks=some st1):∃s,runs P ops l st=some s∧Wk s st1:=by
 unfold rk at h
 cases hr:runs P ops l st with
 |none=>simp[hr] at h
 |some s=>simp[hr] at h;subst h;exact⟨s,rfl,OK ks⟩
theorem kr {id:Nat} {l:List Oper} {y:Code} {st1:St} (ks:List Nat) (h:rk P l.toArray l st ks=some st1) (H:Tr P K y st1 Q):Tr P K (.seq (.region id l.toArray false) y) st Q:=by
 obtain⟨s,h1,h2⟩:=OL h
 exact trq (FY (EF l.length (by rw[List.take_length];exact h1) (by rw[List.drop_length];exact tpN (Al h2 H))))
theorem ko {ops:Array Oper} {l:List Oper} {st1:St} (ks:List Nat) (k:Nat) (h:rk P ops (l.take k) st ks=some st1) (H:Az P K ops (l.drop k) st1 Q):Az P K ops l st Q:=by
 obtain⟨s,h1,h2⟩:=OL h
 exact EF k h1 (FZ h2 H)
theorem kc {id:Nat} {l:List Oper} {y:Code} (H:Az P K l.toArray l st (Cq (fun s=>Tr P K y s Q) Q)):Tr P K (.seq (.region id l.toArray false) y) st Q:=trq (FY H)
theorem kd {id:Nat} {l:List Oper} {y:Code} (As:List (List Nat)) (C:List Nat) (W:List (Nat×List Nat)) (V:Option (Nat×Nat)) (T:List Nat) (n:Nat) (hm:P.follows .mixedOrders=true) (hB:KS l.toArray As C W V T n=true) (hV:stV V T W st=true) (h:GZ P K l st As C W V T n (Cq (fun s=>Tr P K y s Q) Q) []):Tr P K (.seq (.region id l.toArray true) y) st Q:=trq (MD As C W V T n hm hB hV h)
theorem kc1 {id:Nat} {l:List Oper} (H:Az P K l.toArray l st Q):Tr P K (.region id l.toArray false) st Q:=FY H
theorem kd1 {id:Nat} {l:List Oper} (As:List (List Nat)) (C:List Nat) (W:List (Nat×List Nat)) (V:Option (Nat×Nat)) (T:List Nat) (n:Nat) (hm:P.follows .mixedOrders=true) (hB:KS l.toArray As C W V T n=true) (hV:stV V T W st=true) (h:GZ P K l st As C W V T n Q []):Tr P K (.region id l.toArray true) st Q:=MD As C W V T n hm hB hV h
theorem KY {a:Act} {w:World} {p:Pl} {t:Nat} {x:AV} (R:Rel K st a w p) (hx:x≠.undef) (h:st.look t=x):Rel K (st.put t x) a w p:=by
 refine R.eqv ⟨rfl,fun u=>?_,fun _=>rfl,fun _=>rfl⟩
 simp only[St.put,get]
 split
 ·rename_i e
  subst e
  unfold St.look at h
  cases hg:get st.env t with
  |none=>rw[hg] at h;exact absurd h.symm hx
  |some y=>rw[hg] at h;simpa using h.symm
 ·rfl
theorem AG {ops:Array Oper} {l:List Oper} (t:Nat) (b:Bool) (hl:st.look t=.d (.bool b)) (ht:b=true→Az P K ops l (st.put t (.d (.bool true))) Q) (hf:b=false→Az P K ops l (st.put t (.d (.bool false))) Q):Az P K ops l st Q:=fun a w p R=>by
 cases b with
 |true=>exact ht rfl a w p (KY R (by simp) hl)
 |false=>exact hf rfl a w p (KY R (by simp) hl)
theorem EM {l:List Oper} {As:List (List Nat)} {C:List Nat} {W:List (Nat×List Nat)} {V:Option (Nat×Nat)} {T:List Nat} {n:Nat} {es:List Eff} (j t:Nat) (b:Bool) (hl:es[j]? =some ⟨some t,.d (.bool b),none,[],none,none⟩) (ht:b=true→GZ P K l st As C W V T n Q (es.set j ⟨some t,.d (.bool true),none,[],none,none⟩)) (hf:b=false→GZ P K l st As C W V T n Q (es.set j ⟨some t,.d (.bool false),none,[],none,none⟩)):GZ P K l st As C W V T n Q es:=by
 have key:∀x,es[j]? =some x→es.set j x=es:=fun x hx=>by
  refine List.ext_getElem? fun i=>?_
  rw[List.getElem?_set]
  split
  ·rename_i e;subst e;split
   ·exact hx.symm
   ·rename_i h;rw[List.getElem?_eq_none (by omega)] at hx;cases hx
  ·rfl
 cases b with
 |true=>have:=ht rfl;rwa [key _ hl] at this
 |false=>have:=hf rfl;rwa [key _ hl] at this
theorem AM {ops:Array Oper} {f:FuncId} {bx:List (List AV)} {cargs:List AV} {res:AV} {bx':List (List AV)} {o:Oper} {c:Call} {l:List Oper} {d:Nat} {st1:St} (ks σ:List Nat) (F:Ac P f bx cargs res bx') (ho:o.op=.call c) (hc:c.callee=.value (.func f)) (hd:o.dst=some d)
  (hcall:∀(args:Array Value) (w:World),(callFunc f args).run P w=.ok (.enter f args) w)
  (hall:gdA ops st o=some true∧d < st.nt∧σ.Nodup∧(c.args.toList.map (opd st)).map (AV.view [] [] σ)=cargs∧Bu st [] σ σ bx∧bx.length=bx'.length)
  (hs:St.kp ks ({ st with box:=A1 [] σ σ bx' st.box }.put d (res.back [] σ))=st1)
  (h:Az P K ops l st1 Q):Az P K ops (o::l) st Q:=by
 obtain⟨hg,hdn,hσ,hargs,hbx,hl⟩:=hall
 subst hs
 exact PE σ F hg ho hc hd hcall hdn hσ hargs hbx hl (FZ (OK ks) h)
theorem B7 {ops:Array Oper} {f:FuncId} {bx:List (List AV)} {vx:List VS} {cargs:List AV} {res:AV} {bx':List (List AV)} {vx':List VS} {o:Oper} {c:Call} {y:Operand} {l:List Oper} {d:Nat} {st1:St} (ks σ τ υ:List Nat) (F:DI P f bx vx cargs res bx' vx') (ho:o.op=.call c) (hc:c.callee=.value y) (hd:o.dst=some d)
  (hcall:∀(args:Array Value) (w:World),(callFunc f args).run P w=.ok (.enter f args) w)
  (hall:gdA ops st o=some true∧d < st.nt∧σ.Nodup∧τ.Nodup∧υ.Nodup∧(∃caps,opd st y=.fn f caps∧(c.args.toList.map (opd st)++caps).map (AV.view [] τ σ)=cargs)∧Bu st τ σ σ bx∧Du st τ vx∧bx.length=bx'.length∧υ.length=vx'.length∧(∀n∈υ,n∈τ∨get st.vec n=none))
  (hs:St.kp ks ((CN st σ τ υ bx' vx').put d (res.back υ σ))=st1)
  (h:Az P K ops l st1 Q):Az P K ops (o::l) st Q:=by
 obtain⟨hg,hdn,hσ,hτ,hυ,hargs,hbx,hvx,hl,hlυ,hfr⟩:=hall
 subst hs
 exact I0 σ τ υ F ho hc hd hcall ⟨hg,hdn,hσ,hτ,hυ,hargs,hbx,hvx,hl,hlυ,hfr⟩ (FZ (OK ks) h)
end
end Go.Vl
