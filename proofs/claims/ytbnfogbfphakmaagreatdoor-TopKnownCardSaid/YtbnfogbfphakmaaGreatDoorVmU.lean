/- The value logic: what a function computes as a plain function that may fail, loops included, and the rules that tie a walk to it. Conditions: none. -/
import Derived.Test.YtbnfogbfphakmaaGreatDoorVmRst
import Derived.Test.YtbnfogbfphakmaaGreatDoorVmP
set_option linter.unusedSimpArgs false
set_option linter.unusedVariables false
namespace Go.Vl
open Go Go.RowKit
inductive Lp (σ ε:Type) where
 |go (s:σ)
 |out (e:ε)
def itN {σ ε:Type} (body:σ→Option (Lp σ ε)):Nat→σ→Option ε
 |0,_=>none
 |n+1,s=>match body s with
  |none=>none
  |some (.go s')=>itN body n s'
  |some (.out e)=>some e
theorem itN_mono {σ ε:Type} {body:σ→Option (Lp σ ε)}:∀{n m:Nat} {s:σ} {e:ε},n≤m→itN body n s=some e→itN body m s=some e
 |0,_,_,_,_,h=>by simp[itN] at h
 |n+1,0,_,_,hle,_=>by omega
 |n+1,m+1,s,e,hle,h=>by
  simp only[itN] at h ⊢
  split at h
  ·cases h
  ·exact itN_mono (by omega) h
  ·exact h
open Classical in
noncomputable def iter {σ ε:Type} (body:σ→Option (Lp σ ε)) (s:σ):Option ε:=
 if h:∃n e,itN body n s=some e then some (Classical.choose (Classical.choose_spec h)) else none
theorem iter_iff {σ ε:Type} {body:σ→Option (Lp σ ε)} {s:σ} {e:ε}:iter body s=some e↔∃n,itN body n s=some e:=by
 unfold iter
 split
 ·rename_i h
  have hc:=Classical.choose_spec (Classical.choose_spec h)
  constructor
  ·intro h2;cases h2;exact⟨_,hc⟩
  ·rintro⟨n,hn⟩
   have h1:=itN_mono (Nat.le_max_left n (Classical.choose h)) hn
   have h2:=itN_mono (Nat.le_max_right n (Classical.choose h)) hc
   rw[h1] at h2;exact h2.symm
 ·rename_i h
  exact⟨fun h2=>(by cases h2),fun ⟨n,hn⟩=>absurd ⟨n,e,hn⟩ h⟩
theorem iter_go {σ ε:Type} {body:σ→Option (Lp σ ε)} {s s':σ} (h:body s=some (.go s')):iter body s=iter body s':=by
 refine Option.ext fun e=>?_
 rw[iter_iff,iter_iff]
 constructor
 ·rintro⟨n,hn⟩
  cases n with
  |zero=>simp[itN] at hn
  |succ n=>simp only[itN,h] at hn;exact⟨n,hn⟩
 ·rintro⟨n,hn⟩;exact⟨n+1,by simp only[itN,h];exact hn⟩
theorem iter_out {σ ε:Type} {body:σ→Option (Lp σ ε)} {s:σ} {e:ε} (h:body s=some (.out e)):iter body s=some e:=iter_iff.2 ⟨1,by simp[itN,h]⟩
theorem iter_eq {σ ε:Type} {body:σ→Option (Lp σ ε)} (inv:σ→Prop) (μ:σ→Nat) (R:σ→ε)
  (h:∀s,inv s→(∃s',body s=some (.go s')∧inv s'∧μ s' < μ s∧R s'=R s)∨body s=some (.out (R s))):∀{s:σ},inv s→iter body s=some (R s):=by
 have key:∀(n:Nat) (s:σ),μ s < n→inv s→iter body s=some (R s):=fun n=>by
  induction n with
  |zero=>intro s hs;omega
  |succ n ih=>
   intro s hs hi
   rcases h s hi with ⟨s',h1,h2,h3,h4⟩ |h1
   ·rw[iter_go h1,ih s' (by omega) h2,h4]
   ·exact iter_out h1
 exact fun {s} hi=>key _ s (Nat.lt_succ_self _) hi
theorem iter_ex {σ ε:Type} {body:σ→Option (Lp σ ε)} (inv:σ→Prop) (μ:σ→Nat) (R:ε→Prop)
  (h:∀s,inv s→(∃s',body s=some (.go s')∧inv s'∧μ s' < μ s)∨∃e,body s=some (.out e)∧R e):∀{s:σ},inv s→∃e,iter body s=some e∧R e:=by
 have key:∀(n:Nat) (s:σ),μ s < n→inv s→∃e,iter body s=some e∧R e:=fun n=>by
  induction n with
  |zero=>intro s hs;omega
  |succ n ih=>
   intro s hs hi
   rcases h s hi with ⟨s',h1,h2,h3⟩ |⟨e,h1,h2⟩
   ·rw[iter_go h1];exact ih s' (by omega) h2
   ·exact⟨e,iter_out h1,h2⟩
 exact fun {s} hi=>key _ s (Nat.lt_succ_self _) hi
def ck (p:Prop) [Decidable p]:Option Unit:=if p then some () else none
theorem ck_some {p:Prop} [Decidable p] {u:Unit} (h:ck p=some u):p:=by unfold ck at h;split at h;assumption;cases h
theorem ck_t {p:Prop} [Decidable p] (h:p):ck p=some ():=if_pos h
def idx {α:Type} (l:List α) (i:Int):Option α:=if 0≤i then l[i.toNat]? else none
theorem idx_some {α:Type} {l:List α} {i:Int} {x:α} (h:idx l i=some x):0≤i∧l[i.toNat]? =some x:=by unfold idx at h;split at h;exact⟨‹_›,h⟩;cases h
theorem idx_nat {α:Type} (l:List α) (i:Nat):idx l (i:Int)=l[i]? :=by simp[idx]
theorem bnd {α β:Type} {x:Option α} {f:α→Option β} {r:β} (h:x.bind f=some r):∃y,x=some y∧f y=some r:=Option.bind_eq_some_iff.1 h
def rowsF {α:Type} (f:α→List D) (l:List α):List (List D):=l.map f
section
variable {α:Type} {f:α→List D}
theorem rowsF_length (l:List α):(rowsF f l).length=l.length:=by simp[rowsF]
theorem rowsF_get (l:List α) (i:Nat):(rowsF f l)[i]? =l[i]?.map f:=by simp[rowsF]
theorem rowsF_append (l m:List α):rowsF f (l++m)=rowsF f l++rowsF f m:=by simp[rowsF]
theorem rowsF_nil:rowsF f []=[]:=rfl
theorem rowsF_cons (x:α) (l:List α):rowsF f (x::l)=f x::rowsF f l:=rfl
theorem rowsF_take (l:List α) (n:Nat):(rowsF f l).take n=rowsF f (l.take n):=by simp[rowsF,List.map_take]
theorem rowsF_drop (l:List α) (n:Nat):(rowsF f l).drop n=rowsF f (l.drop n):=by simp[rowsF,List.map_drop]
theorem rowsF_tail (l:List α):(rowsF f l).tail=rowsF f l.tail:=by cases l <;> rfl
theorem rowsF_all {z:Nat} (l:List α):(∀r∈rowsF f l,r.length=z)↔∀x∈l,(f x).length=z:=by simp[rowsF]
theorem rowsF_set (l:List α) (n:Nat) (x:α):rowsF f (l.set n x)=(rowsF f l).set n (f x):=by simp[rowsF,List.map_set]
end
def iRow (k:IntKind) (n:Int):List D:=[.int k n]
def bRow (b:Bool):List D:=[.bool b]
def sRow (b:ByteArray):List D:=[.str b]
def slRow {α:Type} (f:α→List D) (l:List α):List D:=[.slice (rowsF f l)]
def arD {α:Type} [Inhabited α] (l:List α) (i:Nat):α:=l.getD i default
theorem arD_zero {α:Type} [Inhabited α] (x:α) (l:List α):arD (x::l) 0=x:=rfl
theorem arD_succ {α:Type} [Inhabited α] (x:α) (l:List α) (n:Nat):arD (x::l) (n+1)=arD l n:=rfl
def arRowA {α:Type} [Inhabited α] (f:α→List D) (l:List α):Nat→Nat→List D
 |_,0=>[]
 |k,n+1=>f (arD l k)++arRowA f l (k+1) n
def arRow {α:Type} [Inhabited α] (n:Nat) (f:α→List D) (l:List α):List D:=arRowA f l 0 n
def arC {α:Type} (f:α→List D):List α→List AV
 |[]=>[]
 |x::l=>(f x).map .d++arC f l
theorem arC_wf {α:Type} {f:α→List D} (lb lv:Nat→Bool) (l:List α):AV.wfL lb lv (arC f l)=true:=by
 have key:∀m:List D,AV.wfL lb lv (m.map .d)=true:=fun m=>by induction m with |nil=>rfl |cons x m ih=>simp[AV.wfL,AV.wf,ih]
 have app:∀m n:List AV,AV.wfL lb lv m=true→AV.wfL lb lv n=true→AV.wfL lb lv (m++n)=true:=fun m n h1 h2=>by
  induction m with
  |nil=>exact h2
  |cons x m ih=>simp only[List.cons_append,AV.wfL,Bool.and_eq_true] at h1 ⊢;exact⟨h1.1,ih h1.2⟩
 induction l with
 |nil=>rfl
 |cons x l ih=>exact app _ _ (key _) ih
theorem arC_frz {α:Type} {f:α→List D} (n:Nat) (rows:D) (l:List α):AV.frzL n rows (arC f l)=arC f l:=by
 have key:∀m:List D,(m.map AV.d).map (AV.frz n rows)=m.map .d:=fun m=>by simp[AV.frz]
 rw[frzL_eq]
 induction l with
 |nil=>rfl
 |cons x l ih=>simp only[arC,List.map_append,ih,key]
def Wk (s s':St):Prop:=∀{P:Program} (K:Ctx P) (a:Act) (w:World) (p:Pl),Rel K s a w p→∃p',Rel K s' a w p'
theorem wk {s s':St} (W:Weak s s'):Wk s s':=fun _ _ _ _ R=>⟨_,R.weak W⟩
theorem Wk.trans {s s' s'':St} (h:Wk s s') (h':Wk s' s''):Wk s s'':=fun K a w p R=>by obtain⟨p',R'⟩:=h K a w p R;exact h' K a w p' R'
theorem wk_own {s:St} (t n:Nat) (e:TypeId) (z:Nat) (ht:s.look t=.nilS) (hn:get s.vec n=none) (he:e < 1000000:=by decide):Wk s ({ s with vec:=(n,⟨e,z,[]⟩)::s.vec }.put t (.vec n)):=fun _ _ _ _ R=>R.own ht hn e z he
theorem wk_frz {s:St} (n:Nat):Wk s (s.frz n):=fun _ _ _ _ R=>by obtain⟨p',R',_⟩:=R.frz n;exact⟨p',R'⟩
section
variable {P:Program} {K:Ctx P} {st:St} {Q:Exit→St→Prop}
theorem tr_wk {c:Code} {st1:St} (W:Wk st st1) (h:Tr P K c st1 Q):Tr P K c st Q:=fun a w p R=>by obtain⟨p',R'⟩:=W K a w p R;exact h a w p' R'
theorem tops_wk {ops:Array Oper} {l:List Oper} {st1:St} (W:Wk st st1) (h:TOps P K ops l st1 Q):TOps P K ops l st Q:=fun a w p R=>by obtain⟨p',R'⟩:=W K a w p R;exact h a w p' R'
theorem sjv {x z:Code} {ν:Type} (S:ν→St) (G:ν→Prop) (HZ:∀v,G v→Tr P K z (S v) Q) (HX:Tr P K x st (thenQ (fun s=>∃v,G v∧Wk s (S v)) Q)):Tr P K (.seq x z) st Q:=
 trq (tr_mono HX fun e s q=>by
  cases e with
  |normal=>obtain⟨v,g,W⟩:=q;exact tr_wk W (HZ v g)
  |_=>exact q)
theorem tjv {x:Code} {ν:Type} (S:ν→St) (G:ν→Prop) (HZ:∀v,G v→∀s,Wk s (S v)→Q .normal s) (HX:Tr P K x st (thenQ (fun s=>∃v,G v∧Wk s (S v)) Q)):Tr P K x st Q:=
 tr_mono HX fun e s q=>by
  cases e with
  |normal=>obtain⟨v,g,W⟩:=q;exact HZ v g s W
  |_=>exact q
theorem tr_iter {c:Code} {σ ε:Type} {body:σ→Option (Lp σ ε)} (S:σ→St) {s0:σ} {e:ε} (hI:iter body s0=some e) (W:Wk st (S s0))
  (round:∀(G:σ→Prop) (s:σ) (o:Lp σ ε),body s=some o→(∀s',.go s'=o→G s')→(∀e',.out e'=o→e'=e)→Tr P K c (S s) (thenQ (fun st'=>∃s',G s'∧Wk st' (S s')) Q)):Tr P K (.loop c) st Q:=fun a w p R=>by
 obtain⟨p1,R1⟩:=W K a w p R
 obtain⟨n0,hn0⟩:=iter_iff.1 hI
 exact wp_loop_ghost (fun n a' w'=>∃s p',itN body n s=some e∧Rel K (S s) a' w' p') n0 ⟨s0,_,hn0,R1⟩ (fun n a' w' ⟨s,p',hn,R'⟩=>by
  cases n with
  |zero=>simp[itN] at hn
  |succ n=>
   simp only[itN] at hn
   cases hb:body s with
   |none=>simp[hb] at hn
   |some o=>
    rw[hb] at hn
    refine wp_mono (round (fun s'=>itN body n s'=some e) s o hb (fun s' h=>by subst h;exact hn) (fun e' h=>by subst h;simpa using hn) a' w' p' R') fun x a2 w2 ⟨t,p2,R2,q⟩=>?_
    cases x with
    |normal=>
     obtain⟨s',g,W2⟩:=q
     obtain⟨p3,R3⟩:=W2 K a2 w2 p2 R2
     exact⟨n,Nat.lt_succ_self n,s',p3,g,R3⟩
    |_=>exact⟨t,p2,R2,q⟩)
def ddp {α:Type}:List (Nat×α)→List (Nat×α)
 |[]=>[]
 |(k,v)::l=>(k,v)::del (ddp l) k
theorem get_ddp {α:Type}:∀(l:List (Nat×α)) (n:Nat),get (ddp l) n=get l n
 |[],_=>rfl
 |(k,v)::l,n=>by
  simp only[ddp,get,get_del,get_ddp l]
  by_cases h:k=n
  ·simp[h]
  ·simp[h]
def kpE (env:List (Nat×AV)):List Nat→List (Nat×AV)
 |[]=>[]
 |t::l=>match get env t with |some x=>(t,x)::kpE env l |none=>kpE env l
theorem get_kpE {env:List (Nat×AV)}:∀{l:List Nat} {t:Nat} {x:AV},get (kpE env l) t=some x→get env t=some x
 |[],_,_,h=>by cases h
 |u::l,t,x,h=>by
  simp only[kpE] at h
  cases hq:get env u with
  |none=>rw[hq] at h;exact get_kpE h
  |some y=>
   rw[hq] at h
   simp only[get] at h
   split at h
   ·rename_i e;subst e;cases h;exact hq
   ·exact get_kpE h
def St.kp (l:List Nat) (st:St):St:={ nt:=st.nt,env:=kpE st.env l,box:=ddp st.box,vec:=ddp st.vec }
theorem wk_kp {st:St} (l:List Nat):Wk st (st.kp l):=fun K a w p R=>by
 refine⟨p,Rel.eqv (st:={ st with env:=kpE st.env l }) ?_ ⟨rfl,fun t=>rfl,fun n=>get_ddp _ _,fun n=>get_ddp _ _⟩⟩
 exact { lb:=R.lb,lv:=R.lv,dfr:=R.dfr,nt:=R.nt,ntl:=R.ntl,ion:=R.ion,size:=R.size,os:=R.os,tape:=R.tape,dr:=R.dr,output:=R.output,old:=R.old,env:=fun t x h=>R.env t x (get_kpE h),box:=R.box,vec:=R.vec,dbb:=R.dbb,dbv:=R.dbv,dvv:=R.dvv }
def rk (P:Program) (ops:Array Oper) (l:List Oper) (st:St) (ks:List Nat):Option St:=(runs P ops l st).map (St.kp ks)
theorem rk_some {ops:Array Oper} {l:List Oper} {ks:List Nat} {st1:St} (h:rk P ops l st ks=some st1):∃s,runs P ops l st=some s∧Wk s st1:=by
 unfold rk at h
 cases hr:runs P ops l st with
 |none=>simp[hr] at h
 |some s=>simp[hr] at h;subst h;exact⟨s,rfl,wk_kp ks⟩
theorem kr {id:Nat} {l:List Oper} {y:Code} {st1:St} (ks:List Nat) (h:rk P l.toArray l st ks=some st1) (H:Tr P K y st1 Q):Tr P K (.seq (.region id l.toArray false) y) st Q:=by
 obtain⟨s,h1,h2⟩:=rk_some h
 exact trq (tr_region (tops_runs l.length (by rw[List.take_length];exact h1) (by rw[List.drop_length];exact tpN (tr_wk h2 H))))
theorem ko {ops:Array Oper} {l:List Oper} {st1:St} (ks:List Nat) (k:Nat) (h:rk P ops (l.take k) st ks=some st1) (H:TOps P K ops (l.drop k) st1 Q):TOps P K ops l st Q:=by
 obtain⟨s,h1,h2⟩:=rk_some h
 exact tops_runs k h1 (tops_wk h2 H)
theorem kc {id:Nat} {l:List Oper} {y:Code} (H:TOps P K l.toArray l st (thenQ (fun s=>Tr P K y s Q) Q)):Tr P K (.seq (.region id l.toArray false) y) st Q:=trq (tr_region H)
theorem kd {id:Nat} {l:List Oper} {y:Code} (As:List (List Nat)) (C:List Nat) (W:List (Nat×List Nat)) (V:Option (Nat×Nat)) (T:List Nat) (n:Nat) (hm:P.follows .mixedOrders=true) (hB:drawB l.toArray As C W V T n=true) (hV:stV V T W st=true) (h:DOps P K l st As C W V T n (thenQ (fun s=>Tr P K y s Q) Q) []):Tr P K (.seq (.region id l.toArray true) y) st Q:=trq (dr_start As C W V T n hm hB hV h)
theorem kc1 {id:Nat} {l:List Oper} (H:TOps P K l.toArray l st Q):Tr P K (.region id l.toArray false) st Q:=tr_region H
theorem kd1 {id:Nat} {l:List Oper} (As:List (List Nat)) (C:List Nat) (W:List (Nat×List Nat)) (V:Option (Nat×Nat)) (T:List Nat) (n:Nat) (hm:P.follows .mixedOrders=true) (hB:drawB l.toArray As C W V T n=true) (hV:stV V T W st=true) (h:DOps P K l st As C W V T n Q []):Tr P K (.region id l.toArray true) st Q:=dr_start As C W V T n hm hB hV h
theorem rel_known {a:Act} {w:World} {p:Pl} {t:Nat} {x:AV} (R:Rel K st a w p) (hx:x≠.undef) (h:st.look t=x):Rel K (st.put t x) a w p:=by
 refine R.eqv ⟨rfl,fun u=>?_,fun _=>rfl,fun _=>rfl⟩
 simp only[St.put,get]
 split
 ·rename_i e
  subst e
  unfold St.look at h
  cases hg:get st.env t with
  |none=>rw[hg] at h;exact absurd h.symm hx
  |some y=>rw[hg] at h;simpa using h.symm
 ·rfl
theorem tops_split {ops:Array Oper} {l:List Oper} (t:Nat) (b:Bool) (hl:st.look t=.d (.bool b)) (ht:b=true→TOps P K ops l (st.put t (.d (.bool true))) Q) (hf:b=false→TOps P K ops l (st.put t (.d (.bool false))) Q):TOps P K ops l st Q:=fun a w p R=>by
 cases b with
 |true=>exact ht rfl a w p (rel_known R (by simp) hl)
 |false=>exact hf rfl a w p (rel_known R (by simp) hl)
theorem dr_split {l:List Oper} {As:List (List Nat)} {C:List Nat} {W:List (Nat×List Nat)} {V:Option (Nat×Nat)} {T:List Nat} {n:Nat} {es:List Eff} (j t:Nat) (b:Bool) (hl:es[j]? =some ⟨some t,.d (.bool b),none,[],none,none⟩) (ht:b=true→DOps P K l st As C W V T n Q (es.set j ⟨some t,.d (.bool true),none,[],none,none⟩)) (hf:b=false→DOps P K l st As C W V T n Q (es.set j ⟨some t,.d (.bool false),none,[],none,none⟩)):DOps P K l st As C W V T n Q es:=by
 have key:∀x,es[j]? =some x→es.set j x=es:=fun x hx=>by
  refine List.ext_getElem? fun i=>?_
  rw[List.getElem?_set]
  split
  ·rename_i e;subst e;split
   ·exact hx.symm
   ·rename_i h;rw[List.getElem?_eq_none (by omega)] at hx;cases hx
  ·rfl
 cases b with
 |true=>have:=ht rfl;rwa [key _ hl] at this
 |false=>have:=hf rfl;rwa [key _ hl] at this
theorem kcall {ops:Array Oper} {f:FuncId} {bx:List (List AV)} {cargs:List AV} {res:AV} {bx':List (List AV)} {o:Oper} {c:Call} {l:List Oper} {d:Nat} {st1:St} (ks σ:List Nat) (F:FnOK P f bx cargs res bx') (ho:o.op=.call c) (hc:c.callee=.value (.func f)) (hd:o.dst=some d)
  (hcall:∀(args:Array Value) (w:World),(callFunc f args).run P w=.ok (.enter f args) w)
  (hall:gdA ops st o=some true∧d < st.nt∧σ.Nodup∧(c.args.toList.map (opd st)).map (AV.view [] [] σ)=cargs∧boxesIn st [] σ σ bx∧bx.length=bx'.length)
  (hs:St.kp ks ({ st with box:=boxesOut [] σ σ bx' st.box }.put d (res.back [] σ))=st1)
  (h:TOps P K ops l st1 Q):TOps P K ops (o::l) st Q:=by
 obtain⟨hg,hdn,hσ,hargs,hbx,hl⟩:=hall
 subst hs
 exact tops_call σ F hg ho hc hd hcall hdn hσ hargs hbx hl (tops_wk (wk_kp ks) h)
theorem kcallV {ops:Array Oper} {f:FuncId} {bx:List (List AV)} {vx:List VS} {cargs:List AV} {res:AV} {bx':List (List AV)} {vx':List VS} {o:Oper} {c:Call} {y:Operand} {l:List Oper} {d:Nat} {st1:St} (ks σ τ υ:List Nat) (F:FnOKv P f bx vx cargs res bx' vx') (ho:o.op=.call c) (hc:c.callee=.value y) (hd:o.dst=some d)
  (hcall:∀(args:Array Value) (w:World),(callFunc f args).run P w=.ok (.enter f args) w)
  (hall:gdA ops st o=some true∧d < st.nt∧σ.Nodup∧τ.Nodup∧υ.Nodup∧(∃caps,opd st y=.fn f caps∧(c.args.toList.map (opd st)++caps).map (AV.view [] τ σ)=cargs)∧boxesIn st τ σ σ bx∧vecsAre st τ vx∧bx.length=bx'.length∧υ.length=vx'.length∧(∀n∈υ,n∈τ∨get st.vec n=none))
  (hs:St.kp ks ((calledSt st σ τ υ bx' vx').put d (res.back υ σ))=st1)
  (h:TOps P K ops l st1 Q):TOps P K ops (o::l) st Q:=by
 obtain⟨hg,hdn,hσ,hτ,hυ,hargs,hbx,hvx,hl,hlυ,hfr⟩:=hall
 subst hs
 exact tops_callV σ τ υ F ho hc hd hcall ⟨hg,hdn,hσ,hτ,hυ,hargs,hbx,hvx,hl,hlυ,hfr⟩ (tops_wk (wk_kp ks) h)
end
end Go.Vl
