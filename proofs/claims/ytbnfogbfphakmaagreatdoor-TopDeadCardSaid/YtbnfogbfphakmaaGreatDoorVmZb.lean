/- The value logic: a local box that is read only from then on; a new owned row in a result. Conditions: none. -/
import Derived.Test.YtbnfogbfphakmaaGreatDoorVmU
set_option linter.unusedSimpArgs false
set_option linter.unusedVariables false
namespace Go.Vl
open Go Go.RowKit
mutual
def AV.frzB (n:Nat) (row:List D):AV→AV
 | .ptr m o=>if m=n then .cptr row o else .ptr m o
 | .agg l=>.agg (AV.frzBL n row l)
 | .tup l=>.tup (AV.frzBL n row l)
 | .fn f l=>.fn f (AV.frzBL n row l)
 |x=>x
def AV.frzBL (n:Nat) (row:List D):List AV→List AV
 |[]=>[]
 |x::l=>AV.frzB n row x::AV.frzBL n row l
end
theorem Gd (n:Nat) (row:List D):∀l:List AV,AV.frzBL n row l=l.map (AV.frzB n row)
 |[]=>rfl
 |x::l=>by simp[AV.frzBL,Gd n row l]
theorem RA.frzB {w:World} {ok ok':Nat→Prop} {p p':Pl} {n:Nat} {row:List D} (ho:∀b,ok b→ok' b) (hb:∀m,m≠n→p.lb m→p'.lb m∧p'.bx m=p.bx m) (hv:∀m,p.lv m→p'.lv m∧p'.rw m=p.rw m)
  (hn:∀o,RA w ok' p' (.cptr row o) (.pointer (some ⟨p.bx n,o,none⟩))) {x:AV} {v:Value} (h:RA w ok p x v):RA w ok' p' (x.frzB n row) v:=by
 induction h with
 |undef=>simp only[AV.frzB];exact .undef
 |d h=>simp only[AV.frzB];exact .d (h.mono (fun _ _=>rfl) ho)
 |nilS=>simp only[AV.frzB];exact .nilS
 |full h=>simp only[AV.frzB];exact .full (h.mono (fun _ _=>rfl) ho)
 |agg hl _ h1 ih=>
  simp only[AV.frzB,Gd]
  refine .agg (by simpa using hl) (fun i a v ha hv'=>?_) h1
  simp only[List.getElem?_map,Option.map_eq_some_iff] at ha
  obtain⟨q,hq,rfl⟩:=ha
  exact ih i q v hq hv'
 |tup hl _ ih=>
  simp only[AV.frzB,Gd]
  refine .tup (by simpa using hl) (fun i a v ha hv'=>?_)
  simp only[List.getElem?_map,Option.map_eq_some_iff] at ha
  obtain⟨q,hq,rfl⟩:=ha
  exact ih i q v hq hv'
 |ptr hm=>
  simp only[AV.frzB]
  split
  ·subst_vars;exact hn _
  ·obtain⟨h1,h2⟩:=hb _ ‹_› hm;rw[← h2];exact .ptr h1
 |cptr vs hok hcell h=>simp only[AV.frzB];exact .cptr vs (ho _ hok) hcell (fun j x hx=>(h j x hx).mono (fun _ _=>rfl) ho)
 |vec hm=>obtain⟨h1,h2⟩:=hv _ hm;simp only[AV.frzB];rw[← h2];exact .vec h1
 |vptr hm he=>obtain⟨h1,h2⟩:=hv _ hm;simp only[AV.frzB];exact .vptr h1 (h2.trans he)
 |cut hm he ho' hle=>obtain⟨h1,h2⟩:=hv _ hm;simp only[AV.frzB];exact .cut h1 (h2.trans he) ho' hle
 |cut0 hm he=>obtain⟨h1,h2⟩:=hv _ hm;simp only[AV.frzB];exact .cut0 h1 (h2.trans he)
 |slen=>simp only[AV.frzB];exact .slen
 |iter=>simp only[AV.frzB];exact .iter
 |fn hl _ ih=>
  simp only[AV.frzB,Gd]
  refine .fn (by simpa using hl) (fun i a v ha hv'=>?_)
  simp only[List.getElem?_map,Option.map_eq_some_iff] at ha
  obtain⟨q,hq,rfl⟩:=ha
  exact ih i q v hq hv'
def St.frzB (st:St) (n:Nat) (row:List D):St:={ nt:=st.nt,env:=Bl (AV.frzB n row) st.env,box:=Bl (List.map (AV.frzB n row)) (del st.box n),vec:=st.vec }
section
variable {P:Program} {K:Ctx P} {st:St} {a:Act} {w:World} {p:Pl}
theorem Rel.frzB (R:Rel K st a w p) {n k:Nat} {cs:List AV} {row:List D} (hb:get st.box n=some cs) (hd:EC cs=some row) (hk:K.ios.length=k) (hn:n < 1000000) (hio:∀i,i < k→st.lb (InO i)=true):
  ∃p',Rel K (st.frzB n row) a w p':=by
 have hnl:p.lb n:=(R.lbi n).2 (by simp[St.lb,hb])
 let p':Pl:=⟨p.bx,p.rw,fun m=>m≠n∧p.lb m,p.lv⟩
 have hok:∀b,okc K w p b→okc K w p' b:=fun b h=>⟨h.1,h.2.1,fun m hm=>h.2.2.1 m hm.2,h.2.2.2⟩
 obtain⟨⟨vs,ty,hg,hl,hr,h1⟩,hmine⟩:=R.box n cs hb
 have hnk:okc K w p' (p.bx n):=⟨R.blt hnl,by
  rcases hmine with h0 |h0 |h0
  ·exact .inr (.inl h0)
  ·obtain⟨i,hi⟩:=List.mem_iff_getElem?.1 h0
   have hik:i < k:=by rw[← hk];exact(List.getElem?_eq_some_iff.1 hi).1
   have hlo:=(R.lbi (InO i)).2 (hio i hik)
   have:=R.ion i hlo
   rw[hi] at this
   injection this with this
   exact absurd this (fun e=>R.dbb n (InO i) hnl hlo (by unfold InO;omega) e)
  ·exact .inr (.inr h0),fun m hm e=>R.dbb m n hm.2 hnl hm.1 e.symm,fun m hm e=>R.dbv n m hnl hm e⟩
 obtain⟨hdl,hdg⟩:=ED hd
 have hc:∀o,RA w (okc K w p') p' (.cptr row o) (.pointer (some ⟨p.bx n,o,none⟩)):=fun o=>by
  have:=RA.cptr (w:=w) (ok:=okc K w p') (p:=p') (row:=row) (o:=o) (a:=⟨p.bx n,0,none⟩) (fun j=>vs.getD j undef) hnk (fun j hj=>by
   rw[Ah,Nat.zero_add,cell_of_row w _ j vs ty _ hg];simp[show j < vs.size by omega]) (fun j x hx=>by
   obtain⟨y,hy,hyd⟩:=hdg j x hx
   have hj:j < vs.size:=by have:=(List.getElem?_eq_some_iff.1 hx).1;omega
   exact(HC hyd (hr j y _ hy (by simp[hj]))).mono (fun _ _=>rfl) hok)
  rwa [Ah,Nat.zero_add] at this
 have key:∀{x:AV} {v:Value},RA w (okc K w p) p x v→RA w (okc K w p') p' (x.frzB n row) v:=fun h=>h.frzB (p:=p) (p':=p') hok (fun m hm hl=>⟨⟨hm,hl⟩,rfl⟩) (fun m hm=>⟨hm,rfl⟩) hc
 refine⟨p',{
  lb:=by
   funext m
   simp only[St.lb,St.frzB,BF,Option.isSome_map,Av,eq_iff_iff]
   show(m≠n∧p.lb m)↔_
   by_cases e:n=m
   ·simp[e]
   ·rw[if_neg e];have:=R.lbi m;simp only[St.lb] at this;simp[Ne.symm e,this]
  lv:=R.lv
  dfr:=R.dfr
  nt:=R.nt
  ntl:=R.ntl
  ion:=fun i hi=>R.ion i hi.2
  size:=R.size
  os:=R.os
  tape:=R.tape
  dr:=R.dr
  output:=R.output
  old:=R.old
  env:=fun t y h=>by obtain⟨x,hx,rfl⟩:=A3 h;exact key (R.env t x hx)
  box:=fun m cs' h=>by
   obtain⟨cs,hcs,rfl⟩:=A3 h
   rw[Av] at hcs
   split at hcs
   ·cases hcs
   ·obtain⟨⟨vs,ty,h1,h2,h3,h4⟩,h5⟩:=R.box m cs hcs
    refine⟨⟨vs,ty,h1,by simpa using h2,fun i c v hc hv=>?_,h4⟩,h5⟩
    rw[List.getElem?_map] at hc
    cases hq:cs[i]? with
    |none=>simp[hq] at hc
    |some q=>simp[hq] at hc;subst hc;exact key (h3 i q v hq hv)
  vec:=fun m s' h=>by
   obtain⟨h1,h3,h4⟩:=R.vec m s' h
   exact⟨h1.mono (fun _ _=>rfl) hok (fun _ _=>rfl),h3,h4⟩
  dbb:=fun m k hm hk=>R.dbb m k hm.2 hk.2
  dbv:=fun m k hm hk=>R.dbv m k hm.2 hk
  dvv:=R.dvv }⟩
theorem LK {f:FuncId} {fn:Func} {c:Code} {nt:Nat} {rs:List ResultVar} {bx:List (List AV)} {args:List AV} {res:AV} {bx':List (List AV)} (hf:P.funcs[f]? =some fn) (hb:fn.body=some c) (hnt:fn.ntmps=nt) (hrs:fn.results.toList=rs)
  (hna:args.length≤nt) (hn6:nt≤1000000) (hlb:bx.length=bx'.length) (h:∀K:Ctx P,K.ios.length=bx.length→Tr P K c (LA nt args bx) (Wc P rs res bx')):Ac P f bx args res bx':=
 LB hf hb hnt hrs hna hn6 hlb fun K hK a w p R=>wp_mono (h K hK a w p R) fun e a' w' ⟨s,p',R',q⟩=>⟨s,p',R',by
  cases e with
  |normal=>exact OE q
  |ret=>exact OE q
  |_=>exact q.elim⟩
def skR (ops:Array Oper) (st:St):List Oper→List Nat→Option (List Nat)
 |[],sk=>some sk
 |o::l,sk=>match o.guard with
  |none=>none
  |some (j,want)=>match (ops[j]?).bind (·.dst) with
   |none=>none
   |some t=>if(sk.contains t||Qa (st.look t) want)=true then match o.dst with
     |none=>skR ops st l sk
     |some d=>if d < st.nt∧(get st.env d).isNone=true then skR ops st l (d::sk) else none
    else none
def CJ:List Nat→St→St
 |[],st=>st
 |d::ds,st=>(CJ ds st).put d (.tup [])
theorem PR {ds:List Nat} {st:St} {t:Nat} {x:AV}:get (CJ ds st).env t=some x→(t∈ds∧x=.tup [])∨get st.env t=some x:=by
 induction ds with
 |nil=>exact .inr
 |cons d ds ih=>
  intro h
  simp only[CJ,St.put,get] at h
  by_cases e:d=t
  ·rw[if_pos e] at h;cases h;exact .inl ⟨by simp[e],rfl⟩
  ·rw[if_neg e] at h
   rcases ih h with ⟨h1,h2⟩ |h1
   ·exact .inl ⟨by simp[h1],h2⟩
   ·exact .inr h1
theorem JE {sk:List Nat} {st:St} {t:Nat} (h:t∈sk):(CJ sk st).look t=.tup []:=by
 induction sk with
 |nil=>simp at h
 |cons d sk ih=>
  simp only[CJ,St.put,St.look,get]
  by_cases e:d=t
  ·rw[if_pos e];rfl
  ·rw[if_neg e];rcases List.mem_cons.1 h with h |h
   ·exact absurd h.symm e
   ·exact ih h
theorem Hu {sk:List Nat} {st:St} {t:Nat} (h:t∉sk):(CJ sk st).look t=st.look t:=by
 induction sk with
 |nil=>rfl
 |cons d sk ih=>
  simp only[CJ,St.put,St.look,get]
  rw[if_neg (fun e=>h (by simp[e]))]
  exact ih (fun h'=>h (by simp[h']))
theorem Ge (sk:List Nat) (st:St):(CJ sk st).nt=st.nt:=by induction sk with |nil=>rfl |cons d sk ih=>exact ih
theorem KZ (sk:List Nat) (st:St):(CJ sk st).box=st.box∧(CJ sk st).vec=st.vec:=by induction sk with |nil=>exact⟨rfl,rfl⟩ |cons d sk ih=>exact ih
theorem HN {ops:Array Oper} {Q:Exit→St→Prop} {rest:List Oper} {st0:St}:∀(l:List Oper) (sk sk':List Nat),skR ops st0 l sk=some sk'→Az P K ops rest (CJ sk' st0) Q→Az P K ops (l++rest) (CJ sk st0) Q
 |[],sk,sk',h,H=>by simp only[skR] at h;cases h;exact H
 |o::l,sk,sk',h,H=>by
  simp only[skR] at h
  split at h
  ·cases h
  rename_i j want hgd
  split at h
  ·cases h
  rename_i t ht
  split at h
  case isFalse=>cases h
  rename_i hv
  have hg:gdA ops (CJ sk st0) o=some false:=by
   unfold gdA
   rw[hgd]
   simp only
   rw[ht]
   simp only
   by_cases hm:t∈sk
   ·rw[JE hm]
   ·rw[Hu hm]
    have:Qa (st0.look t) want=true:=by
     rw[Bool.or_eq_true,List.contains_iff_mem] at hv
     exact hv.resolve_left hm
    unfold Qa at this
    split at this
    ·rename_i b hb;rw[hb];cases b <;> cases want <;> simp_all
    ·rename_i hb;rw[hb]
    ·cases this
  split at h
  ·rename_i hd
   have:=I1 (P:=P) (K:=K) (ops:=ops) (o:=o) hg (fun d h'=>by rw[hd] at h';cases h')
   rw[hd] at this
   exact OpR.tops this (HN l sk sk' h H)
  ·rename_i d hd
   split at h
   case isFalse=>cases h
   rename_i hc
   have:=I1 (P:=P) (K:=K) (ops:=ops) (o:=o) hg (fun d' h'=>by rw[hd] at h';cases h';rw[Ge];exact hc.1)
   rw[hd] at this
   exact OpR.tops this (HN l (d::sk) sk' h H)
def Y4 (ops:Array Oper) (st:St) (l:List Oper) (ds:List Nat):Bool:=match skR ops st l [] with |some sk=>ds.all fun d=>sk.contains d |none=>false
theorem AR {ops:Array Oper} {Q:Exit→St→Prop} {l:List Oper} (k:Nat) (ds:List Nat) (hB:Y4 ops st (l.take k) ds=true) (H:Az P K ops (l.drop k) (CJ ds st) Q):Az P K ops l st Q:=by
 obtain⟨sk,h,hds⟩:∃sk,skR ops st (l.take k) []=some sk∧(ds.all fun d=>sk.contains d)=true:=by
  unfold Y4 at hB
  split at hB
  ·rename_i sk hsk;exact⟨sk,hsk,hB⟩
  ·cases hB
 have h1:Az P K ops (l.drop k) (CJ sk st) Q:=fun a w p R=>by
  refine H a w p ?_
  have hsk:∀d∈sk,get st.env d=none:=by
   have key:∀(l:List Oper) (s0 s1:List Nat),skR ops st l s0=some s1→(∀d∈s0,get st.env d=none)→∀d∈s1,get st.env d=none:=fun l=>by
    induction l with
    |nil=>intro s0 s1 h h0;simp only[skR] at h;cases h;exact h0
    |cons o l ih=>
     intro s0 s1 h h0
     simp only[skR] at h
     split at h
     ·cases h
     split at h
     ·cases h
     split at h
     case isFalse=>cases h
     split at h
     ·exact ih _ _ h h0
     ·split at h
      case isFalse=>cases h
      rename_i hc
      exact ih _ _ h fun d hd=>by
       rcases List.mem_cons.1 hd with rfl |hd
       ·simpa using hc.2
       ·exact h0 d hd
   exact key _ _ _ h (fun d hd=>by simp at hd)
  simp only[List.all_eq_true,List.contains_iff_mem] at hds
  have hlook:∀t x,get (CJ ds st).env t=some x→get (CJ sk st).env t=some x:=fun t x hx=>by
   rcases PR hx with ⟨h1,rfl⟩ |h1
   ·have:=JE (st:=st) (hds t h1)
    unfold St.look at this
    cases hg:get (CJ sk st).env t with
    |none=>rw[hg] at this;cases this
    |some y=>rw[hg] at this;simp at this;rw[this]
   ·have hn:t∉sk:=fun hm=>by rw[hsk t hm] at h1;cases h1
    have:=Hu (st:=st) hn
    unfold St.look at this
    rw[h1] at this
    cases hg:get (CJ sk st).env t with
    |none=>
     exfalso
     have key:∀(s:List Nat),get (CJ s st).env t=none→get st.env t=none:=fun s=>by
      induction s with
      |nil=>exact id
      |cons d s ih=>
       intro h
       simp only[CJ,St.put,get] at h
       split at h
       ·cases h
       ·exact ih h
     rw[key sk hg] at h1;cases h1
    |some y=>rw[hg] at this;simp at this;rw[this]
  have e1:=KZ sk st
  have e2:=KZ ds st
  exact {
   lb:=by rw[R.lb];funext n;simp only[St.lb,e1.1,e2.1]
   lv:=by rw[R.lv];funext n;simp only[St.lv,e1.2,e2.2]
   dfr:=R.dfr,nt:=by rw[R.nt,Ge,Ge],ntl:=by have:=R.ntl;rwa [Ge] at this ⊢
   ion:=R.ion,size:=R.size,os:=R.os,tape:=R.tape,dr:=R.dr,output:=R.output,old:=R.old
   env:=fun t x hx=>R.env t x (hlook t x hx)
   box:=by have:=R.box;rwa [e1.1,←e2.1] at this
   vec:=by have:=R.vec;rwa [e1.2,←e2.2] at this
   dbb:=R.dbb,dbv:=R.dbv,dvv:=R.dvv }
 have:=HN (l.take k) [] sk h h1
 rwa [List.take_append_drop] at this
theorem TJ {c:Code} {Q:Exit→St→Prop} {k:Nat} (n:Nat) (cs:List AV) (row:List D) (hb:get st.box n=some cs) (hd:EC cs=some row) (hk:K.ios.length=k) (hn:n < 1000000) (hio:∀i,i < k→st.lb (InO i)=true) (h:Tr P K c (st.frzB n row) Q):Tr P K c st Q:=
 fun a w p R=>by obtain⟨p',R'⟩:=R.frzB hb hd hk hn hio;exact h a w p' R'
def Ka (P:Program) (f:FuncId) (bx:List (List AV)) (vx:List VS) (args:List AV) (res:AV) (bx':List (List AV)) (vx':List VS):Prop:=QQ (fun iv iv'=>iv'=iv) P f bx vx args res bx' vx'
def Kb:List (Nat×Nat)→St→St
 |[],st=>st
 |(t,n)::ts,st=>(Kb ts st).put t (.vec n)
theorem Kc {st st':St} {w w':World} {p p':Pl} (R:Rel K st a w p):∀(ts:List (Nat×Nat)),Rel K st' a w' p'→st'.nt=st.nt→(∀q∈ts,st.look q.1=.vec q.2∧p'.lv q.2∧p'.rw q.2=p.rw q.2)→Rel K (Kb ts st') a w' p'∧(Kb ts st').nt=st.nt
 |[],R',hnt,_=>⟨R',hnt⟩
 |(t,n)::ts,R',hnt,h=>by
  obtain⟨R2,h2⟩:=Kc R ts R' hnt (fun q hq=>h q (by simp[hq]))
  obtain⟨h1,h3,h4⟩:=h (t,n) (by simp)
  refine⟨?_,h2⟩
  cases hg:get st.env t with
  |none=>simp[St.look,hg] at h1
  |some x=>
   simp only[St.look,hg,Option.getD_some] at h1
   subst h1
   have hv:=R.env t _ hg
   generalize hu:a.tmps.getD t undef=u at hv
   cases hv
   have hra:RA w' (okc K w' p') p' (.vec n) (a.tmps.getD t undef):=by rw[hu];exact RA.vec_at h3 h4
   exact {
    lb:=R2.lb,lv:=R2.lv,dfr:=R2.dfr,nt:=R2.nt,ntl:=R2.ntl,ion:=R2.ion,size:=R2.size,os:=R2.os,tape:=R2.tape,dr:=R2.dr,output:=R2.output,old:=R2.old,
    env:=fun s y hs=>by
     have hs:(if t=s then some (AV.vec n) else get (Kb ts st').env s)=some y:=hs
     by_cases e:t=s
     ·rw[if_pos e] at hs;cases hs;subst e;exact hra
     ·rw[if_neg e] at hs;exact R2.env s y hs
    box:=R2.box,vec:=R2.vec,dbb:=R2.dbb,dbv:=R2.dbv,dvv:=R2.dvv }
theorem NH {ops:Array Oper} {Q:Exit→St→Prop} {f:FuncId} {bx:List (List AV)} {vx:List VS} {cargs:List AV} {res:AV} {bx':List (List AV)} {vx':List VS} {o:Oper} {c:Call} {y:Operand} {l:List Oper} {d:Nat} {st1:St} (ks σ τ:List Nat) (ts:List (Nat×Nat)) (F:Ka P f bx vx cargs res bx' vx') (ho:o.op=.call c) (hc:c.callee=.value y) (hd:o.dst=some d)
  (hcall:∀(args:Array Value) (w:World),(callFunc f args).run P w=.ok (.enter f args) w)
  (hall:gdA ops st o=some true∧d < st.nt∧σ.Nodup∧τ.Nodup∧(∃caps,opd st y=.fn f caps∧(c.args.toList.map (opd st)++caps).map (AV.view [] τ σ)=cargs)∧Bu st τ σ σ bx∧Du st τ vx∧bx.length=bx'.length∧τ.length=vx'.length∧(∀q∈ts,st.look q.1=.vec q.2∧q.2∈τ))
  (hs:St.kp ks ((Kb ts (CN st σ τ τ bx' vx')).put d (res.back τ σ))=st1)
  (h:Az P K ops l st1 Q):Az P K ops (o::l) st Q:=by
 obtain⟨hg,hdn,hσ,hτ,hfn,hbx,hvx,hl,hlυ,hts⟩:=hall
 subst hs
 have h:=FZ (OK ks) h
 intro a w p R
 unfold wpList
 rw[A9 R hg,if_pos rfl]
 refine .inl ?_
 unfold Oper.wp
 obtain⟨caps,hf,hargs⟩:=hfn
 obtain⟨cs,hy,hcl,hh⟩:=LE R hf
 rw[HH ho hc hy hcall]
 show Calls P f (c.args.map a.eval++cs) w _
 refine(Iz F R (υ:=τ) ⟨hg,hdn,hσ,hτ,hτ,⟨caps,hf,hargs⟩,hbx,hvx,hl,hlυ,fun n hn=>.inl hn⟩ ⟨caps,hcl,hh,hargs⟩).mono fun e w' ⟨v,p',he,R',hv,iv',hG,hk,_⟩=>?_
 subst he
 subst hG
 obtain⟨R2,h2⟩:=Kc R ts R' rfl (fun q hq=>by
  obtain⟨g1,g2⟩:=hts q hq
  obtain⟨i,hi⟩:=List.mem_iff_getElem?.1 g2
  obtain⟨k1,k2⟩:=hk i q.2 hi
  rw[List.getElem?_map,hi] at k2
  exact⟨g1,k1,by simpa using k2.symm⟩)
 show wpList P ops (Pst K Q) l (a.put o.dst v) w'
 rw[hd]
 exact h _ _ _ (R2.put hv (by rw[h2];exact hdn))
def ZW {α:Type} (f:α→List D):Option α→AV
 |none=>.d .nilp
 |some x=>.cptr (f x) 0
end
attribute [simp] Kb CJ ZW AV.frzB AV.frzBL St.frzB
end Go.Vl
