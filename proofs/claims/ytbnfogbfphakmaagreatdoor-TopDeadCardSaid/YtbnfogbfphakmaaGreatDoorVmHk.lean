/- Contracts of functions that leave rows where they lie, from what the kit's wp tells of their bodies; slots that a region does not write. Conditions: none. -/
import Derived.Test.YtbnfogbfphakmaaGreatDoorVmFr
import Derived.Test.YtbnfogbfphakmaaGreatDoorVmZb
import Derived.Test.YtbnfogbfphakmaaGreatDoorVmQq
import Derived.Test.YtbnfogbfphakmaaGreatDoorVmHg
set_option linter.unusedSimpArgs false
set_option linter.unusedVariables false
namespace Go.Vl
open Go Go.RowKit
def SX (P:Program) (rs:List ResultVar) (res:AV) (bx':List (List AV)) (vx':List VS) (τ:List Nat) (st:St):Prop:=
 (C4 P st rs).map (fun l=>(Hn l).fin.outV τ)=some res∧res.wf ioB (fun _=>true)=true∧DW st τ 0 bx'∧Du st τ vx'∧τ.Nodup
section
variable {P:Program} {K:Ctx P} {st:St} {a:Act} {w:World} {p:Pl}
theorem V6 {f:FuncId} {fn:Func} {c:Code} {nt:Nat} {rs:List ResultVar} {bx:List (List AV)} {vx:List VS} {args:List AV} {res:AV} {bx':List (List AV)} {vx':List VS} (hf:P.funcs[f]? =some fn) (hb:fn.body=some c) (hnt:fn.ntmps=nt) (hrs:fn.results.toList=rs)
  (hna:args.length≤nt) (hn6:nt≤1000000) (hlb:bx.length=bx'.length) (h:∀(K:Ctx P) (a:Act) (w:World) (p:Pl),K.ios.length=bx.length→Rel K (Ap nt args bx vx) a w p→c.wp P (fun e a' w'=>(e=.normal∨e=.ret)∧∃s p',Rel K s a' w' p'∧∃τ:List Nat,SX P rs res bx' vx' τ s∧τ=(List.range vx.length).map (fun i=>2000000+i)∧τ.map p'.rw=τ.map p.rw) a w):Ka P f bx vx args res bx' vx':=by
 intro w ok io iv vs hpre hvs hargs hgl
 let K:Ctx P:=⟨w,ok,io,iv.filterMap Value.blk,fun b i x h=>⟨⟨(hpre.okb b (hgl b i x h).1).1,(hgl b i x h).1,(hpre.okb b (hgl b i x h).1).2.1,fun hm=>by obtain⟨v,hv,e⟩:=List.mem_filterMap.1 hm;exact(hpre.okb b (hgl b i x h).1).2.2 v hv e⟩,(hgl b i x h).2⟩⟩
 have hivs:∀b,b∈K.ivs↔∃v∈iv,v.blk=some b:=fun b=>List.mem_filterMap
 refine calls_of_wp hf hb ?_
 have hokc:∀b,ok b→okc K w (Ag io iv) b:=fun b hb'=>⟨(hpre.okb b hb').1,.inl hb',fun n hn e=>by
  obtain⟨h1,h2⟩:=hn
  have:(Ag io iv).bx n∈io:=by simp[Ag,List.getElem?_eq_getElem h2]
  exact(hpre.okb b hb').2.1 (e▸this),fun n hn=>by
  obtain⟨h1,h2⟩:=hn
  have:(Ag io iv).rw n∈iv:=by simp[Ag,List.getElem?_eq_getElem h2]
  exact(hpre.okb b hb').2.2 _ this⟩
 have hra:∀{x:AV} {v:Value},RA w ok (Ag io iv) x v→RA w (okc K w (Ag io iv)) (Ag io iv) x v:=fun h=>h.mono (fun _ _=>rfl) hokc (fun _ h=>⟨h,rfl⟩) (fun _ h=>⟨h,rfl⟩)
 have hgn:∀{α:Type} (base:Nat) (l:List α) (n:Nat) (x:α),get (A5 base l) n=some x→base≤n∧l[n - base]? =some x:=fun base l n x hg=>by
  rw[BB] at hg
  split at hg
  ·exact⟨‹_›,hg⟩
  ·cases hg
 have R:Rel K (Ap nt args bx vx) { tmps:=vs++Array.replicate (fn.ntmps - vs.size) undef,defers:=[]} w (Ag io iv):={
  lb:=by
   funext n
   simp only[Ag,St.lb,Ap,BB,eq_iff_iff,hpre.len]
   by_cases h:1000000≤n
   ·simp[h]
   ·simp[h]
  lv:=by
   funext n
   simp only[Ag,St.lv,Ap,BB,eq_iff_iff,hpre.lenv]
   by_cases h:2000000≤n
   ·simp[h]
   ·simp[h]
  dfr:=rfl
  nt:=by simp[Ap,hnt,hvs];omega
  ntl:=hn6
  ion:=fun i hi=>by have:=L2.1 hi;rw[L3 (List.getElem?_eq_getElem this)];exact List.getElem?_eq_getElem this
  size:=Nat.le_refl _
  os:=rfl
  tape:=rfl
  dr:=Nat.le_refl _
  output:=rfl
  old:=fun _ _ _=>rfl
  env:=fun t x hx=>by
   simp only[Ap,BB,Nat.zero_le,if_true,Nat.sub_zero] at hx
   have ht:t < vs.size:=by have:=(List.getElem?_eq_some_iff.1 hx).1;omega
   have:(vs++Array.replicate (fn.ntmps - vs.size) undef).getD t undef=vs[t]:=by simp[Array.getElem?_append,ht]
   rw[this]
   exact hra (hargs t x _ hx (by simp[ht]))
  box:=fun n cs hn=>by
   obtain⟨h1,h2⟩:=hgn _ _ n cs hn
   have hi:n - 1000000 < io.length:=by rw[hpre.len];exact(List.getElem?_eq_some_iff.1 h2).1
   obtain⟨⟨us,ty,g1,g2,g3,g4⟩⟩:=hpre.at_ (n - 1000000) io[n - 1000000] cs (List.getElem?_eq_getElem hi) h2
   have hbx:(Ag io iv).bx n=io[n - 1000000]:=by simp[Ag,List.getElem?_eq_getElem hi]
   exact⟨⟨us,ty,by rw[hbx];exact g1,g2,fun i c v hc hv=>hra (g3 i c v hc hv),g4⟩,.inr (.inl (by rw[hbx];exact List.getElem_mem hi))⟩
  vec:=fun n s hn=>by
   obtain⟨h1,h2⟩:=hgn _ _ n s hn
   have hi:n - 2000000 < iv.length:=by rw[hpre.lenv];exact(List.getElem?_eq_some_iff.1 h2).1
   obtain⟨g1,g3⟩:=hpre.vat (n - 2000000) iv[n - 2000000] s (List.getElem?_eq_getElem hi) h2
   have hrw:(Ag io iv).rw n=iv[n - 2000000]:=by simp[Ag,List.getElem?_eq_getElem hi]
   exact⟨by rw[hrw];exact g1.mono (fun _ _=>rfl) hokc (fun _ _=>rfl),g3,fun g hg=>.inr ((hivs g).2 ⟨_,List.getElem_mem hi,by rw[← hrw];exact hg⟩)⟩
  dbb:=fun n m hn hm hne e=>by
   have hn':1000000≤n∧n - 1000000 < io.length:=hn
   have hm':1000000≤m∧m - 1000000 < io.length:=hm
   clear hn hm
   obtain⟨n1,n2⟩:=hn'
   obtain⟨m1,m2⟩:=hm'
   have e2:((io[n - 1000000]?).getD 0)=((io[m - 1000000]?).getD 0):=e
   rw[List.getElem?_eq_getElem n2,List.getElem?_eq_getElem m2] at e2
   have:=(List.getElem_inj hpre.nodup).1 e2
   omega
  dbv:=fun n m hn hm=>by
   have hn':1000000≤n∧n - 1000000 < io.length:=hn
   have hm':2000000≤m∧m - 2000000 < iv.length:=hm
   have e1:(Ag io iv).bx n∈io:=by simp[Ag,List.getElem?_eq_getElem hn'.2]
   have e2:(Ag io iv).rw m∈iv:=by simp[Ag,List.getElem?_eq_getElem hm'.2]
   exact hpre.vio _ e2 _ e1
  dvv:=fun n m hn hm hne=>by
   have hn':2000000≤n∧n - 2000000 < iv.length:=hn
   have hm':2000000≤m∧m - 2000000 < iv.length:=hm
   clear hn hm
   obtain⟨n1,n2⟩:=hn'
   obtain⟨m1,m2⟩:=hm'
   obtain⟨v1,hv1⟩:∃v,iv[n - 2000000]? =some v:=⟨_,List.getElem?_eq_getElem n2⟩
   obtain⟨v2,hv2⟩:∃v,iv[m - 2000000]? =some v:=⟨_,List.getElem?_eq_getElem m2⟩
   have hq:n - 2000000≠m - 2000000:=by omega
   have e1:(Ag io iv).rw n=v1:=by show(iv[n - 2000000]?).getD undef=_;rw[hv1];rfl
   have e2:(Ag io iv).rw m=v2:=by show(iv[m - 2000000]?).getD undef=_;rw[hv2];rfl
   rw[e1,e2]
   exact hpre.vdis _ _ _ _ hv1 hv2 hq }
 refine wp_mono (h K _ w _ hpre.len R) fun e a' w' ⟨he,s,p2,R2,τ,q,hτ,hrw⟩=>?_
 have hiv:τ.map p2.rw=iv:=by
  rw[hrw,hτ,List.map_map]
  apply List.ext_getElem?
  intro i
  rw[List.getElem?_map]
  by_cases hi:i < vx.length
  ·rw[List.getElem?_range hi]
   have hi2:i < iv.length:=by rw[hpre.lenv];exact hi
   simp[Ag,List.getElem?_eq_getElem hi2]
  ·rw[List.getElem?_eq_none (by simp;omega),List.getElem?_eq_none (by rw[hpre.lenv];omega)];rfl
 have key:SX P rs res bx' vx' τ s→a'.defers=[]∧∃v,(results fn a'.tmps).run P w'=.ok v w'∧(∃u iv',Ending.returned v=.returned u∧RA w' (okn ok iv iv' w w') (Ag io iv') res u∧EG w' (okn ok iv iv' w w') io iv' bx' vx'∧(∀u∈iv',∀g,u.blk=some g→w.heap.size≤g∨∃v∈iv,v.blk=some g)∧Frm io iv w w'∧iv'=iv):=by
  rintro⟨hres,hwf,hbox,hvec,hnd⟩
  obtain⟨hvl,hvg⟩:=Dv hvec
  have hτl:∀n∈τ,p2.lv n:=fun n hn=>by
   obtain⟨i,hi,rfl⟩:=List.getElem_of_mem hn
   exact(R2.lvi _).2 (by simp[St.lv,hvg (List.getElem?_eq_getElem hi) (List.getElem?_eq_getElem (by omega))])
  cases hrl:C4 P (s) rs with
  |none=>rw[hrl] at hres;cases hres
  |some xs=>
   rw[hrl] at hres
   simp only[Option.map_some,Option.some.injEq] at hres
   rw[← hrs] at hrl
   obtain⟨v,g1,g2⟩:=Hq R2 hrl
   have hok2:∀b,okc K w' p2 b→okn ok iv (τ.map p2.rw) w w' b:=fun b hb'=>⟨by
    rcases hb'.2.1 with h1 |h1 |h1
    ·exact .inl h1
    ·exact .inr (.inl h1)
    ·exact .inr (.inr ((hivs b).1 h1)),hb'.1,fun u hu e=>by
    obtain⟨n,hn,rfl⟩:=List.mem_map.1 hu
    exact hb'.2.2.2 n (hτl n hn) e⟩
   have hbl:∀n,1000000≤n→p2.lb n→(Ag io (τ.map p2.rw)).lb n∧(Ag io (τ.map p2.rw)).bx n=p2.bx n:=fun n hn hl=>by
    obtain⟨i,rfl⟩:∃i,n=InO i:=⟨n - 1000000,by unfold InO;omega⟩
    have h7:io[i]? =some (p2.bx (InO i)):=R2.ion i hl
    exact⟨L2.2 (List.getElem?_eq_some_iff.1 h7).1,L3 h7⟩
   have hexit:∀{x:AV} {u:Value},RA w' (okc K w' p2) p2 x u→(x.outV τ).wf ioB (fun _=>true)=true→RA w' (okn ok iv (τ.map p2.rw) w w') (Ag io (τ.map p2.rw)) (x.outV τ) u:=fun hx hw=>hx.outv hok2 hbl hw
   have hpb:∀i b,io[i]? =some b→∃cs0 cs,get (s).box (InO i)=some cs0∧bx'[i]? =some cs∧AV.outVL τ (AV.finL cs0)=cs∧AV.wfL ioB (fun _=>true) cs=true∧p2.bx (InO i)=b:=fun i b hi=>by
    have hil:i < bx'.length:=by rw[← hlb,←hpre.len];exact(List.getElem?_eq_some_iff.1 hi).1
    obtain⟨cs0,k1,k2,k3⟩:=D3 hbox (List.getElem?_eq_getElem hil)
    rw[Nat.zero_add] at k1
    have:=R2.ion i ((R2.lbi _).2 (by show(get s.box (InO i)).isSome=true;rw[k1];rfl))
    rw[show K.ios[i]? =some b from hi] at this
    injection this with this
    exact⟨cs0,_,k1,List.getElem?_eq_getElem hil,k2,k3,this.symm⟩
   refine⟨R2.dfr,v,g1,v,τ.map p2.rw,rfl,by rw[← hres];exact hexit g2.fin (by rw[hres];exact hwf),⟨hpre.len.trans hlb,hpre.nodup,fun b hb'=>⟨hb'.2.1,fun hm=>?_,hb'.2.2⟩,fun i b cs hi hc=>?_,by simp[hvl],fun i v s hv hs=>?_,fun i j v u hv hu hij=>?_,fun v hv b hb'=>?_⟩,fun u hu g hg=>?_,⟨R2.size,R2.os,R2.tape,R2.dr,R2.output,fun b h1 h2 h3=>R2.old b h1 (fun h=>h.elim h2 (fun h=>by obtain⟨v,hv,he⟩:=(hivs b).1 h;exact h3 v hv he))⟩,hiv⟩
   ·obtain⟨i,hi⟩:=List.mem_iff_getElem?.1 hm
    rcases hb'.1 with h1 |h1 |⟨u,h1,h2⟩
    ·exact(hpre.okb b h1).2.1 hm
    ·have hil:=(List.getElem?_eq_some_iff.1 hi).1
     obtain⟨⟨us,ty,g1,_⟩⟩:=hpre.at_ i b _ hi (List.getElem?_eq_getElem (by rw[← hpre.len];exact hil))
     have:=(Array.getElem?_eq_some_iff.1 g1).1
     omega
    ·exact hpre.vio u h1 b hm h2
   ·obtain⟨cs0,cs1,k1,k2,k3,k4,k5⟩:=hpb i b hi
    rw[hc] at k2;cases k2
    obtain⟨⟨us,ty,g1,g2,g3,g4⟩,_⟩:=R2.box (InO i) cs0 k1
    refine⟨⟨us,ty,by rw[← k5];exact g1,by rw[g2,←k3,Ce,Dt];simp,fun j c v hc' hv=>?_,g4⟩⟩
    have hw:=AV.wfL_get k4 hc'
    rw[← k3,Ce,Dt] at hc'
    simp only[List.getElem?_map,Option.map_eq_some_iff] at hc'
    obtain⟨q',⟨q,hq,rfl⟩,rfl⟩:=hc'
    exact hexit (g3 j q v hq hv).fin hw
   ·rw[List.getElem?_map] at hv
    cases hn:τ[i]? with
    |none=>rw[hn] at hv;cases hv
    |some n=>
     rw[hn] at hv;cases hv
     obtain⟨a1,a3,_⟩:=R2.vec n s (hvg hn hs)
     exact⟨a1.mono (fun _ _=>rfl) hok2 (fun _ _=>rfl),a3⟩
   ·rw[List.getElem?_map] at hv hu
    cases hn:τ[i]? with
    |none=>rw[hn] at hv;cases hv
    |some n=>
     cases hm:τ[j]? with
     |none=>rw[hm] at hu;cases hu
     |some m=>
      rw[hn] at hv;rw[hm] at hu;cases hv;cases hu
      refine R2.dvv n m (hτl n (List.mem_of_getElem? hn)) (hτl m (List.mem_of_getElem? hm)) (fun e=>hij ?_)
      subst e
      exact(List.getElem?_inj (List.getElem?_eq_some_iff.1 hn).1 hnd).1 (hn.trans hm.symm)
   ·obtain⟨n,hn,rfl⟩:=List.mem_map.1 hv
    obtain⟨i,hi⟩:=List.mem_iff_getElem?.1 hb'
    obtain⟨cs0,cs1,k1,_,_,_,k5⟩:=hpb i b hi
    rw[← k5]
    exact R2.dbv _ n ((R2.lbi _).2 (by show(get s.box (InO i)).isSome=true;rw[k1];rfl)) (hτl n hn)
   ·obtain⟨n,hn,rfl⟩:=List.mem_map.1 hu
    rcases(R2.vlt (hτl n hn) hg).1 with h1 |h1
    ·exact .inl h1
    ·exact .inr ((hivs g).1 h1)
 rcases he with rfl |rfl
 ·exact key q
 ·exact key q
end
end Go.Vl
