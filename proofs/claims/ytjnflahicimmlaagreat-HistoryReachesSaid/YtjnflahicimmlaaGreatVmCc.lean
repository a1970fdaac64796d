/- The value logic: calls with one of several results. Conditions: none. -/
import Derived.Test.YtjnflahicimmlaaGreatVmLz
import Derived.Test.YtjnflahicimmlaaGreatVmRd
set_option linter.unusedSimpArgs false
set_option linter.unusedVariables false
namespace Go.Vl
open Go
def FnOKr {α:Type} (P:Program) (f:FuncId) (args:List AV) (S:α→Prop) (res:α→AV) (vx:α→List VS):Prop:=
 ∀(w:World) (ok:Nat→Prop) (vs:Array Value),FnPre w ok [] [] [] []→vs.size=args.length→(∀(i:Nat) (x:AV) (v:Value),args[i]? =some x→vs[i]? =some v→RA w ok (ioPl [] []) x v)→GlobAt P w ok→
  Calls P f vs w fun e w'=>∃x,S x∧∃v iv',e=.returned v∧RA w' (okn ok [] iv' w w') (ioPl [] iv') (res x) v∧FnPre w' (okn ok [] iv' w w') [] iv' [] (vx x)∧(∀u∈iv',∀g,u.blk=some g→w.heap.size≤g∨∃v∈([]:List Value),v.blk=some g)∧Frm [] [] w w'
section
variable {P:Program} {K:Ctx P} {st:St} {ops:Array Oper} {Q:Exit→St→Prop}
theorem tops_callR {α:Type} {f:FuncId} {cargs:List AV} {S:α→Prop} {res:α→AV} {vx:α→List VS} {o:Oper} {c:Call} {y:Operand} {l:List Oper} {d:Nat} (υ:List Nat) (C:FnOKr P f cargs S res vx) (ho:o.op=.call c) (hc:c.callee=.value y) (hd:o.dst=some d)
  (hcall:∀(args:Array Value) (w:World),(callFunc f args).run P w=.ok (.enter f args) w) (hg:gdA ops st o=some true) (H:∀x,CallOK st ops o c y f [] [] υ [] [] cargs [] (vx x) d) (hdn:d < st.nt)
  (hfn:∃caps,opd st y=.fn f caps∧(c.args.toList.map (opd st)++caps).map (AV.view [] [] [])=cargs)
  (h:∀x,S x→TOps P K ops l ((calledSt st [] [] υ [] (vx x)).put d ((res x).back υ [])) Q):TOps P K ops (o::l) st Q:=by
 intro a w p R
 unfold wpList
 rw[gd_sound R hg,if_pos rfl]
 refine .inl ?_
 unfold Oper.wp
 obtain⟨caps,hf,hargs⟩:=hfn
 obtain⟨cs,hy,hl,hh⟩:=eval_fn R hf
 rw[enter_run ho hc hy hcall]
 show Calls P f (c.args.map a.eval++cs) w _
 obtain⟨hsz,hra⟩:=args_ra (args:=c.args) R hl hh
 have hview:∀{x:AV} {v:Value},RA w (okc K w p) p x v→RA w (okc K w p) (ioPl ([].map p.bx) ([].map p.rw)) (x.view [] [] []) v:=fun h=>h.view (fun _ h=>h) (fun n s hs=>by simp[get] at hs)
 have hpre:FnPre w (okc K w p) [] [] [] []:=⟨rfl,List.nodup_nil,fun b hb=>⟨hb.1,by simp,fun v hv=>by simp at hv⟩,fun i b cs hb=>by simp at hb,rfl,fun i v s hv=>by simp at hv,fun i j v u hv=>by simp at hv,fun v hv=>by simp at hv⟩
 refine(C w (okc K w p) (c.args.map a.eval++cs) hpre (by rw[← hargs,hsz,List.length_map]) (fun i x v hx hv=>?_) R.glob).mono fun e w' he=>?_
 ·rw[← hargs,List.getElem?_map] at hx
  simp only[Option.map_eq_some_iff] at hx
  obtain⟨q,hq,rfl⟩:=hx
  exact hview (hra i q v hq hv)
 ·obtain⟨x,hS,v,iv',rfl,hres,hpre',hown,hfrm⟩:=he
  obtain⟨p',R',hok,hbk,hvk,_⟩:=R.calledV (σ:=[]) (τ:=[]) (H x).ndσ (fun n hn=>by simp at hn) rfl (fun n hn=>by simp at hn) (H x).ndυ (H x).lenυ (fun n hn=>((H x).fresh n hn).imp id (fun h h'=>by
   have:=(R.lvi n).1 h'
   simp[St.lv,h] at this)) hfrm hpre' hown
  show wpList P ops (Pst K Q) l (a.put o.dst v) w'
  rw[hd]
  exact h x hS _ _ _ (R'.put (hres.back hok hbk hvk) hdn)
variable {a:Act} {w:World} {p:Pl}
theorem Rel.cutOwn (R:Rel K st a w p) {t n z k d:Nat} {s:VS} (ht:st.look t=.cut n z 0 k) (hs:get st.vec n=some s) (hM:s.isM=false) (hd:get (del st.vec n) d=none):
  ∃p',Rel K (St.put { nt:=st.nt,env:=mapv (AV.scrub n) st.env,box:=mapv (List.map (AV.scrub n)) st.box,vec:=(d,{ s with rows:=s.rows.take k })::del st.vec n } t (.vec d)) a w p':=by
 have hx:=R.opd (.tmp t)
 simp only[Vl.opd,ht,Act.eval] at hx
 have hlt:t < st.nt:=by
  rw[← R.nt]
  rcases Nat.lt_or_ge t a.tmps.size with h |h
  ·exact h
  ·simp only[Array.getD_eq_getD_getElem?,Array.getElem?_eq_none h,Option.getD_none] at hx
   cases hx
 obtain⟨hat,hz,hmine⟩:=R.vec n s hs
 obtain⟨xs,hown,hrd⟩:=hat.row hM
 have hnl:p.lv n:=(R.lvi n).2 (by simp[St.lv,hs])
 generalize hv:a.tmps.getD t undef=v at hx
 have key:k≤s.rows.length∧w.ownsRow 0 s.e s.z v k (xs.take (k * s.z))∧(v.blk=none∨v.blk=(p.rw n).blk):=by
  cases hx with
  |cut hn hv1 ho hle=>
   rename_i o g c len
   have h0:o=0:=ho.2 rfl
   subst h0
   rcases hown.2 with ⟨h1,_⟩ |⟨g',cap,cur,h1,h2,h3,h4,h5,h6,h7⟩
   ·rw[hv1] at h1;cases h1
   ·rw[hv1] at h1
    cases h1
    have hk:k≤s.rows.length:=by omega
    have hkz:k * s.z≤s.rows.length * s.z:=Nat.mul_le_mul_right _ hk
    refine⟨hk,⟨by rw[List.length_take,hown.1];omega,.inr ⟨g,c,cur,by simp,h2,h3,by omega,h5,h6,?_⟩⟩,.inr (by rw[hv1];rfl)⟩
    rw[← h7,List.take_take]
    congr 1
    omega
  |cut0 hn hv1=>exact⟨Nat.zero_le _,⟨by simp,.inl ⟨rfl,rfl⟩⟩,.inl rfl⟩
 obtain⟨hk,hown2,hblk⟩:=key
 have hfl:(s.rows.take k).flatten=s.rows.flatten.take (k * s.z):=by
  have:∀(l:List (List D)) (k:Nat),(∀r∈l,r.length=s.z)→k≤l.length→(l.take k).flatten=l.flatten.take (k * s.z):=fun l=>by
   induction l with
   |nil=>intro k _ _;simp
   |cons r l ih=>
    intro k hr hk
    cases k with
    |zero=>simp
    |succ k=>
     have h1:=hr r (by simp)
     rw[List.take_succ_cons,List.flatten_cons,List.flatten_cons,ih k (fun q hq=>hr q (by simp[hq])) (by simpa using hk),Nat.succ_mul,List.take_append,List.take_of_length_le (l:=r) (by rw[h1];exact Nat.le_add_left _ _),h1,Nat.add_sub_cancel]
  exact this _ _ hz hk
 have R':=R.setVec (n:=n) (d:=d) (w':=w) (v':=v) (s:={ s with rows:=s.rows.take k }) (xs:=xs.take (k * s.z)) (row:=none) hM hd (World.grownBy.refl w _) (Nat.le_refl _) (.inl rfl) (by show w.ownsRow 0 s.e s.z v (s.rows.take k).length _;rw[List.length_take,Nat.min_eq_left hk];exact hown2) (fun r hr=>hz r (List.mem_of_mem_take hr)) (fun j x u hx hu=>by
  have hx':(s.rows.take k).flatten[j]? =some x:=hx
  rw[hfl,List.getElem?_take] at hx'
  rw[List.getElem?_take] at hu
  split at hx'
  ·rename_i hj
   rw[if_pos hj] at hu
   exact hrd j x u hx' hu
  ·cases hx') (hblk.imp id fun h=>.inl ⟨hnl,h⟩)
 have hp:a.put (some t) v=a:=by
  have hs:t < a.tmps.size:=by rw[R.nt];exact hlt
  cases a with
  |mk tmps defers=>
   simp only[Act.put,Act.mk.injEq,and_true]
   apply Array.ext
   ·simp
   ·intro i h1 h2
    rw[Array.getElem_setIfInBounds]
    split
    ·rename_i e;subst e
     simp only[Array.getD_eq_getD_getElem?,Array.getElem?_eq_getElem h2,Option.getD_some] at hv
     exact hv.symm
    ·rfl
 have R2:=R'.put (d:=t) (RA.vec_at (n:=d) (Or.inl rfl) (upd_same _ _ _)) hlt
 rw[hp] at R2
 exact⟨_,R2⟩
theorem wk_cut {s:St} (t n d:Nat) {z k:Nat} {S:VS} (ht:s.look t=.cut n z 0 k) (hs:get s.vec n=some S) (hd:get (del s.vec n) d=none) (hM:S.isM=false:=by rfl):
  Wk s (St.put { nt:=s.nt,env:=mapv (AV.scrub n) s.env,box:=mapv (List.map (AV.scrub n)) s.box,vec:=(d,{ S with rows:=S.rows.take k })::del s.vec n } t (.vec d)):=fun _ _ _ _ R=>R.cutOwn ht hs hM hd
end
end Go.Vl
namespace Go.Vl
open Go Go.RowKit
section
variable {P:Program}
theorem fn_okrK {α:Type} {f:FuncId} {fn:Func} {c:Code} {nt:Nat} {rs:List ResultVar} {args:List AV} {S:α→Prop} {res0:α→AV} {vx0:α→List VS} (hf:P.funcs[f]? =some fn) (hb:fn.body=some c) (hnt:fn.ntmps=nt) (hrs:fn.results.toList=rs)
  (hna:args.length≤nt) (hn6:nt≤1000000) (h:∀K:Ctx P,K.ios.length=0→Tr P K c (enterStV nt args [] []) (fun e s=>∃x,S x∧FinVQ P rs (res0 x) [] (vx0 x) e s)):FnOKr P f args S res0 vx0:=by
 intro w ok vs hpre hvs hargs hgl
 obtain⟨io,hio⟩:∃io:List Nat,io=[]:=⟨_,rfl⟩
 obtain⟨iv,hiv⟩:∃iv:List Value,iv=[]:=⟨_,rfl⟩
 obtain⟨bx,hbx⟩:∃bx:List (List AV),bx=[]:=⟨_,rfl⟩
 obtain⟨vx,hvx⟩:∃vx:List VS,vx=[]:=⟨_,rfl⟩
 obtain⟨bx',hbx'⟩:∃bx':List (List AV),bx'=[]:=⟨_,rfl⟩
 have hlb:bx.length=bx'.length:=by rw[hbx,hbx']
 rw[← hio,←hiv,←hbx,←hvx] at hpre
 rw[← hio,←hiv] at hargs
 replace h:∀K:Ctx P,K.ios.length=bx.length→Tr P K c (enterStV nt args bx vx) (fun e s=>∃x,S x∧FinVQ P rs (res0 x) bx' (vx0 x) e s):=by rw[hbx,hvx,hbx'];exact h
 suffices hh:Calls P f vs w fun e w'=>∃x,S x∧∃v iv',e=.returned v∧RA w' (okn ok iv iv' w w') (ioPl io iv') (res0 x) v∧FnPre w' (okn ok iv iv' w w') io iv' bx' (vx0 x)∧(∀u∈iv',∀g,u.blk=some g→w.heap.size≤g∨∃v∈iv,v.blk=some g)∧Frm io iv w w' by
  rw[hio,hiv,hbx'] at hh;exact hh
 let K:Ctx P:=⟨w,ok,io,iv.filterMap Value.blk,fun b i x h=>⟨⟨(hpre.okb b (hgl b i x h).1).1,(hgl b i x h).1,(hpre.okb b (hgl b i x h).1).2.1,fun hm=>by obtain⟨v,hv,e⟩:=List.mem_filterMap.1 hm;exact(hpre.okb b (hgl b i x h).1).2.2 v hv e⟩,(hgl b i x h).2⟩⟩
 have hivs:∀b,b∈K.ivs↔∃v∈iv,v.blk=some b:=fun b=>List.mem_filterMap
 refine calls_of_wp hf hb ?_
 have hokc:∀b,ok b→okc K w (ioPl io iv) b:=fun b hb'=>⟨(hpre.okb b hb').1,.inl hb',fun n hn e=>by
  obtain⟨h1,h2⟩:=hn
  have:(ioPl io iv).bx n∈io:=by simp[ioPl,List.getElem?_eq_getElem h2]
  exact(hpre.okb b hb').2.1 (e▸this),fun n hn=>by
  obtain⟨h1,h2⟩:=hn
  have:(ioPl io iv).rw n∈iv:=by simp[ioPl,List.getElem?_eq_getElem h2]
  exact(hpre.okb b hb').2.2 _ this⟩
 have hra:∀{x:AV} {v:Value},RA w ok (ioPl io iv) x v→RA w (okc K w (ioPl io iv)) (ioPl io iv) x v:=fun h=>h.mono (fun _ _=>rfl) hokc (fun _ h=>⟨h,rfl⟩) (fun _ h=>⟨h,rfl⟩)
 have hgn:∀{α:Type} (base:Nat) (l:List α) (n:Nat) (x:α),get (numbered base l) n=some x→base≤n∧l[n - base]? =some x:=fun base l n x hg=>by
  rw[get_numbered] at hg
  split at hg
  ·exact⟨‹_›,hg⟩
  ·cases hg
 have R:Rel K (enterStV nt args bx vx) { tmps:=vs++Array.replicate (fn.ntmps - vs.size) undef,defers:=[]} w (ioPl io iv):={
  lb:=by
   funext n
   simp only[ioPl,St.lb,enterStV,get_numbered,eq_iff_iff,hpre.len]
   by_cases h:1000000≤n
   ·simp[h]
   ·simp[h]
  lv:=by
   funext n
   simp only[ioPl,St.lv,enterStV,get_numbered,eq_iff_iff,hpre.lenv]
   by_cases h:2000000≤n
   ·simp[h]
   ·simp[h]
  dfr:=rfl
  nt:=by simp[enterStV,hnt,hvs];omega
  ntl:=hn6
  ion:=fun i hi=>by have:=io_lb.1 hi;rw[io_bx (List.getElem?_eq_getElem this)];exact List.getElem?_eq_getElem this
  size:=Nat.le_refl _
  os:=rfl
  tape:=rfl
  dr:=Nat.le_refl _
  output:=rfl
  old:=fun _ _ _=>rfl
  env:=fun t x hx=>by
   simp only[enterStV,get_numbered,Nat.zero_le,if_true,Nat.sub_zero] at hx
   have ht:t < vs.size:=by have:=(List.getElem?_eq_some_iff.1 hx).1;omega
   have:(vs++Array.replicate (fn.ntmps - vs.size) undef).getD t undef=vs[t]:=by simp[Array.getElem?_append,ht]
   rw[this]
   exact hra (hargs t x _ hx (by simp[ht]))
  box:=fun n cs hn=>by
   obtain⟨h1,h2⟩:=hgn _ _ n cs hn
   have hi:n - 1000000 < io.length:=by rw[hpre.len];exact(List.getElem?_eq_some_iff.1 h2).1
   obtain⟨⟨us,ty,g1,g2,g3,g4⟩⟩:=hpre.at_ (n - 1000000) io[n - 1000000] cs (List.getElem?_eq_getElem hi) h2
   have hbx:(ioPl io iv).bx n=io[n - 1000000]:=by simp[ioPl,List.getElem?_eq_getElem hi]
   exact⟨⟨us,ty,by rw[hbx];exact g1,g2,fun i c v hc hv=>hra (g3 i c v hc hv),g4⟩,.inr (.inl (by rw[hbx];exact List.getElem_mem hi))⟩
  vec:=fun n s hn=>by
   obtain⟨h1,h2⟩:=hgn _ _ n s hn
   have hi:n - 2000000 < iv.length:=by rw[hpre.lenv];exact(List.getElem?_eq_some_iff.1 h2).1
   obtain⟨g1,g3⟩:=hpre.vat (n - 2000000) iv[n - 2000000] s (List.getElem?_eq_getElem hi) h2
   have hrw:(ioPl io iv).rw n=iv[n - 2000000]:=by simp[ioPl,List.getElem?_eq_getElem hi]
   exact⟨by rw[hrw];exact g1.mono (fun _ _=>rfl) hokc (fun _ _=>rfl),g3,fun g hg=>.inr ((hivs g).2 ⟨_,List.getElem_mem hi,by rw[← hrw];exact hg⟩)⟩
  dbb:=fun n m hn hm hne e=>by
   have hn':1000000≤n∧n - 1000000 < io.length:=hn
   have hm':1000000≤m∧m - 1000000 < io.length:=hm
   clear hn hm
   obtain⟨n1,n2⟩:=hn'
   obtain⟨m1,m2⟩:=hm'
   have e2:((io[n - 1000000]?).getD 0)=((io[m - 1000000]?).getD 0):=e
   rw[List.getElem?_eq_getElem n2,List.getElem?_eq_getElem m2] at e2
   have:=(List.getElem_inj hpre.nodup).1 e2
   omega
  dbv:=fun n m hn hm=>by
   have hn':1000000≤n∧n - 1000000 < io.length:=hn
   have hm':2000000≤m∧m - 2000000 < iv.length:=hm
   have e1:(ioPl io iv).bx n∈io:=by simp[ioPl,List.getElem?_eq_getElem hn'.2]
   have e2:(ioPl io iv).rw m∈iv:=by simp[ioPl,List.getElem?_eq_getElem hm'.2]
   exact hpre.vio _ e2 _ e1
  dvv:=fun n m hn hm hne=>by
   have hn':2000000≤n∧n - 2000000 < iv.length:=hn
   have hm':2000000≤m∧m - 2000000 < iv.length:=hm
   clear hn hm
   obtain⟨n1,n2⟩:=hn'
   obtain⟨m1,m2⟩:=hm'
   obtain⟨v1,hv1⟩:∃v,iv[n - 2000000]? =some v:=⟨_,List.getElem?_eq_getElem n2⟩
   obtain⟨v2,hv2⟩:∃v,iv[m - 2000000]? =some v:=⟨_,List.getElem?_eq_getElem m2⟩
   have hq:n - 2000000≠m - 2000000:=by omega
   have e1:(ioPl io iv).rw n=v1:=by show(iv[n - 2000000]?).getD undef=_;rw[hv1];rfl
   have e2:(ioPl io iv).rw m=v2:=by show(iv[m - 2000000]?).getD undef=_;rw[hv2];rfl
   rw[e1,e2]
   exact hpre.vdis _ _ _ _ hv1 hv2 hq }
 refine wp_mono (h K hpre.len _ w _ R) fun e a' w' ⟨s,p',R',x1,hS,q⟩=>?_
 obtain⟨res,hres1⟩:∃res,res=res0 x1:=⟨_,rfl⟩
 obtain⟨vx',hvx1⟩:∃vx',vx'=vx0 x1:=⟨_,rfl⟩
 rw[← hres1,←hvx1] at q
 suffices hk:(e=.normal∨e=.ret)∧(a'.defers=[]∧∃v,(results fn a'.tmps).run P w'=.ok v w'∧(∃u iv',Ending.returned v=.returned u∧RA w' (okn ok iv iv' w w') (ioPl io iv') res u∧FnPre w' (okn ok iv iv' w w') io iv' bx' vx'∧(∀u∈iv',∀g,u.blk=some g→w.heap.size≤g∨∃v∈iv,v.blk=some g)∧Frm io iv w w')) by
  obtain⟨he,h1,v,h2,h3⟩:=hk
  rw[hres1,hvx1] at h3
  rcases he with rfl |rfl
  ·exact⟨h1,v,h2,x1,hS,h3⟩
  ·exact⟨h1,v,h2,x1,hS,h3⟩
 have key:FinV P rs res bx' vx' s→a'.defers=[]∧∃v,(results fn a'.tmps).run P w'=.ok v w'∧(∃u iv',Ending.returned v=.returned u∧RA w' (okn ok iv iv' w w') (ioPl io iv') res u∧FnPre w' (okn ok iv iv' w w') io iv' bx' vx'∧(∀u∈iv',∀g,u.blk=some g→w.heap.size≤g∨∃v∈iv,v.blk=some g)∧Frm io iv w w'):=by
  rintro⟨ns,τ,hres,hwf,hbox,hvec,hnd⟩
  obtain⟨p2,R2⟩:=R'.frzs ns
  obtain⟨hvl,hvg⟩:=vecsAre_get hvec
  have hτl:∀n∈τ,p2.lv n:=fun n hn=>by
   obtain⟨i,hi,rfl⟩:=List.getElem_of_mem hn
   exact(R2.lvi _).2 (by simp[St.lv,hvg (List.getElem?_eq_getElem hi) (List.getElem?_eq_getElem (by omega))])
  cases hrl:resLA P (frzs s ns) rs with
  |none=>rw[hrl] at hres;cases hres
  |some xs=>
   rw[hrl] at hres
   simp only[Option.map_some,Option.some.injEq] at hres
   rw[← hrs] at hrl
   obtain⟨v,g1,g2⟩:=results_run R2 hrl
   have hok2:∀b,okc K w' p2 b→okn ok iv (τ.map p2.rw) w w' b:=fun b hb'=>⟨by
    rcases hb'.2.1 with h1 |h1 |h1
    ·exact .inl h1
    ·exact .inr (.inl h1)
    ·exact .inr (.inr ((hivs b).1 h1)),hb'.1,fun u hu e=>by
    obtain⟨n,hn,rfl⟩:=List.mem_map.1 hu
    exact hb'.2.2.2 n (hτl n hn) e⟩
   have hbl:∀n,1000000≤n→p2.lb n→(ioPl io (τ.map p2.rw)).lb n∧(ioPl io (τ.map p2.rw)).bx n=p2.bx n:=fun n hn hl=>by
    obtain⟨i,rfl⟩:∃i,n=InO i:=⟨n - 1000000,by unfold InO;omega⟩
    have h7:io[i]? =some (p2.bx (InO i)):=R2.ion i hl
    exact⟨io_lb.2 (List.getElem?_eq_some_iff.1 h7).1,io_bx h7⟩
   have hexit:∀{x:AV} {u:Value},RA w' (okc K w' p2) p2 x u→(x.outV τ).wf ioB (fun _=>true)=true→RA w' (okn ok iv (τ.map p2.rw) w w') (ioPl io (τ.map p2.rw)) (x.outV τ) u:=fun hx hw=>hx.outv hok2 hbl hw
   have hpb:∀i b,io[i]? =some b→∃cs0 cs,get (frzs s ns).box (InO i)=some cs0∧bx'[i]? =some cs∧AV.outVL τ (AV.finL cs0)=cs∧AV.wfL ioB (fun _=>true) cs=true∧p2.bx (InO i)=b:=fun i b hi=>by
    have hil:i < bx'.length:=by rw[← hlb,←hpre.len];exact(List.getElem?_eq_some_iff.1 hi).1
    obtain⟨cs0,k1,k2,k3⟩:=boxesAreV_get hbox (List.getElem?_eq_getElem hil)
    rw[Nat.zero_add] at k1
    have:=R2.ion i ((R2.lbi _).2 (by unfold St.lb;rw[k1];rfl))
    rw[show K.ios[i]? =some b from hi] at this
    injection this with this
    exact⟨cs0,_,k1,List.getElem?_eq_getElem hil,k2,k3,this.symm⟩
   refine⟨R2.dfr,v,g1,v,τ.map p2.rw,rfl,by rw[← hres];exact hexit g2.fin (by rw[hres];exact hwf),⟨hpre.len.trans hlb,hpre.nodup,fun b hb'=>⟨hb'.2.1,fun hm=>?_,hb'.2.2⟩,fun i b cs hi hc=>?_,by simp[hvl],fun i v s hv hs=>?_,fun i j v u hv hu hij=>?_,fun v hv b hb'=>?_⟩,fun u hu g hg=>?_,⟨R2.size,R2.os,R2.tape,R2.dr,R2.output,fun b h1 h2 h3=>R2.old b h1 (fun h=>h.elim h2 (fun h=>by obtain⟨v,hv,he⟩:=(hivs b).1 h;exact h3 v hv he))⟩⟩
   ·obtain⟨i,hi⟩:=List.mem_iff_getElem?.1 hm
    rcases hb'.1 with h1 |h1 |⟨u,h1,h2⟩
    ·exact(hpre.okb b h1).2.1 hm
    ·have hil:=(List.getElem?_eq_some_iff.1 hi).1
     obtain⟨⟨us,ty,g1,_⟩⟩:=hpre.at_ i b _ hi (List.getElem?_eq_getElem (by rw[← hpre.len];exact hil))
     have:=(Array.getElem?_eq_some_iff.1 g1).1
     omega
    ·exact hpre.vio u h1 b hm h2
   ·obtain⟨cs0,cs1,k1,k2,k3,k4,k5⟩:=hpb i b hi
    rw[hc] at k2;cases k2
    obtain⟨⟨us,ty,g1,g2,g3,g4⟩,_⟩:=R2.box (InO i) cs0 k1
    refine⟨⟨us,ty,by rw[← k5];exact g1,by rw[g2,←k3,outVL_eq,finL_eq];simp,fun j c v hc' hv=>?_,g4⟩⟩
    have hw:=AV.wfL_get k4 hc'
    rw[← k3,outVL_eq,finL_eq] at hc'
    simp only[List.getElem?_map,Option.map_eq_some_iff] at hc'
    obtain⟨q',⟨q,hq,rfl⟩,rfl⟩:=hc'
    exact hexit (g3 j q v hq hv).fin hw
   ·rw[List.getElem?_map] at hv
    cases hn:τ[i]? with
    |none=>rw[hn] at hv;cases hv
    |some n=>
     rw[hn] at hv;cases hv
     obtain⟨a1,a3,_⟩:=R2.vec n s (hvg hn hs)
     exact⟨a1.mono (fun _ _=>rfl) hok2 (fun _ _=>rfl),a3⟩
   ·rw[List.getElem?_map] at hv hu
    cases hn:τ[i]? with
    |none=>rw[hn] at hv;cases hv
    |some n=>
     cases hm:τ[j]? with
     |none=>rw[hm] at hu;cases hu
     |some m=>
      rw[hn] at hv;rw[hm] at hu;cases hv;cases hu
      refine R2.dvv n m (hτl n (List.mem_of_getElem? hn)) (hτl m (List.mem_of_getElem? hm)) (fun e=>hij ?_)
      subst e
      exact(List.getElem?_inj (List.getElem?_eq_some_iff.1 hn).1 hnd).1 (hn.trans hm.symm)
   ·obtain⟨n,hn,rfl⟩:=List.mem_map.1 hv
    obtain⟨i,hi⟩:=List.mem_iff_getElem?.1 hb'
    obtain⟨cs0,cs1,k1,_,_,_,k5⟩:=hpb i b hi
    rw[← k5]
    exact R2.dbv _ n ((R2.lbi _).2 (by unfold St.lb;rw[k1];rfl)) (hτl n hn)
   ·obtain⟨n,hn,rfl⟩:=List.mem_map.1 hu
    rcases(R2.vlt (hτl n hn) hg).1 with h1 |h1
    ·exact .inl h1
    ·exact .inr ((hivs g).1 h1)
 cases e with
 |normal=>exact⟨.inl rfl,key q⟩
 |ret=>exact⟨.inr rfl,key q⟩
 |_=>exact q.elim
theorem kcallR {K:Ctx P} {st:St} {Q:Exit→St→Prop} {ops:Array Oper} {α:Type} {f:FuncId} {cargs:List AV} {S:α→Prop} {res:α→AV} {vx:α→List VS} {o:Oper} {c:Call} {y:Operand} {l:List Oper} {d:Nat} {st1:α→St} (ks υ:List Nat) (C:FnOKr P f cargs S res vx) (ho:o.op=.call c) (hc:c.callee=.value y) (hd:o.dst=some d)
  (hcall:∀(args:Array Value) (w:World),(callFunc f args).run P w=.ok (.enter f args) w)
  (hall:gdA ops st o=some true∧d < st.nt∧υ.Nodup∧(∃caps,opd st y=.fn f caps∧(c.args.toList.map (opd st)++caps).map (AV.view [] [] [])=cargs)∧(∀n∈υ,get st.vec n=none)) (hlen:∀x,υ.length=(vx x).length)
  (hs:∀x,St.kp ks ((calledSt st [] [] υ [] (vx x)).put d ((res x).back υ []))=st1 x)
  (h:∀x,S x→TOps P K ops l (st1 x) Q):TOps P K ops (o::l) st Q:=by
 obtain⟨hg,hdn,hυ,hfn,hfr⟩:=hall
 exact tops_callR υ C ho hc hd hcall hg (fun x=>⟨hg,hdn,List.nodup_nil,List.nodup_nil,hυ,hfn,trivial,trivial,rfl,hlen x,fun n hn=>.inr (hfr n hn)⟩) hdn hfn fun x hx=>by
  have:=h x hx
  rw[← hs x] at this
  exact tops_wk (wk_kp ks) this
end
end Go.Vl
namespace Go.Vl
open Go Go.RowKit
section
variable {P:Program} {K:Ctx P} {st:St} {Q:Exit→St→Prop}
theorem wpl_append {ops:Array Oper} {F:Exit→Act→World→Prop} {l2:List Oper}:∀(l:List Oper) (a:Act) (w:World),wpList P ops (fun e a w=>match e with | .normal=>wpList P ops F l2 a w |e=>F e a w) l a w→wpList P ops F (l++l2) a w:=by
 intro l
 induction l with
 |nil=>exact fun a w h=>h
 |cons o l ih=>
  intro a w hh
  rw[List.cons_append]
  unfold wpList at hh ⊢
  split
  ·rename_i hw
   rw[if_pos hw] at hh
   rcases hh with hh |⟨h1,a0,w0,q⟩
   ·left
    unfold Oper.wp at hh ⊢
    generalize (execOp a.eval o).run P w=r at hh ⊢
    cases r with
    |ok n w'=>
     cases n <;> simp only[Oper.upon] at hh ⊢
     case value v=>exact ih _ _ hh
     case skip=>exact ih _ _ hh
     case defer d=>exact ih _ _ hh
     case enter f args=>
      refine Calls.mono hh fun e w'' he=>?_
      cases e with
      |returned v=>exact ih _ _ he
      |panicked c=>exact he
      |outgrown=>exact he
     case row row args=>exact Rows.mono hh fun v w'' he=>ih _ _ he
    |halt x w'=>
     cases x <;> simp only[Oper.upon] at hh ⊢
     case panic v=>exact hh
   ·exact .inr ⟨h1,a0,w0,q⟩
  ·rename_i hw
   rw[if_neg hw] at hh
   exact ih _ _ hh
def RgQ (P:Program) (K:Ctx P) (y:Code) (x:Operand) (d:Nat) (Q:Exit→St→Prop) (s:St):Prop:=∃e z rows,Vl.opd s x=.d (.mp e z rows)∧d < s.nt∧∀r,TrI P K y (s.put d (.iter r)) r ⟨e,z,rows⟩ rows Q
theorem kc_rangeT {id:Nat} {l:List Oper} {o:Oper} {y:Code} {ty kt et:TypeId} {x:Operand} {d:Nat} (n:Nat) (hl:l.drop n=[o]) (hg:o.guard=none) (ho:o.op=.range ty x) (hd:o.dst=some d)
  (hu:P.underlying ty=some (.map kt et)) (H:TOps P K l.toArray (l.take n) st (thenQ (RgQ P K y x d Q) Q)):Tr P K (.seq (.region id l.toArray false) y) st Q:=by
 intro a w p R
 refine wp_seq (wp_region_lit ?_)
 rw[show l=l.take n++l.drop n from(List.take_append_drop n l).symm,hl]
 refine wpl_append _ _ _ ?_
 rw[← hl,List.take_append_drop]
 refine wpl_mono ?_ _ _ _ (H a w p R)
 rintro ex a w ⟨s,p,R,q⟩
 cases ex with
 |normal=>
  obtain⟨e,z,rows,hx,hdn,H⟩:=q
  show wpList _ _ _ (l.drop n) a w
  rw[hl]
  have hxr:=R.opd x
  rw[hx] at hxr
  generalize hax:a.eval x=ax at hxr
  cases hxr with
  |d hxr=>
   obtain⟨b,es,clock,rfl,hb,hokb,hM,hm⟩:=hxr.mp_inv
   have hbl:b < w.heap.size:=hokb.1
   have hsz:=R.size
   have hnew:∀q:Addr,q.block < w.heap.size→see (w.alloc (.mapIter (some b) clock #[] clock)) q=see w q:=fun q hq=>alloc_cell_old w _ q hq
   have hold:∀k,k < w.heap.size→(w.alloc (.mapIter (some b) clock #[] clock)).heap[k]? =w.heap[k]? :=fun k hk=>heap_alloc_old w _ hk
   have hs1:(w.alloc (.mapIter (some b) clock #[] clock)).heap.size=w.heap.size+1:=by unfold World.alloc;simp
   have hok:∀k,okc K w p k→okc K (w.alloc (.mapIter (some b) clock #[] clock)) p k:=fun k hk=>okc_grow (by omega) hk
   have R1:Rel K s a (w.alloc (.mapIter (some b) clock #[] clock)) p:=R.evo ⟨by omega,rfl,rfl,rfl,fun k h1 _=>hold k (by omega),fun q hq=>hnew q hq.1,hok,fun _ _ h=>⟨h,rfl⟩,fun _ _ h=>⟨h,rfl⟩,Nat.le_refl _⟩ (fun n hn=>hold _ (R.blt hn)) (fun n g hn hg=>hold _ (R.vlt hn hg).2)
   have hrun:(execOp a.eval o).run P w=.ok (.value (.pointer (some ⟨w.heap.size,0,none⟩))) (w.alloc (.mapIter (some b) clock #[] clock)):=by
    have:=run_range_map (P:=P) w ty kt et b es clock hu hb
    simp[execOp,ho,hax,this]
   refine run_val hg hrun ?_
   rw[hd]
   have R2:=R1.put (x:=.iter w.heap.size) .iter hdn
   have hokr:okc K (w.alloc (.mapIter (some b) clock #[] clock)) p w.heap.size:=⟨by omega,.inr (.inl (by omega)),fun n hn e=>by have:=R.blt hn;omega,fun n hn e=>by have:=(R.vlt hn e).2;omega⟩
   exact H w.heap.size _ _ p R2 ⟨b,clock,clock,clock,#[],es,heap_alloc_new w _,(hold b hbl).trans hb,Nat.le_refl _,hm.born,rfl,hok b hokb,hokr,hm.mono (fun q hq=>hnew q hq.1) hok,(leftRows_none rows es.toList hm.key.1).symm⟩ hsz
 |_=>exact⟨s,p,R,q⟩
end
end Go.Vl
