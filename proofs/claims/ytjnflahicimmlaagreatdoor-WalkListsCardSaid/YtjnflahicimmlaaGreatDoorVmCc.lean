/- The value logic: calls with one of several results. Conditions: none. -/
import Derived.Test.YtjnflahicimmlaaGreatDoorVmSl
import Derived.Test.YtjnflahicimmlaaGreatDoorVmRd
set_option linter.unusedSimpArgs false
set_option linter.unusedVariables false
namespace Go.Vl
open Go
def BD {α:Type} (P:Program) (f:FuncId) (args:List AV) (S:α→Prop) (res:α→AV) (vx:α→List VS):Prop:=
 ∀(w:World) (ok:Nat→Prop) (vs:Array Value),qP w ok [] [] [] []→vs.size=args.length→(∀(i:Nat) (x:AV) (v:Value),args[i]? =some x→vs[i]? =some v→RA w ok (dM [] []) x v)→mB P w ok→
  Calls P f vs w λe w'=>∃x,S x∧∃v iv',e=.returned v∧RA w' (Av ok [] iv' w w') (dM [] iv') (res x) v∧qP w' (Av ok [] iv' w w') [] iv' [] (vx x)∧(∀u∈iv',∀g,u.fN=some g→w.heap.size≤g∨∃v∈([]:List Value),v.fN=some g)∧T7 [] [] w w'
section
variable {P:Program} {K:Ctx P} {st:St} {ops:Array Oper} {Q:Exit→St→Prop}
theorem LZ {α:Type} {f:FuncId} {fb:List AV} {S:α→Prop} {res:α→AV} {vx:α→List VS} {o:Oper} {c:Call} {y:Operand} {l:List Oper} {d:Nat} (υ:List Nat) (C:BD P f fb S res vx) (ho:o.op=.call c) (hc:c.callee=.value y) (hd:o.dst=some d)
  (jz:∀(args:Array Value) (w:World),(callFunc f args).run P w=.ok (.enter f args) w) (hg:pW ops st o=some true) (H:∀x,FR st ops o c y f [] [] υ [] [] fb [] (vx x) d) (nW:d < st.nt)
  (Uv:∃caps,ca st y=.fn f caps∧(c.args.toList.map (ca st)++caps).map (AV.view [] [] [])=fb)
  (h:∀x,S x→fc P K ops l ((lX st [] [] υ [] (vx x)).put d ((res x).back υ [])) Q):fc P K ops (o::l) st Q:=by
 intro a w p R;unfold wpList;rw[fH R hg,ai rfl];refine .inl ?_;unfold Oper.wp;obtain⟨caps,hf,eZ⟩:=Uv;obtain⟨cs,hy,hl,hh⟩:=yW R hf;rw[tw ho hc hy jz];show Calls P f (c.args.map a.eval++cs) w _;obtain⟨gS,tV⟩:=Jb (args:=c.args) R hl hh;have Hs:∀{x:AV} {v:Value},RA w (dx K w p) p x v→RA w (dx K w p) (dM ([].map p.bx) ([].map p.rw)) (x.view [] [] []) v:=λh=>h.view (λ_ h=>h) (λn s hs=>by simp[get] at hs)
 have dN:qP w (dx K w p) [] [] [] []:=⟨rfl,dL,λb hb=>⟨hb.1,by simp,λv hv=>by simp at hv⟩,λi b cs hb=>by simp at hb,rfl,λi v s hv=>by simp at hv,λi j v u hv=>by simp at hv,λv hv=>by simp at hv⟩;refine(C w (dx K w p) (c.args.map a.eval++cs) dN (by rw[← eZ,gS,bq]) (λi x v hx hv=>?_) R.KR).mono λe w' he=>?_
 ·rw[← eZ,aA] at hx
  simp only[aP] at hx;obtain⟨q,hq,rfl⟩:=hx;exact Hs (tV i q v hq hv)
 ·obtain⟨x,hS,v,iv',rfl,rV,KH,eC,PO⟩:=he
  obtain⟨p',R',gD,hbk,hvk,_⟩:=R.I6 (σ:=[]) (τ:=[]) (H x).Yx (λn hn=>by simp at hn) rfl (λn hn=>by simp at hn) (H x).ndυ (H x).WY (λn hn=>((H x).fresh n hn).imp id (λh h'=>by
   have:=(R.sT n).1 h';simp[St.lv,h] at this)) PO KH eC
  show wpList P ops (FZ K Q) l (a.put o.dst v) w';rw[hd];exact h x hS _ _ _ (R'.put (rV.back gD hbk hvk) nW)
variable {a:Act} {w:World} {p:Pl}
theorem Rel.ZB (R:Rel K st a w p) {t n z k d:Nat} {s:VS} (ht:st.look t=.cut n z 0 k) (hs:get st.vec n=some s) (hM:s.rC=false) (hd:get (del st.vec n) d=none):
  ∃p',Rel K (St.put { nt:=st.nt,env:=me (AV.gi n) st.env,box:=me (List.map (AV.gi n)) st.box,vec:=(d,{ s with rows:=s.rows.take k })::del st.vec n } t (.vec d)) a w p':=by
 have hx:=R.ca (.tmp t);simp only[Vl.ca,ht,Act.eval] at hx;have iN:t < st.nt:=by
  rw[← R.nt];rcases iU t a.tmps.size with h |h
  ·exact h
  ·simp only[gh,tj h,ni] at hx
   cases hx
 obtain⟨sJ,hz,yo⟩:=R.vec n s hs;obtain⟨xs,eC,rD⟩:=sJ.row hM;have sj:p.lv n:=(R.sT n).2 (by simp[St.lv,hs]);generalize hv:a.tmps.getD t undef=v at hx;have key:k≤s.rows.length∧w.ownsRow 0 s.e s.z v k (xs.take (k * s.z))∧(v.fN=none∨v.fN=(p.rw n).fN):=by
  cases hx with
  |cut hn zy ho hle=>
   rename_i o g c len;have h0:o=0:=ho.2 rfl;subst h0;rcases eC.2 with ⟨h1,_⟩ |⟨g',cap,cur,h1,h2,h3,h4,h5,h6,h7⟩
   ·rw[zy] at h1;cases h1
   ·rw[zy] at h1
    cases h1;have hk:k≤s.rows.length:=by omega
    have Jj:k * s.z≤s.rows.length * s.z:=dy _ hk;refine⟨hk,⟨by rw[dV,eC.1];omega,.inr ⟨g,c,cur,by simp,h2,h3,by omega,h5,h6,?_⟩⟩,.inr (by rw[zy];rfl)⟩;rw[← h7,List.take_take]
    congr 1
    omega
  |oG hn zy=>exact⟨cE _,⟨by simp,.inl ⟨rfl,rfl⟩⟩,.inl rfl⟩
 obtain⟨hk,SM,hblk⟩:=key;have tW:(s.rows.take k).flatten=s.rows.flatten.take (k * s.z):=by
  have:∀(l:List (List D)) (k:Nat),(∀r∈l,r.length=s.z)→k≤l.length→(l.take k).flatten=l.flatten.take (k * s.z):=λl=>by
   induction l with
   |nil=>intro k _ _;simp
   |cons r l ih=>
    intro k hr hk;cases k with
    |zero=>simp
    |succ k=>
     have h1:=hr r (by simp);rw[List.take_succ_cons,eG,eG,ih k (λq hq=>hr q (by simp[hq])) (by simpa using hk),Nat.succ_mul,List.take_append,fP (l:=r) (by rw[h1];exact Nat.le_add_left _ _),h1,sh]
  exact this _ _ hz hk
 have R':=R.L7 (n:=n) (d:=d) (w':=w) (v':=v) (s:={ s with rows:=s.rows.take k }) (xs:=xs.take (k * s.z)) (row:=none) hM hd (sN w _) (aM _) (.inl rfl) (by show w.ownsRow 0 s.e s.z v (s.rows.take k).length _;rw[dV,oI hk];exact SM) (λr hr=>hz r (eT hr)) (λj x u hx hu=>by
  have CV:(s.rows.take k).flatten[j]? =some x:=hx;rw[tW,bS] at CV;rw[bS] at hu;split at CV
  ·rename_i hj
   rw[ai hj] at hu;exact rD j x u CV hu
  ·cases CV) (hblk.imp id λh=>.inl ⟨sj,h⟩)
 have hp:a.put (some t) v=a:=by
  have hs:t < a.tmps.size:=by rw[R.nt];exact iN
  cases a with
  |mk tmps defers=>
   simp only[Act.put,Act.mk.injEq,kB];apply sw
   ·simp
   ·intro i h1 h2
    rw[Array.getElem_setIfInBounds];split
    ·rename_i e;subst e
     simp only[gh,bp h2,cg] at hv;exact hv.symm
    ·rfl
 have R2:=R'.put (d:=t) (RA.qS (n:=d) (Or.inl rfl) (fO _ _ _)) iN;rw[hp] at R2;exact⟨_,R2⟩
theorem LV {s:St} (t n d:Nat) {z k:Nat} {S:VS} (ht:s.look t=.cut n z 0 k) (hs:get s.vec n=some S) (hd:get (del s.vec n) d=none) (hM:S.rC=false:=by rfl):
  Wk s (St.put { nt:=s.nt,env:=me (AV.gi n) s.env,box:=me (List.map (AV.gi n)) s.box,vec:=(d,{ S with rows:=S.rows.take k })::del s.vec n } t (.vec d)):=λ_ _ _ _ R=>R.ZB ht hs hM hd
end
end Go.Vl
namespace Go.Vl
open Go
section
variable {P:Program} {K:Ctx P} {st:St} {ops:Array Oper} {Q:Exit→St→Prop}
theorem Rj {z k:Nat} {zs:List D} (hz:zs.length=z) (hp:0 < z):∀(j:Nat),j < k * z→(List.replicate k zs).flatten[j]? =zs[j % z]? :=by
 induction k with
 |zero=>intro j h;simp at h
 |succ k ih=>
  intro j h;rw[List.replicate_succ,eG,cX];by_cases h1:j < zs.length
  ·rw[ai h1,Nat.mod_eq_of_lt (by omega)]
  ·rw[ah h1,hz]
   have h2:j - z < k * z:=by rw[dQ] at h;omega
   rw[ih (j - z) h2]
   congr 1
   rw[Nat.mod_eq_sub_mod (a:=j) (by omega)]
theorem TH {cs:Array Value} (h:cs.toList.all Value.oneCell'=true):∀(j:Nat) (v:Value),cs[j]? =some v→v.oneCell'=true:=λj v hj=>bE.1 h v (by
 rw[← bo] at hj;exact bm hj)
def XT:D→Option Value
 | .int k n=>some (.int k n)
 | .bool b=>some (.bool b)
 | .str s=>some (.string s)
 |_=>none
def No:List D→Option (List Value)
 |[]=>some []
 |d::l=>(XT d).bind λv=>(No l).map (v::·)
theorem GG:∀{zs:List D} {cs:List Value},No zs=some cs→∀(j:Nat) (y:D) (v:Value),zs[j]? =some y→cs[j]? =some v→XT y=some v
 |[],_,h,j,y,v,h1,_=>by simp at h1
 |d::l,cs,h,j,y,v,h1,h2=>by
  simp only[No] at h;obtain⟨u,hu,h⟩:=jW.1 h;obtain⟨cs',hc,rfl⟩:=aP.1 h;cases j with
  |zero=>simp at h1 h2;subst h1;subst h2;exact hu
  |succ j=>simp at h1 h2;exact GG hc j y v h1 h2
theorem TG {zs:List D} {cs:Array Value} (h:No zs=some cs.toList):∀(w:World) (ok:Nat→Prop) (j:Nat) (y:D) (v:Value),zs[j]? =some y→cs[j]? =some v→RD w ok y v:=λw ok j y v h1 h2=>by
 have:=GG h j y v h1 (by rw[← bo] at h2;exact h2);cases y <;> simp[XT] at this <;> subst this
 ·exact .int
 ·exact .bool
 ·exact .str
theorem DW {l:List Oper} {o:Oper} {t e:TypeId} {x:Operand} {n z lo k:Nat} {s:VS} {v0:Value} {zs:List D}
  (hg:pW ops st o=some true) (ho:o.op=.call { callee:=.builtin .clear,args:=#[x],argTypes:=#[t]}) (hd:o.dst=none) (hx:ca st x=.cut n z lo k) (hs:get st.vec n=some s) (hM:s.rC=false)
  (hu:P.underlying t=some (.slice e)) (hzv:∀w,(zeroValue e).run P w=.ok v0 w) (hc:v0.cells.size=z) (hz:s.z=z) (BF:zs.length=z) (rW:0 < z) (hlen:lo+k=s.rows.length) (h1:∀(j:Nat) (v:Value),v0.cells[j]? =some v→v.oneCell'=true)
  (rD:∀(w:World) (ok:Nat→Prop) (j:Nat) (y:D) (v:Value),zs[j]? =some y→v0.cells[j]? =some v→RD w ok y v)
  {rows':List (List D)} (hr:s.rows.take lo++List.replicate k zs=rows') (H:fc P K ops l { st with vec:=(n,{ s with rows:=rows' })::st.vec } Q):fc P K ops (o::l) st Q:=by
 subst hr;intro a w p R;unfold wpList;rw[fH R hg,ai rfl]
 left
 unfold Oper.wp;obtain⟨sJ,Uk,yo⟩:=R.vec n s hs;have Du:=R.ca x;rw[hx] at Du;generalize Jm:a.eval x=ax at Du;have Dv:∀{cM:St} {w':World} {p':Pl},Rel K cM a w' p'→fc P K ops l cM Q→(execOp a.eval o).run P w=.ok (.value (.tuple #[])) w'→o.upon P a (wpList P ops (FZ K Q) l) (FZ K Q) ((execOp a.eval o).run P w):=λ{cM w' p'} R' H' hr=>by
  rw[hr];show wpList P ops (FZ K Q) l (a.put o.dst (.tuple #[])) w';rw[hd];exact H' _ _ _ R'
 by_cases hk:k=0
 ·-- nothing to clear
  subst hk;have he:s.rows.take lo=s.rows:=fP (by omega);have Gs:∀m,get ((n,{ s with rows:=s.rows.take lo++List.replicate 0 zs })::st.vec) m=get st.vec m:=λm=>by
   rw[he];simp only[List.replicate_zero,kj,get];split
   ·rename_i e;subst e;exact hs.symm
   ·rfl
  have R':Rel K { st with vec:=(n,{ s with rows:=s.rows.take lo++List.replicate 0 zs })::st.vec } a w p:={
   lb:=R.lb,lv:=by rw[R.lv];funext m;simp only[St.lv,Gs]
   pj:=R.pj,nt:=R.nt,pK:=R.pK,oB:=R.oB,size:=R.size,os:=R.os,tape:=R.tape,dr:=R.dr,output:=R.output,old:=R.old,env:=R.env,box:=R.box
   vec:=λm s' h=>R.vec m s' (by rw[← Gs];exact h)
   oF:=R.oF,my:=R.my,mX:=R.mX }
  refine Dv R' H ?_;have gT:(Builtin.clear_ #[t] o.type #[ax]).run P w=.ok (.tuple #[]) w:=by
   cases Du with
   |cut _ _ _ _=>simp[Builtin.clear_,aJ hu,Result.andThen]
   |oG _ _=>simp[Builtin.clear_,aJ hu,Result.andThen]
  simp[execOp,ho,resolve,invoke,builtin,Jm,gT]
 ·cases Du with
  |oG _ _=>omega
  |cut hn hv afS hle=>
  rename_i off g c len;have acj:off=lo * z:=afS.1.resolve_left hk;subst acj;obtain⟨xs,eC,afK⟩:=sJ.row hM;rcases eC.2 with ⟨h0,_⟩ |⟨g',cap,cur,h0,uP,hgc,pO,FX,Uz,Uy⟩
  ·rw[hv] at h0;cases h0
  rw[hv] at h0;injection h0 with Ae XG V3
  injection Ae with Ae
  injection Ae with Ae
  subst Ae;subst XG;subst V3;have gS:(Builtin.zeroCells v0.cells k).toList.length=k * z:=by simp[Builtin.zeroCells,hc]
  have Xa:∀(j:Nat) (v:Value),(Builtin.zeroCells v0.cells k).toList[j]? =some v→v0.cells[j % z]? =some v:=λj v hj=>by
   have wm:j < k * z:=by have:=(aj.1 hj).1;omega
   simp only[Builtin.zeroCells,hc,Array.toList_map,aA,Array.toList_range,qN wm,cr] at hj;have hm:j % z < v0.cells.size:=by rw[hc];exact Nat.mod_lt _ rW
   rw[getElem!_pos v0.cells (j % z) hm] at hj;rw[bp hm];exact hj
  have vj:∀v∈(Builtin.zeroCells v0.cells k).toList,v.oneCell'=true:=λv lE=>by
   obtain⟨j,hj⟩:=bJ.1 lE;exact h1 _ v (Xa j v hj)
  have XE:lo * z+k * z=s.rows.length * z:=by rw[← dQ,hlen]
  have acR:s.rows.length * z≤c * z:=dy _ pO;rw[hz] at Uz Uy eC;have sV:=mS P g (lo * z) s.e (Builtin.zeroCells v0.cells k).toList 0 cur w hgc (by rw[gS];omega) vj;simp only[ov] at sV;generalize je:(Builtin.zeroCells v0.cells k).toList=cs at *
  let xs':=xs.take (lo * z)++cs++xs.drop (lo * z+cs.length)
  have N6:xs.length=s.rows.length * z:=eC.1;have uq:∀j,xs'[j]? =if j < lo * z then xs[j]? else if j < lo * z+k * z then cs[j - lo * z]? else xs[j]? :=λj=>by
   simp only[xs'];rw[ny _ _ (by omega),gS]
  have yn:∀r∈s.rows.take lo++List.replicate k zs,r.length=s.z:=λr hr=>by
   rcases aQ.1 hr with hr |hr
   ·exact Uk r (eT hr)
   ·rw[(List.mem_replicate.1 hr).2,hz];exact BF
  have nS:(w.setRow g (cur.toList.take (lo * z)++cs++cur.toList.drop (lo * z+cs.length)).toArray).ownsRow 0 s.e s.z (p.rw n) s.rows.length xs':=by
   rw[hz];refine⟨by simp[xs'];omega,.inr ⟨g,c,_,hv,uP,setRow_heap w g cur _ s.e _ hgc,pO,FX,by simp;omega,?_⟩⟩;apply eH;intro j;rw[uq,bS,ny _ _ (by simp;omega),←Uy,gS];simp only[bS,bo];by_cases hj:j < s.rows.length * z
   ·simp only[hj,eM]
   ·rw[ah hj,ah (by omega),ah (by omega),ah hj]
  have tW:(s.rows.take lo).flatten.length=lo * z:=by
   have:∀r∈s.rows.take lo,r.length=z:=λr hr=>by rw[← hz];exact Uk r (eT hr)
   rw[ir this,dV,oI (by omega)]
  have Zg:s.rows.flatten=(s.rows.take lo).flatten++(s.rows.drop lo).flatten:=by rw[← kC,fw]
  have R':=R.Ia (rows':=s.rows.take lo++List.replicate k zs) (xs':=xs') hs hv (by simp;omega) yn nS (λj y v hy lE=>by
   rw[uq] at lE;rw[kC,cX,tW] at hy;by_cases hj:j < lo * z
   ·rw[ai hj] at hy lE
    refine afK j y v ?_ lE;rw[Zg,cX,tW,ai hj];exact hy
   ·rw[ah hj] at hy lE
    have IL:j - lo * z < k * z:=by
     have:=(aj.1 hy).1;rw[ir (z:=z) (λr hr=>by rw[(List.mem_replicate.1 hr).2];exact BF),uh] at this;exact this
    rw[ai (by omega)] at lE;rw[Rj BF rW _ IL] at hy;have afv:=Xa (j - lo * z) v lE;exact rD w _ _ y v hy afv)
  refine Dv R' H ?_;have gT:(Builtin.clear_ #[t] o.type #[.slice (some ⟨g,lo * z,none⟩) k (c - lo)]).run P w=.ok (.tuple #[]) (w.setRow g (cur.toList.take (lo * z)++cs++cur.toList.drop (lo * z+cs.length)).toArray):=by
   obtain⟨m,rfl⟩:∃m,k=m+1:=⟨k - 1,by omega⟩;simp[Builtin.clear_,aJ hu,Result.andThen,hzv,je,sV]
  simp[execOp,ho,resolve,invoke,builtin,Jm,gT]
end
end Go.Vl
namespace Go.Vl
open Go Go.RowKit
section
variable {P:Program}
theorem On {α:Type} {f:FuncId} {fn:Func} {c:Code} {nt:Nat} {rs:List ResultVar} {args:List AV} {S:α→Prop} {Ri:α→AV} {vx0:α→List VS} (hf:P.funcs[f]? =some fn) (hb:fn.body=some c) (zX:fn.ntmps=nt) (KF:fn.results.toList=rs)
  (Xn:args.length≤nt) (SU:nt≤1000000) (h:∀K:Ctx P,K.lx.length=0→Tr P K c (gk nt args [] []) (λe s=>∃x,S x∧OJ P rs (Ri x) [] (vx0 x) e s)):BD P f args S Ri vx0:=by
 intro w ok vs dN zw eZ xh;obtain⟨io,xg⟩:∃io:List Nat,io=[]:=⟨_,rfl⟩;obtain⟨iv,Hv⟩:∃iv:List Value,iv=[]:=⟨_,rfl⟩;obtain⟨bx,sX⟩:∃bx:List (List AV),bx=[]:=⟨_,rfl⟩;obtain⟨vx,MK⟩:∃vx:List VS,vx=[]:=⟨_,rfl⟩;obtain⟨bx',Zl⟩:∃bx':List (List AV),bx'=[]:=⟨_,rfl⟩;have LI:bx.length=bx'.length:=by rw[sX,Zl]
 rw[← xg,←Hv,←sX,←MK] at dN;rw[← xg,←Hv] at eZ;replace h:∀K:Ctx P,K.lx.length=bx.length→Tr P K c (gk nt args bx vx) (λe s=>∃x,S x∧OJ P rs (Ri x) bx' (vx0 x) e s):=by rw[sX,MK,Zl];exact h
 suffices hh:Calls P f vs w λe w'=>∃x,S x∧∃v iv',e=.returned v∧RA w' (Av ok iv iv' w w') (dM io iv') (Ri x) v∧qP w' (Av ok iv iv' w w') io iv' bx' (vx0 x)∧(∀u∈iv',∀g,u.fN=some g→w.heap.size≤g∨∃v∈iv,v.fN=some g)∧T7 io iv w w' by
  rw[xg,Hv,Zl] at hh;exact hh
 let K:Ctx P:=⟨w,ok,io,iv.filterMap Value.fN,λb i x h=>⟨⟨(dN.px b (xh b i x h).1).1,(xh b i x h).1,(dN.px b (xh b i x h).1).2.1,λhm=>by obtain⟨v,hv,e⟩:=lz.1 hm;exact(dN.px b (xh b i x h).1).2.2 v hv e⟩,(xh b i x h).2⟩⟩
 have Be:∀b,b∈K.qO↔∃v∈iv,v.fN=some b:=λb=>lz
 refine calls_of_wp hf hb ?_;have KI:∀b,ok b→dx K w (dM io iv) b:=λb pS=>⟨(dN.px b pS).1,.inl pS,λn hn e=>by
  obtain⟨h1,h2⟩:=hn;have:(dM io iv).bx n∈io:=by simp[dM,ae h2]
  exact(dN.px b pS).2.1 (e▸this),λn hn=>by
  obtain⟨h1,h2⟩:=hn;have:(dM io iv).rw n∈iv:=by simp[dM,ae h2]
  exact(dN.px b pS).2.2 _ this⟩
 have tV:∀{x:AV} {v:Value},RA w ok (dM io iv) x v→RA w (dx K w (dM io iv)) (dM io iv) x v:=λh=>h.mono (λ_ _=>rfl) KI (λ_ h=>⟨h,rfl⟩) (λ_ h=>⟨h,rfl⟩)
 have Xw:∀{α:Type} (base:Nat) (l:List α) (n:Nat) (x:α),get (kS base l) n=some x→base≤n∧l[n - base]? =some x:=λbase l n x hg=>by
  rw[gb] at hg;split at hg
  ·exact⟨‹_›,hg⟩
  ·cases hg
 have R:Rel K (gk nt args bx vx) { tmps:=vs++Array.replicate (fn.ntmps - vs.size) undef,defers:=[]} w (dM io iv):={
  lb:=by
   funext n
   simp only[dM,St.lb,gk,gb,gV,dN.len];by_cases h:1000000≤n
   ·simp[h]
   ·simp[h]
  lv:=by
   funext n
   simp only[dM,St.lv,gk,gb,gV,dN.xj];by_cases h:2000000≤n
   ·simp[h]
   ·simp[h]
  pj:=rfl
  nt:=by simp[gk,zX,zw];omega
  pK:=SU
  oB:=λi hi=>by have:=E4.1 hi;rw[E5 (ae this)];exact ae this
  size:=aM _
  os:=rfl
  tape:=rfl
  dr:=aM _
  output:=rfl
  old:=λ_ _ _=>rfl
  env:=λt x hx=>by
   simp only[gk,gb,cE,eM,Nat.sub_zero] at hx;have ht:t < vs.size:=by have:=(aj.1 hx).1;omega
   have:(vs++Array.replicate (fn.ntmps - vs.size) undef).getD t undef=vs[t]:=by simp[oV,ht]
   rw[this];exact tV (eZ t x _ hx (by simp[ht]))
  box:=λn cs hn=>by
   obtain⟨h1,h2⟩:=Xw _ _ n cs hn;have hi:n - 1000000 < io.length:=by rw[dN.len];exact(aj.1 h2).1
   obtain⟨⟨us,ty,g1,g2,g3,g4⟩⟩:=dN.at_ (n - 1000000) io[n - 1000000] cs (ae hi) h2;have sX:(dM io iv).bx n=io[n - 1000000]:=by simp[dM,ae hi]
   exact⟨⟨us,ty,by rw[sX];exact g1,g2,λi c v hc hv=>tV (g3 i c v hc hv),g4⟩,.inr (.inl (by rw[sX];exact bC hi))⟩
  vec:=λn s hn=>by
   obtain⟨h1,h2⟩:=Xw _ _ n s hn;have hi:n - 2000000 < iv.length:=by rw[dN.xj];exact(aj.1 h2).1
   obtain⟨g1,g3⟩:=dN.X1 (n - 2000000) iv[n - 2000000] s (ae hi) h2;have A':(dM io iv).rw n=iv[n - 2000000]:=by simp[dM,ae hi]
   exact⟨by rw[A'];exact g1.mono (λ_ _=>rfl) KI (λ_ _=>rfl),g3,λg hg=>.inr ((Be g).2 ⟨_,bC hi,by rw[← A'];exact hg⟩)⟩
  oF:=λn m hn hm iA e=>by
   have qI:1000000≤n∧n - 1000000 < io.length:=hn;have Cg:1000000≤m∧m - 1000000 < io.length:=hm;clear hn hm;obtain⟨n1,n2⟩:=qI;obtain⟨m1,m2⟩:=Cg;have e2:((io[n - 1000000]?).getD 0)=((io[m - 1000000]?).getD 0):=e;rw[ae n2,ae m2] at e2;have:=(qD dN.nodup).1 e2;omega
  my:=λn m hn hm=>by
   have qI:1000000≤n∧n - 1000000 < io.length:=hn;have Cg:2000000≤m∧m - 2000000 < iv.length:=hm;have e1:(dM io iv).bx n∈io:=by simp[dM,ae qI.2]
   have e2:(dM io iv).rw m∈iv:=by simp[dM,ae Cg.2]
   exact dN.WE _ e2 _ e1
  mX:=λn m hn hm iA=>by
   have qI:2000000≤n∧n - 2000000 < iv.length:=hn;have Cg:2000000≤m∧m - 2000000 < iv.length:=hm;clear hn hm;obtain⟨n1,n2⟩:=qI;obtain⟨m1,m2⟩:=Cg;obtain⟨v1,zy⟩:∃v,iv[n - 2000000]? =some v:=⟨_,ae n2⟩;obtain⟨v2,Gq⟩:∃v,iv[m - 2000000]? =some v:=⟨_,ae m2⟩;have hq:n - 2000000≠m - 2000000:=by omega
   have e1:(dM io iv).rw n=v1:=by show(iv[n - 2000000]?).getD undef=_;rw[zy];rfl
   have e2:(dM io iv).rw m=v2:=by show(iv[m - 2000000]?).getD undef=_;rw[Gq];rfl
   rw[e1,e2];exact dN.OR _ _ _ _ zy Gq hq }
 refine hU (h K dN.len _ w _ R) λe a' w' ⟨s,p',R',x1,hS,q⟩=>?_
 obtain⟨res,Xg⟩:∃res,res=Ri x1:=⟨_,rfl⟩;obtain⟨vx',abT⟩:∃vx',vx'=vx0 x1:=⟨_,rfl⟩;rw[← Xg,←abT] at q
 suffices hk:(e=.normal∨e=.ret)∧(a'.defers=[]∧∃v,(results fn a'.tmps).run P w'=.ok v w'∧(∃u iv',Ending.returned v=.returned u∧RA w' (Av ok iv iv' w w') (dM io iv') res u∧qP w' (Av ok iv iv' w w') io iv' bx' vx'∧(∀u∈iv',∀g,u.fN=some g→w.heap.size≤g∨∃v∈iv,v.fN=some g)∧T7 io iv w w')) by
  obtain⟨he,h1,v,h2,h3⟩:=hk;rw[Xg,abT] at h3;rcases he with rfl |rfl
  ·exact⟨h1,v,h2,x1,hS,h3⟩
  ·exact⟨h1,v,h2,x1,hS,h3⟩
 have key:Ua P rs res bx' vx' s→a'.defers=[]∧∃v,(results fn a'.tmps).run P w'=.ok v w'∧(∃u iv',Ending.returned v=.returned u∧RA w' (Av ok iv iv' w w') (dM io iv') res u∧qP w' (Av ok iv iv' w w') io iv' bx' vx'∧(∀u∈iv',∀g,u.fN=some g→w.heap.size≤g∨∃v∈iv,v.fN=some g)∧T7 io iv w w'):=by
  rintro⟨ns,τ,rV,hwf,Ti,Gp,sI⟩
  obtain⟨p2,R2⟩:=R'.xu ns;obtain⟨YV,KC⟩:=rJ Gp;have yl:∀n∈τ,p2.lv n:=λn hn=>by
   obtain⟨i,hi,rfl⟩:=cu hn;exact(R2.sT _).2 (by simp[St.lv,KC (ae hi) (ae (by omega))])
  cases zB:uG P (xu s ns) rs with
  |none=>rw[zB] at rV;cases rV
  |some xs=>
   rw[zB] at rV;simp only[cr,ba] at rV;rw[← KF] at zB;obtain⟨v,g1,g2⟩:=xP R2 zB;have xp:∀b,dx K w' p2 b→Av ok iv (τ.map p2.rw) w w' b:=λb pS=>⟨by
    rcases pS.2.1 with h1 |h1 |h1
    ·exact .inl h1
    ·exact .inr (.inl h1)
    ·exact .inr (.inr ((Be b).1 h1)),pS.1,λu hu e=>by
    obtain⟨n,hn,rfl⟩:=aG.1 hu;exact pS.2.2.2 n (yl n hn) e⟩
   have Ad:∀n,1000000≤n→p2.lb n→(dM io (τ.map p2.rw)).lb n∧(dM io (τ.map p2.rw)).bx n=p2.bx n:=λn hn hl=>by
    obtain⟨i,rfl⟩:∃i,n=sq i:=⟨n - 1000000,by unfold sq;omega⟩;have h7:io[i]? =some (p2.bx (sq i)):=R2.oB i hl;exact⟨E4.2 (aj.1 h7).1,E5 h7⟩
   have C0:∀{x:AV} {u:Value},RA w' (dx K w' p2) p2 x u→(x.oO τ).wf DL (λ_=>true)=true→RA w' (Av ok iv (τ.map p2.rw) w w') (dM io (τ.map p2.rw)) (x.oO τ) u:=λhx hw=>hx.Ys xp Ad hw
   have Xj:∀i b,io[i]? =some b→∃rF cs,get (xu s ns).box (sq i)=some rF∧bx'[i]? =some cs∧AV.tN τ (AV.Cp rF)=cs∧AV.we DL (λ_=>true) cs=true∧p2.bx (sq i)=b:=λi b hi=>by
    have ph:i < bx'.length:=by rw[← LI,←dN.len];exact(aj.1 hi).1
    obtain⟨rF,k1,k2,k3⟩:=rG Ti (ae ph);rw[gg] at k1;have:=R2.oB i ((R2.vg _).2 (by unfold St.lb;rw[k1];rfl));rw[show K.lx[i]? =some b from hi] at this;injection this with this
    exact⟨rF,_,k1,ae ph,k2,k3,this.symm⟩
   refine⟨R2.pj,v,g1,v,τ.map p2.rw,rfl,by rw[← rV];exact C0 g2.fin (by rw[rV];exact hwf),⟨dN.len.trans LI,dN.nodup,λb pS=>⟨pS.2.1,λhm=>?_,pS.2.2⟩,λi b cs hi hc=>?_,by simp[YV],λi v s hv hs=>?_,λi j v u hv hu rY=>?_,λv hv b pS=>?_⟩,λu hu g hg=>?_,⟨R2.size,R2.os,R2.tape,R2.dr,R2.output,λb h1 h2 h3=>R2.old b h1 (λh=>h.elim h2 (λh=>by obtain⟨v,hv,he⟩:=(Be b).1 h;exact h3 v hv he))⟩⟩
   ·obtain⟨i,hi⟩:=bJ.1 hm
    rcases pS.1 with h1 |h1 |⟨u,h1,h2⟩
    ·exact(dN.px b h1).2.1 hm
    ·have ph:=(aj.1 hi).1
     obtain⟨⟨us,ty,g1,_⟩⟩:=dN.at_ i b _ hi (ae (by rw[← dN.len];exact ph));have:=(aL.1 g1).1;omega
    ·exact dN.WE u h1 b hm h2
   ·obtain⟨rF,TF,k1,k2,k3,k4,k5⟩:=Xj i b hi
    rw[hc] at k2;cases k2;obtain⟨⟨us,ty,g1,g2,g3,g4⟩,_⟩:=R2.box (sq i) rF k1;refine⟨⟨us,ty,by rw[← k5];exact g1,by rw[g2,←k3,nL,rE];simp,λj c v wP hv=>?_,g4⟩⟩;have hw:=AV.pY k4 wP;rw[← k3,nL,rE] at wP;simp only[aA,aP] at wP;obtain⟨q',⟨q,hq,rfl⟩,rfl⟩:=wP;exact C0 (g3 j q v hq hv).fin hw
   ·rw[aA] at hv
    cases hn:τ[i]? with
    |none=>rw[hn] at hv;cases hv
    |some n=>
     rw[hn] at hv;cases hv;obtain⟨a1,a3,_⟩:=R2.vec n s (KC hn hs);exact⟨a1.mono (λ_ _=>rfl) xp (λ_ _=>rfl),a3⟩
   ·rw[aA] at hv hu
    cases hn:τ[i]? with
    |none=>rw[hn] at hv;cases hv
    |some n=>
     cases hm:τ[j]? with
     |none=>rw[hm] at hu;cases hu
     |some m=>
      rw[hn] at hv;rw[hm] at hu;cases hv;cases hu;refine R2.mX n m (yl n (bm hn)) (yl m (bm hm)) (λe=>rY ?_);subst e;exact(pn (aj.1 hn).1 sI).1 (hn.trans hm.symm)
   ·obtain⟨n,hn,rfl⟩:=aG.1 hv
    obtain⟨i,hi⟩:=bJ.1 pS;obtain⟨rF,TF,k1,_,_,_,k5⟩:=Xj i b hi;rw[← k5];exact R2.my _ n ((R2.vg _).2 (by unfold St.lb;rw[k1];rfl)) (yl n hn)
   ·obtain⟨n,hn,rfl⟩:=aG.1 hu
    rcases(R2.yI (yl n hn) hg).1 with h1 |h1
    ·exact .inl h1
    ·exact .inr ((Be g).1 h1)
 cases e with
 |normal=>exact⟨.inl rfl,key q⟩
 |ret=>exact⟨.inr rfl,key q⟩
 |_=>exact q.elim
theorem Ix {K:Ctx P} {st:St} {Q:Exit→St→Prop} {ops:Array Oper} {α:Type} {f:FuncId} {fb:List AV} {S:α→Prop} {res:α→AV} {vx:α→List VS} {o:Oper} {c:Call} {y:Operand} {l:List Oper} {d:Nat} {st1:α→St} (ks υ:List Nat) (C:BD P f fb S res vx) (ho:o.op=.call c) (hc:c.callee=.value y) (hd:o.dst=some d)
  (jz:∀(args:Array Value) (w:World),(callFunc f args).run P w=.ok (.enter f args) w)
  (tX:pW ops st o=some true∧d < st.nt∧υ.Nodup∧(∃caps,ca st y=.fn f caps∧(c.args.toList.map (ca st)++caps).map (AV.view [] [] [])=fb)∧(∀n∈υ,get st.vec n=none)) (hlen:∀x,υ.length=(vx x).length)
  (hs:∀x,St.kp ks ((lX st [] [] υ [] (vx x)).put d ((res x).back υ []))=st1 x)
  (h:∀x,S x→fc P K ops l (st1 x) Q):fc P K ops (o::l) st Q:=by
 obtain⟨hg,nW,hυ,Uv,LL⟩:=tX;exact LZ υ C ho hc hd jz hg (λx=>⟨hg,nW,dL,dL,hυ,Uv,trivial,trivial,rfl,hlen x,λn hn=>.inr (LL n hn)⟩) nW Uv λx hx=>by
  have:=h x hx;rw[← hs x] at this;exact lA (CG ks) this
end
end Go.Vl
namespace Go.Vl
open Go Go.RowKit
section
variable {P:Program} {K:Ctx P} {st:St} {Q:Exit→St→Prop}
theorem DP {ops:Array Oper} {F:Exit→Act→World→Prop} {l2:List Oper}:∀(l:List Oper) (a:Act) (w:World),wpList P ops (λe a w=>match e with | .normal=>wpList P ops F l2 a w |e=>F e a w) l a w→wpList P ops F (l++l2) a w:=by
 intro l
 induction l with
 |nil=>exact λa w h=>h
 |cons o l ih=>
  intro a w hh;rw[cv];unfold wpList at hh ⊢;split
  ·rename_i hw
   rw[ai hw] at hh;rcases hh with hh |⟨h1,a0,w0,q⟩
   ·left
    unfold Oper.wp at hh ⊢;generalize (execOp a.eval o).run P w=r at hh ⊢;cases r with
    |ok n w'=>
     cases n <;> simp only[Oper.upon] at hh ⊢
     case value v=>exact ih _ _ hh
     case skip=>exact ih _ _ hh
     case defer d=>exact ih _ _ hh
     case enter f args=>
      refine qE hh λe F3 he=>?_
      cases e with
      |returned v=>exact ih _ _ he
      |panicked c=>exact he
      |outgrown=>exact he
     case row row args=>exact Rows.mono hh λv F3 he=>ih _ _ he
    |halt x w'=>
     cases x <;> simp only[Oper.upon] at hh ⊢
     case panic v=>exact hh
   ·exact .inr ⟨h1,a0,w0,q⟩
  ·rename_i hw
   rw[ah hw] at hh;exact ih _ _ hh
def RgQ (P:Program) (K:Ctx P) (y:Code) (x:Operand) (d:Nat) (Q:Exit→St→Prop) (s:St):Prop:=∃e z rows,Vl.ca s x=.d (.mp e z rows)∧d < s.nt∧∀r,TrI P K y (s.put d (.iter r)) r ⟨e,z,rows⟩ rows Q
theorem Pz {id:Nat} {l:List Oper} {o:Oper} {y:Code} {ty kt et:TypeId} {x:Operand} {d:Nat} (n:Nat) (hl:l.drop n=[o]) (hg:o.guard=none) (ho:o.op=.range ty x) (hd:o.dst=some d)
  (hu:P.underlying ty=some (.map kt et)) (H:fc P K l.toArray (l.take n) st (sF (RgQ P K y x d Q) Q)):Tr P K (.seq (.region id l.toArray false) y) st Q:=by
 intro a w p R;refine eU (eW ?_);rw[show l=l.take n++l.drop n from(fw n l).symm,hl];refine DP _ _ _ ?_;rw[← hl,fw];refine xE ?_ _ _ _ (H a w p R)
 rintro ex a w ⟨s,p,R,q⟩
 cases ex with
 |normal=>
  obtain⟨e,z,rows,hx,nW,H⟩:=q;show wpList _ _ _ (l.drop n) a w;rw[hl];have Du:=R.ca x;rw[hx] at Du;generalize Jm:a.eval x=ax at Du;cases Du with
  |d Du=>
   obtain⟨b,es,clock,rfl,hb,KJ,hM,hm⟩:=Du.zR;have Ad:b < w.heap.size:=KJ.1;have gS:=R.size;have PH:∀q:Addr,q.block < w.heap.size→si (w.alloc (.mapIter (some b) clock #[] clock)) q=si w q:=λq hq=>ud w _ q hq
   have hold:∀k,k < w.heap.size→(w.alloc (.mapIter (some b) clock #[] clock)).heap[k]? =w.heap[k]? :=λk hk=>mc w _ hk
   have FU:(w.alloc (.mapIter (some b) clock #[] clock)).heap.size=w.heap.size+1:=by unfold World.alloc;simp
   have gD:∀k,dx K w p k→dx K (w.alloc (.mapIter (some b) clock #[] clock)) p k:=λk hk=>xZ (by omega) hk
   have R1:Rel K s a (w.alloc (.mapIter (some b) clock #[] clock)) p:=R.evo ⟨by omega,rfl,rfl,rfl,λk h1 _=>hold k (by omega),λq hq=>PH q hq.1,gD,λ_ _ h=>⟨h,rfl⟩,λ_ _ h=>⟨h,rfl⟩,aM _⟩ (λn hn=>hold _ (R.blt hn)) (λn g hn hg=>hold _ (R.yI hn hg).2);have gT:(execOp a.eval o).run P w=.ok (.value (.pointer (some ⟨w.heap.size,0,none⟩))) (w.alloc (.mapIter (some b) clock #[] clock)):=by
    have:=run_range_map (P:=P) w ty kt et b es clock hu hb;simp[execOp,ho,Jm,this]
   refine jw hg gT ?_;rw[hd];have R2:=R1.put (x:=.iter w.heap.size) .iter nW;have afQ:dx K (w.alloc (.mapIter (some b) clock #[] clock)) p w.heap.size:=⟨by omega,.inr (.inl (by omega)),λn hn e=>by have:=R.blt hn;omega,λn hn e=>by have:=(R.yI hn e).2;omega⟩;exact H w.heap.size _ _ p R2 ⟨b,clock,clock,clock,#[],es,gE w _,(hold b Ad).trans hb,aM _,hm.born,rfl,gD b KJ,afQ,hm.mono (λq hq=>PH q hq.1) gD,(Gk rows es.toList hm.key.1).symm⟩ gS
 |_=>exact⟨s,p,R,q⟩
end
end Go.Vl
namespace Go.Vl
open Go
def JK (b i n:Nat):List (Nat×List AV)→List (Nat×List AV)
 |[]=>[]
 |(k,cs)::l=>if k=b then(k,cs.set i (.vec n))::l else(k,cs)::JK b i n l
theorem Fk (b i n:Nat):∀(l:List (Nat×List AV)) (t:Nat),get (JK b i n l) t=if t=b then(get l b).map (·.set i (.vec n)) else get l t
 |[],t=>by simp[JK,get]
 |(k,cs)::l,t=>by
  rw[JK];by_cases h:k=b
  ·rw[ai h]
   subst h;simp only[get];by_cases e:t=k
   ·subst e;simp
   ·have e':¬k=t:=λh=>e h.symm
    simp only[ah e,ah e']
  ·rw[ah h]
   simp only[get,Fk b i n l t];by_cases e:t=b
   ·subst e;simp[h]
   ·simp[e]
def zq:List (Nat×Nat×Nat)→St→St
 |[],st=>st
 |(b,i,n)::ts,st=>let s:=zq ts st;{ s with box:=JK b i n s.box }
section
variable {P:Program} {K:Ctx P} {st:St}
theorem G8 {st cM:St} {a:Act} {w w':World} {p p':Pl} (R:Rel K st a w p):∀(ts:List (Nat×Nat×Nat)),Rel K cM a w' p'→(∀q∈ts,(∃cs,get st.box q.1=some cs∧cs[q.2.1]? =some (.vec q.2.2))∧p'.lv q.2.2∧p'.rw q.2.2=p.rw q.2.2∧w'.heap[p'.bx q.1]? =w.heap[p.bx q.1]?)→Rel K (zq ts cM) a w' p'∧(zq ts cM).nt=cM.nt
 |[],R',_=>⟨R',rfl⟩
 |(b,i,n)::ts,R',h=>by
  obtain⟨R2,h2⟩:=G8 R ts R' (λq hq=>h q (by simp[hq]));obtain⟨⟨rF,h1,h1'⟩,h3,h4,h5⟩:=h (b,i,n) (by simp);refine⟨?_,h2⟩;obtain⟨⟨vs0,ty0,g1,g2,g3,_⟩,_⟩:=R.box b rF h1;have LI:(λm=>St.lb { zq ts cM with box:=JK b i n (zq ts cM).box } m=true)=λm=>St.lb (zq ts cM) m=true:=by
   funext m
   simp only[St.lb,Fk];by_cases e:m=b
   ·subst e;simp
   ·simp[e]
  exact {
   lb:=by rw[R2.lb];exact LI.symm
   lv:=R2.lv,pj:=R2.pj,nt:=R2.nt,pK:=R2.pK,oB:=R2.oB,size:=R2.size,os:=R2.os,tape:=R2.tape,dr:=R2.dr,output:=R2.output,old:=R2.old
   env:=R2.env
   box:=λm cs hm=>by
    have hm:get (JK b i n (zq ts cM).box) m=some cs:=hm;rw[Fk] at hm;by_cases e:m=b
    ·subst e
     rw[ai rfl] at hm;cases hg:get (zq ts cM).box m with
     |none=>rw[hg] at hm;cases hm
     |some TF=>
      rw[hg] at hm;cases hm;obtain⟨⟨vs,ty,k1,k2,k3,k4⟩,k5⟩:=R2.box m TF hg;refine⟨⟨vs,ty,k1,by rw[k2];simp,λj c v hj hv=>?_,k4⟩,k5⟩;rw[iV] at hj;split at hj
      ·rename_i rY
       split at hj
       ·cases hj
        subst rY;have h9:=k1.symm.trans (h5.trans g1);cases h9;have tV:=g3 i _ v h1' hv;cases tV;exact RA.qS h3 h4
       ·cases hj
      ·exact k3 j c v hj hv
    ·rw[ah e] at hm
     exact R2.box m cs hm
   vec:=R2.vec,oF:=R2.oF,my:=R2.my,mX:=R2.mX }
theorem YH {ops:Array Oper} {Q:Exit→St→Prop} {f:FuncId} {bx:List (List AV)} {vx:List VS} {fb:List AV} {res:AV} {bx':List (List AV)} {vx':List VS} {o:Oper} {c:Call} {y:Operand} {l:List Oper} {d:Nat} {st1:St} (ks σ τ:List Nat) (ts:List (Nat×Nat)) (bs:List (Nat×Nat×Nat)) (F:FO P f bx vx fb res bx' vx') (ho:o.op=.call c) (hc:c.callee=.value y) (hd:o.dst=some d)
  (jz:∀(args:Array Value) (w:World),(callFunc f args).run P w=.ok (.enter f args) w)
  (tX:pW ops st o=some true∧d < st.nt∧σ.Nodup∧τ.Nodup∧(∃caps,ca st y=.fn f caps∧(c.args.toList.map (ca st)++caps).map (AV.view [] τ σ)=fb)∧lI st τ σ σ bx∧sQ st τ vx∧bx.length=bx'.length∧τ.length=vx'.length∧(∀q∈ts,st.look q.1=.vec q.2∧q.2∈τ))
  (hbs:∀q∈bs,(∃cs,get st.box q.1=some cs∧cs[q.2.1]? =some (.vec q.2.2))∧q.2.2∈τ∧q.1∉σ)
  (hs:St.kp ks ((zq bs (Ep ts (lX st σ τ τ bx' vx'))).put d (res.back τ σ))=st1)
  (h:fc P K ops l st1 Q):fc P K ops (o::l) st Q:=by
 obtain⟨hg,nW,hσ,hτ,Uv,sX,MK,hl,S1,hts⟩:=tX;subst hs;have h:=lA (CG ks) h;intro a w p R;unfold wpList;rw[fH R hg,ai rfl];refine .inl ?_;unfold Oper.wp;obtain⟨caps,hf,eZ⟩:=Uv;obtain⟨cs,hy,V0,hh⟩:=yW R hf;rw[tw ho hc hy jz];show Calls P f (c.args.map a.eval++cs) w _;refine(Am F R (υ:=τ) ⟨hg,nW,hσ,hτ,hτ,⟨caps,hf,eZ⟩,sX,MK,hl,S1,λn hn=>.inl hn⟩ ⟨caps,V0,hh,eZ⟩).mono λe w' ⟨v,p',he,R',hv,iv',hG,hk,hB⟩=>?_
 subst he;subst hG;have VT:∀n∈τ,p'.lv n∧p'.rw n=p.rw n:=λn hn=>by
  obtain⟨i,hi⟩:=bJ.1 hn;obtain⟨k1,k2⟩:=hk i n hi;rw[aA,hi] at k2;exact⟨k1,by simpa using k2.symm⟩
 obtain⟨R2,h2⟩:=BW R ts R' rfl (λq hq=>by
  obtain⟨g1,g2⟩:=hts q hq;exact⟨g1,VT _ g2⟩)
 obtain⟨R3,h3⟩:=G8 R bs R2 (λq hq=>by
  obtain⟨g1,g2,g3⟩:=hbs q hq;obtain⟨k1,k2⟩:=VT _ g2;have PS:=g1;obtain⟨rF,e1,_⟩:=PS;exact⟨g1,k1,k2,hB q.1 ((R.vg q.1).2 (by simp[St.lb,e1])) g3⟩)
 show wpList P ops (FZ K Q) l (a.put o.dst v) w';rw[hd];exact h _ _ _ (R3.put hv (by rw[h3,h2];exact nW))
end
attribute [simp] zq JK
end Go.Vl
