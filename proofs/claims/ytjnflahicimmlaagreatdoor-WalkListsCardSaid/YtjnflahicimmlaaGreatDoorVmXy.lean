/- The value logic: an owned row under another name; arrays in boxes; bytes of strings. Conditions: none. -/
import Derived.Test.YtjnflahicimmlaaGreatDoorVmPu
set_option linter.unusedSimpArgs false
set_option linter.unusedVariables false
namespace Go.Vl
open Go Go.RowKit
mutual
def AV.BE (n m:Nat):AV→AV
 | .vec k=>if k=n then .vec m else .vec k
 | .iR k z i o=>if k=n then .iR m z i o else .iR k z i o
 | .cut k z i o=>if k=n then .cut m z i o else .cut k z i o
 | .agg l=>.agg (AV.JR n m l)
 | .ia l=>.ia (AV.JR n m l)
 | .fn f l=>.fn f (AV.JR n m l)
 |x=>x
def AV.JR (n m:Nat):List AV→List AV
 |[]=>[]
 |x::l=>AV.BE n m x::AV.JR n m l
end
theorem AK (n m:Nat):∀l:List AV,AV.JR n m l=l.map (AV.BE n m)
 |[]=>rfl
 |x::l=>by simp[AV.JR,AK n m l]
theorem RA.BE {w:World} {ok nf:Nat→Prop} {p p':Pl} {n m:Nat} (ho:∀b,ok b→nf b) (hb:∀k,p.lb k→p'.lb k∧p'.bx k=p.bx k) (hv:∀k,k≠n→p.lv k→p'.lv k∧p'.rw k=p.rw k)
  (hn:p.lv n→p'.lv m∧p'.rw m=p.rw n) {x:AV} {v:Value} (h:RA w ok p x v):RA w nf p' (x.BE n m) v:=by
 induction h with
 |undef=>simp only[AV.BE];exact .undef
 |d h=>simp only[AV.BE];exact .d (h.mono (λ_ _=>rfl) ho)
 |dK=>simp only[AV.BE];exact .dK
 |full h=>simp only[AV.BE];exact .full (h.mono (λ_ _=>rfl) ho)
 |agg hl _ h1 ih=>
  simp only[AV.BE,AK];refine .agg (by simpa using hl) (λi a v ha lE=>?_) h1;simp only[aA,aP] at ha;obtain⟨q,hq,rfl⟩:=ha;exact ih i q v hq lE
 |ia hl _ ih=>
  simp only[AV.BE,AK];refine .ia (by simpa using hl) (λi a v ha lE=>?_);simp only[aA,aP] at ha;obtain⟨q,hq,rfl⟩:=ha;exact ih i q v hq lE
 |ptr hm=>obtain⟨h1,h2⟩:=hb _ hm;simp only[AV.BE,←h2];exact .ptr h1
 |cN vs gD eY h=>simp only[AV.BE];exact .cN vs (ho _ gD) eY (λj x hx=>(h j x hx).mono (λ_ _=>rfl) ho)
 |vec hm=>
  simp only[AV.BE];split
  ·subst_vars;obtain⟨h1,h2⟩:=hn hm;rw[← h2];exact .vec h1
  ·obtain⟨h1,h2⟩:=hv _ ‹_› hm;rw[← h2];exact .vec h1
 |iR hm he=>
  simp only[AV.BE];split
  ·subst_vars;obtain⟨h1,h2⟩:=hn hm;exact .iR h1 (h2.trans he)
  ·obtain⟨h1,h2⟩:=hv _ ‹_› hm;exact .iR h1 (h2.trans he)
 |cut hm he Bb hle=>
  simp only[AV.BE];split
  ·subst_vars;obtain⟨h1,h2⟩:=hn hm;exact .cut h1 (h2.trans he) Bb hle
  ·obtain⟨h1,h2⟩:=hv _ ‹_› hm;exact .cut h1 (h2.trans he) Bb hle
 |oG hm he=>
  simp only[AV.BE];split
  ·subst_vars;obtain⟨h1,h2⟩:=hn hm;exact .oG h1 (h2.trans he)
  ·obtain⟨h1,h2⟩:=hv _ ‹_› hm;exact .oG h1 (h2.trans he)
 |pR=>simp only[AV.BE];exact .pR
 |iter=>simp only[AV.BE];exact .iter
 |fn hl _ ih=>
  simp only[AV.BE,AK];refine .fn (by simpa using hl) (λi a v ha lE=>?_);simp only[aA,aP] at ha;obtain⟨q,hq,rfl⟩:=ha;exact ih i q v hq lE
def St.BE (st:St) (n m:Nat):St:=
 match get st.vec n,get st.vec m with
 |some s,none=>{ nt:=st.nt,env:=me (AV.BE n m) st.env,box:=me (List.map (AV.BE n m)) st.box,vec:=(m,s)::del st.vec n }
 |_,_=>st
def St.shr (st:St) (t n k:Nat):St:=
 match get st.vec n with
 |some s=>St.put { nt:=st.nt,env:=me (AV.gi n) st.env,box:=me (List.map (AV.gi n)) st.box,vec:=(n,⟨s.e,s.z,s.rows.take k⟩)::del st.vec n } t (.vec n)
 |none=>st
theorem sx {st:St} (n m:Nat):Wk st (st.BE n m):=λK a w p R=>by
 unfold St.BE;cases hs:get st.vec n with
 |none=>exact⟨p,R⟩
 |some s=>
 cases SZ:get st.vec m with
 |some _=>exact⟨p,R⟩
 |none=>
  have Hu:m≠n:=λe=>by rw[e,hs] at SZ;cases SZ
  have sj:p.lv n:=(R.sT n).2 (by simp[St.lv,hs]);have Us:¬p.lv m:=λh=>by have:=(R.sT m).1 h;simp[St.lv,SZ] at this
  have iA:∀k,p.lv k→k≠m:=λk h e=>Us (e▸h)
  let p':Pl:=⟨p.bx,Ue p.rw m (p.rw n),p.lb,λk=>k=m∨(k≠n∧p.lv k)⟩
  have rwm:p'.rw m=p.rw n:=fO _ _ _;have rwk:∀k,k≠m→p'.rw k=p.rw k:=λk h=>nr _ _ h
  have old:∀k,p'.lv k→∃k',p.lv k'∧p'.rw k=p.rw k'∧(k=m∧k'=n∨k≠m∧k'=k∧k≠n):=λk hk=>by
   rcases hk with rfl |⟨h1,h2⟩
   ·exact⟨n,sj,rwm,.inl ⟨rfl,rfl⟩⟩
   ·exact⟨k,h2,rwk k (iA k h2),.inr ⟨iA k h2,rfl,h1⟩⟩
  have gD:∀b,dx K w p b→dx K w p' b:=λb h=>⟨h.1,h.2.1,h.2.2.1,λk hk=>by
   obtain⟨k',h1,h2,_⟩:=old k hk;rw[h2];exact h.2.2.2 k' h1⟩
  have key:∀{x:AV} {v:Value},RA w (dx K w p) p x v→RA w (dx K w p') p' (x.BE n m) v:=λh=>
   h.BE (p:=p) (p':=p') gD (λk hk=>⟨hk,rfl⟩) (λk hk hl=>⟨.inr ⟨hk,hl⟩,rwk k (iA k hl)⟩) (λ_=>⟨.inl rfl,rwm⟩)
  refine⟨p',?_⟩;exact {
   lb:=by funext k;simp only[St.lb,jS,te];show p.lb k=_;rw[R.lb];rfl
   lv:=by
    funext k
    simp only[St.lv,get,iG,gV];show(k=m∨(k≠n∧p.lv k))↔_;by_cases e:m=k
    ·simp[e]
    ·rw[ah e]
     by_cases e2:n=k
     ·simp[e2,eN e]
     ·rw[ah e2];have:=R.sT k;simp only[St.lv] at this;simp[eN e,eN e2,this]
   pj:=R.pj
   nt:=R.nt
   pK:=R.pK
   oB:=R.oB
   size:=R.size
   os:=R.os
   tape:=R.tape
   dr:=R.dr
   output:=R.output
   old:=R.old
   env:=λt y h=>by obtain⟨x,hx,rfl⟩:=iT h;exact key (R.env t x hx)
   box:=λk cs' h=>by
    obtain⟨cs,je,rfl⟩:=iT h;obtain⟨⟨vs,ty,h1,h2,h3,h4⟩,h5⟩:=R.box k cs je;refine⟨⟨vs,ty,h1,by simpa using h2,λi c v hc hv=>?_,h4⟩,h5⟩;rw[aA] at hc;cases hq:cs[i]? with
    |none=>simp[hq] at hc
    |some q=>simp[hq] at hc;subst hc;exact key (h3 i q v hq hv)
   vec:=λk s' h=>by
    simp only[get] at h;split at h
    ·rename_i e;subst e;cases h
     obtain⟨h1,h3,h4⟩:=R.vec n s hs;exact⟨by rw[rwm];exact h1.mono (λ_ _=>rfl) gD (λ_ _=>rfl),h3,λg hg=>h4 g (by rw[← rwm];exact hg)⟩
    ·rename_i e
     rw[iG] at h;split at h
     ·cases h
     ·obtain⟨h1,h3,h4⟩:=R.vec k s' h
      exact⟨by rw[rwk k (eN e)];exact h1.mono (λ_ _=>rfl) gD (λ_ _=>rfl),h3,λg hg=>h4 g (by rw[← rwk k (eN e)];exact hg)⟩
   oF:=R.oF
   my:=λk j hk hj=>by obtain⟨j',h1,h2,_⟩:=old j hj;rw[h2];exact R.my k j' hk h1
   mX:=λk j hk hj Bd=>by
    obtain⟨k',h1,h2,h3⟩:=old k hk;obtain⟨j',g1,g2,g3⟩:=old j hj;rw[h2,g2];refine R.mX k' j' h1 g1 λe=>?_
    rcases h3 with ⟨a1,a2⟩ |⟨a1,a2,a3⟩ <;> rcases g3 with ⟨b1,b2⟩ |⟨b1,b2,b3⟩
    ·exact Bd (a1.trans b1.symm)
    ·exact b3 (by rw[← b2,←e,a2])
    ·exact a3 (by rw[← a2,e,b2])
    ·exact Bd (by rw[← a2,e,b2])}
def Df (s:ByteArray) (i:Int):Option Int:=if 0≤i then s[i.toNat]?.map λb=>(b.toNat:Int) else none
theorem OZ {s:ByteArray} {i x:Int} (h:Df s i=some x):0≤i∧(s[i.toNat]?.map λb=>(AV.d (.int .u8 b.toNat)))=some (.d (.int .u8 x)):=by
 unfold Df at h;split at h
 ·rename_i h0
  refine⟨h0,?_⟩;cases hs:s[i.toNat]? with
  |none=>rw[hs] at h;cases h
  |some b=>rw[hs] at h;cases h;rfl
 ·cases h
theorem vM {P:Program} {t:TypeId} {s:ByteArray} {i x:Int} (ht:P.underlying t=some .string) (h:Df s i=some x):mm P t (.d (.str s)) i=some (.d (.int .u8 x)):=by
 obtain⟨h0,h1⟩:=OZ h;unfold mm;rw[ht];simp only[ai h0];exact h1
def QE (n:Nat):List Int:=List.replicate n 0
theorem F0 (n:Nat):(QE n).length=n:=by unfold QE;exact uh
theorem By {α:Type} {f:α→List D} {g:α→D} (h:∀x,f x=[g x]):∀l:List α,CB f l=l.map λx=>.d (g x)
 |[]=>rfl
 |x::l=>by simp[CB,h,By h l]
theorem Wt {k:IntKind} (l:List Int):(CB (aH k) l).length=l.length:=by rw[By (f:=aH k) (g:=λn=>.int k n) (λ_=>rfl)];simp
theorem Z2 {k:IntKind} (l:List Int) (i:Nat):(CB (aH k) l)[i]? =l[i]?.map λn=>.d (.int k n):=by rw[By (f:=aH k) (g:=λn=>.int k n) (λ_=>rfl)];simp
def QF (n:Nat):List Bool:=List.replicate n false
theorem F1 (n:Nat):(QF n).length=n:=by unfold QF;exact uh
theorem TW (l:List Bool):(CB gm l).length=l.length:=by rw[By (f:=gm) (g:=λn=>.bool n) (λ_=>rfl)];simp
theorem Ww (l:List Bool) (i:Nat):(CB gm l)[i]? =l[i]?.map λn=>.d (.bool n):=by rw[By (f:=gm) (g:=λn=>.bool n) (λ_=>rfl)];simp
theorem yD {α:Type} {f:α→List D} {g:AV→AV} (hg:∀d,g (.d d)=.d d) (l:List α):(CB f l).map g=CB f l:=by
 induction l with
 |nil=>rfl
 |cons x l ih=>
  simp only[CB,bV,ih,kU]
  congr 1
  exact fW λd _=>hg d
theorem Wv {α:Type} {f:α→List D} (l:List α):AV.Cp (CB f l)=CB f l:=by rw[rE];exact yD (λd=>rfl) l
theorem Ws {α:Type} {f:α→List D} (τ:List Nat) (l:List α):AV.tN τ (CB f l)=CB f l:=by rw[nL];exact yD (λd=>rfl) l
theorem TV {α:Type} {f:α→List D} (vs:List (Nat×VS)) (τ σ:List Nat) (l:List α):AV.zp vs τ σ (CB f l)=CB f l:=by rw[tB];exact yD (λd=>rfl) l
theorem TX {α:Type} {f:α→List D} (υ σ:List Nat) (l:List α):AV.zD υ σ (CB f l)=CB f l:=by rw[ub];exact yD (λd=>rfl) l
theorem Wr {α:Type} {f:α→List D} (n m:Nat) (l:List α):AV.JR n m (CB f l)=CB f l:=by rw[AK];exact yD (λd=>rfl) l
theorem Z1 {α:Type} {f:α→List D} (cM:St) (l:List α):wI cM (CB f l) (CB f l):=by
 have key:∀cs:List AV,AV.we cM.lb cM.lv cs=true→wI cM cs cs:=λcs=>by
  induction cs with
  |nil=>intro _;trivial
  |cons x cs ih=>intro h;simp only[AV.we,aR] at h;exact⟨.inr ⟨rfl,h.1⟩,ih h.2⟩
 exact key _ (TU _ _ l)
end Go.Vl
namespace Go.Vl
open Go Go.RowKit
section
variable {P:Program} {K:Ctx P} {st:St} {ops:Array Oper} {Q:Exit→St→Prop}
theorem DV {l:List Oper} {o:Oper} {t e yt:TypeId} {x y:Operand} {d:Nat} (hg:pW ops st o=some true) (ho:o.op=.binOp .eql t x y yt) (hd:o.dst=some d) (nW:d < st.nt) (hu:P.underlying t=some (.slice e)) (hx:ca st x=.d (.slice [])) (hy:ca st y=.dK)
  (h:∀b,fc P K ops l (st.put d (.d (.bool b))) Q):fc P K ops (o::l) st Q:=by
 intro a w p R;have xn:=R.ca x;have SB:=R.ca y;rw[hx] at xn;rw[hy] at SB;have key:∃b,(execOp a.eval o).run P w=.ok (.value (.bool b)) w:=by
  generalize hv:a.eval x=v at xn;generalize hw:a.eval y=u at SB;cases SB with |dK=>
  have hs:∃(q:Option Addr) (c:Nat),v=.slice q 0 c:=by
   cases xn with |d xn=>cases xn with
   |pQ=>exact⟨_,_,rfl⟩
   |slice z vs=>exact⟨_,_,rfl⟩
  obtain⟨q,c,rfl⟩:=hs;have hgd:(eqGuard .eql t x y (.slice q 0 c) (.slice none 0 0)).run P w=.ok () w:=by simp[eqGuard]
  refine⟨q.isNone,?_⟩;have h2:=(jC (w:=w) hu q 0 c).1;simp only[execOp,ho,hv,hw,bk,hgd,aU,h2,cV]
 obtain⟨b,hb⟩:=key;unfold wpList;rw[fH R hg,ai rfl];refine .inl ?_;unfold Oper.wp;rw[hb];show wpList P ops (FZ K Q) l (a.put o.dst (.bool b)) w;rw[hd];exact h b _ _ _ (R.put (.d .bool) nW)
theorem Rel.Yr {a:Act} {w:World} {p:Pl} (R:Rel K st a w p) {b i n:Nat} {cs:List AV} (hb:get st.box b=some cs) (hi:cs[i]? =some .dK) (hn:get st.vec n=none) (e:TypeId) (z:Nat) (he:e < 1000000):
  ∃p',Rel K { st with vec:=(n,⟨e,z,[]⟩)::st.vec,box:=(b,cs.set i (.vec n))::st.box } a w p':=by
 have R':=R.B7 (d:=n) (w':=w) (v':=.slice none 0 0) (s:=⟨e,z,[]⟩) (xs:=[]) (pz he) hn (sN w _) (aM _) (mT w _ _ _) (λr hr=>by simp at hr) (λj x v h=>by simp at h) (.inl rfl);refine⟨_,{
  lb:=?_
  lv:=R'.lv
  pj:=R'.pj
  nt:=R'.nt
  pK:=R'.pK
  oB:=R'.oB
  size:=R'.size
  os:=R'.os
  tape:=R'.tape
  dr:=R'.dr
  output:=R'.output
  old:=R'.old
  env:=R'.env
  box:=?_
  vec:=R'.vec
  oF:=R'.oF
  my:=R'.my
  mX:=R'.mX }⟩
 ·rw[R'.lb]
  funext m
  simp only[St.lb,get,gV];split
  ·rename_i h;subst h;simp[hb]
  ·exact Iff.rfl
 ·intro m cs' h
  simp only[get] at h;split at h
  ·rename_i hm;subst hm;cases h
   obtain⟨⟨vs,ty,h1,h2,h3,h4⟩,h5⟩:=R'.box b cs hb;refine⟨⟨vs,ty,h1,by simpa using h2,λj c v hc hv=>?_,h4⟩,h5⟩;rw[iV] at hc;split at hc
   ·rename_i hj;subst hj
    split at hc
    case isFalse=>cases hc
    cases hc;have lE:=h3 i .dK v hi hv;cases lE;exact RA.qS (n:=n) (Or.inl rfl) (fO _ _ _)
   ·exact h3 j c v hc hv
  ·exact R'.box m cs' h
theorem yH {s:St} (b i n:Nat) (e:TypeId) (z:Nat) {cs:List AV} (hb:get s.box b=some cs) (hi:cs[i]? =some .dK) (hn:get s.vec n=none) (he:e < 1000000:=by decide):Wk s { s with vec:=(n,⟨e,z,[]⟩)::s.vec,box:=(b,cs.set i (.vec n))::s.box }:=λ_ _ _ _ R=>R.Yr hb hi hn e z he
end
end Go.Vl
namespace Go.Vl
open Go Go.RowKit
mutual
def AV.kh (n:Nat) (row:List D):AV→AV
 | .ptr m o=>if m=n then .cN row o else .ptr m o
 | .agg l=>.agg (AV.Fq n row l)
 | .ia l=>.ia (AV.Fq n row l)
 | .fn f l=>.fn f (AV.Fq n row l)
 |x=>x
def AV.Fq (n:Nat) (row:List D):List AV→List AV
 |[]=>[]
 |x::l=>AV.kh n row x::AV.Fq n row l
end
theorem Bh (n:Nat) (row:List D):∀l:List AV,AV.Fq n row l=l.map (AV.kh n row)
 |[]=>rfl
 |x::l=>by simp[AV.Fq,Bh n row l]
theorem RA.kh {w:World} {ok nf:Nat→Prop} {p p':Pl} {n:Nat} {row:List D} (ho:∀b,ok b→nf b) (hb:∀m,m≠n→p.lb m→p'.lb m∧p'.bx m=p.bx m) (hv:∀m,p.lv m→p'.lv m∧p'.rw m=p.rw m)
  (hn:∀o,RA w nf p' (.cN row o) (.pointer (some ⟨p.bx n,o,none⟩))) {x:AV} {v:Value} (h:RA w ok p x v):RA w nf p' (x.kh n row) v:=by
 induction h with
 |undef=>simp only[AV.kh];exact .undef
 |d h=>simp only[AV.kh];exact .d (h.mono (λ_ _=>rfl) ho)
 |dK=>simp only[AV.kh];exact .dK
 |full h=>simp only[AV.kh];exact .full (h.mono (λ_ _=>rfl) ho)
 |agg hl _ h1 ih=>
  simp only[AV.kh,Bh];refine .agg (by simpa using hl) (λi a v ha lE=>?_) h1;simp only[aA,aP] at ha;obtain⟨q,hq,rfl⟩:=ha;exact ih i q v hq lE
 |ia hl _ ih=>
  simp only[AV.kh,Bh];refine .ia (by simpa using hl) (λi a v ha lE=>?_);simp only[aA,aP] at ha;obtain⟨q,hq,rfl⟩:=ha;exact ih i q v hq lE
 |ptr hm=>
  simp only[AV.kh];split
  ·subst_vars;exact hn _
  ·obtain⟨h1,h2⟩:=hb _ ‹_› hm;rw[← h2];exact .ptr h1
 |cN vs gD eY h=>simp only[AV.kh];exact .cN vs (ho _ gD) eY (λj x hx=>(h j x hx).mono (λ_ _=>rfl) ho)
 |vec hm=>obtain⟨h1,h2⟩:=hv _ hm;simp only[AV.kh];rw[← h2];exact .vec h1
 |iR hm he=>obtain⟨h1,h2⟩:=hv _ hm;simp only[AV.kh];exact .iR h1 (h2.trans he)
 |cut hm he Bb hle=>obtain⟨h1,h2⟩:=hv _ hm;simp only[AV.kh];exact .cut h1 (h2.trans he) Bb hle
 |oG hm he=>obtain⟨h1,h2⟩:=hv _ hm;simp only[AV.kh];exact .oG h1 (h2.trans he)
 |pR=>simp only[AV.kh];exact .pR
 |iter=>simp only[AV.kh];exact .iter
 |fn hl _ ih=>
  simp only[AV.kh,Bh];refine .fn (by simpa using hl) (λi a v ha lE=>?_);simp only[aA,aP] at ha;obtain⟨q,hq,rfl⟩:=ha;exact ih i q v hq lE
def St.kh (st:St) (n:Nat) (row:List D):St:={ nt:=st.nt,env:=me (AV.kh n row) st.env,box:=me (List.map (AV.kh n row)) (del st.box n),vec:=st.vec }
section
variable {P:Program} {K:Ctx P} {st:St} {a:Act} {w:World} {p:Pl}
theorem Rel.kh (R:Rel K st a w p) {n k:Nat} {cs:List AV} {row:List D} (hb:get st.box n=some cs) (hd:uW cs=some row) (hk:K.lx.length=k) (hn:n < 1000000) (xg:∀i,i < k→st.lb (sq i)=true):
  ∃p',Rel K (st.kh n row) a w p':=by
 have sj:p.lb n:=(R.vg n).2 (by simp[St.lb,hb])
 let p':Pl:=⟨p.bx,p.rw,λm=>m≠n∧p.lb m,p.lv⟩
 have gD:∀b,dx K w p b→dx K w p' b:=λb h=>⟨h.1,h.2.1,λm hm=>h.2.2.1 m hm.2,h.2.2.2⟩
 obtain⟨⟨vs,ty,hg,hl,hr,h1⟩,yo⟩:=R.box n cs hb;have hnk:dx K w p' (p.bx n):=⟨R.blt sj,by
  rcases yo with h0 |h0 |h0
  ·exact .inr (.inl h0)
  ·obtain⟨i,hi⟩:=bJ.1 h0
   have hik:i < k:=by rw[← hk];exact(aj.1 hi).1
   have hlo:=(R.vg (sq i)).2 (xg i hik);have:=R.oB i hlo;rw[hi] at this;injection this with this
   exact absurd this (λe=>R.oF n (sq i) sj hlo (by unfold sq;omega) e)
  ·exact .inr (.inr h0),λm hm e=>R.oF m n hm.2 sj hm.1 e.symm,λm hm e=>R.my n m sj hm e⟩
 obtain⟨Tg,hdg⟩:=vD hd;have hc:∀o,RA w (dx K w p') p' (.cN row o) (.pointer (some ⟨p.bx n,o,none⟩)):=λo=>by
  have:=RA.cN (w:=w) (ok:=dx K w p') (p:=p') (row:=row) (o:=o) (a:=⟨p.bx n,0,none⟩) (λj=>vs.getD j undef) hnk (λj hj=>by
   rw[ix,gg,cell_of_row w _ j vs ty _ hg];simp[show j < vs.size by omega]) (λj x hx=>by
   obtain⟨y,hy,YK⟩:=hdg j x hx;have hj:j < vs.size:=by have:=(aj.1 hx).1;omega
   exact(BL YK (hr j y _ hy (by simp[hj]))).mono (λ_ _=>rfl) gD)
  rwa [ix,gg] at this
 have key:∀{x:AV} {v:Value},RA w (dx K w p) p x v→RA w (dx K w p') p' (x.kh n row) v:=λh=>h.kh (p:=p) (p':=p') gD (λm hm hl=>⟨⟨hm,hl⟩,rfl⟩) (λm hm=>⟨hm,rfl⟩) hc
 refine⟨p',{
  lb:=by
   funext m
   simp only[St.lb,St.kh,jS,te,iG,gV];show(m≠n∧p.lb m)↔_;by_cases e:n=m
   ·simp[e]
   ·rw[ah e];have:=R.vg m;simp only[St.lb] at this;simp[eN e,this]
  lv:=R.lv
  pj:=R.pj
  nt:=R.nt
  pK:=R.pK
  oB:=λi hi=>R.oB i hi.2
  size:=R.size
  os:=R.os
  tape:=R.tape
  dr:=R.dr
  output:=R.output
  old:=R.old
  env:=λt y h=>by obtain⟨x,hx,rfl⟩:=iT h;exact key (R.env t x hx)
  box:=λm cs' h=>by
   obtain⟨cs,je,rfl⟩:=iT h;rw[iG] at je;split at je
   ·cases je
   ·obtain⟨⟨vs,ty,h1,h2,h3,h4⟩,h5⟩:=R.box m cs je
    refine⟨⟨vs,ty,h1,by simpa using h2,λi c v hc hv=>?_,h4⟩,h5⟩;rw[aA] at hc;cases hq:cs[i]? with
    |none=>simp[hq] at hc
    |some q=>simp[hq] at hc;subst hc;exact key (h3 i q v hq hv)
  vec:=λm s' h=>by
   obtain⟨h1,h3,h4⟩:=R.vec m s' h;exact⟨h1.mono (λ_ _=>rfl) gD (λ_ _=>rfl),h3,h4⟩
  oF:=λm k hm hk=>R.oF m k hm.2 hk.2
  my:=λm k hm hk=>R.my m k hm.2 hk
  mX:=R.mX }⟩
theorem tY {f:FuncId} {fn:Func} {c:Code} {nt:Nat} {rs:List ResultVar} {bx:List (List AV)} {args:List AV} {res:AV} {bx':List (List AV)} (hf:P.funcs[f]? =some fn) (hb:fn.body=some c) (zX:fn.ntmps=nt) (KF:fn.results.toList=rs)
  (Xn:args.length≤nt) (SU:nt≤1000000) (LI:bx.length=bx'.length) (h:∀K:Ctx P,K.lx.length=bx.length→Tr P K c (I0 nt args bx) (Ub P rs res bx')):dY P f bx args res bx':=
 Om hf hb zX KF Xn SU LI λK hK a w p R=>hU (h K hK a w p R) λe a' w' ⟨s,p',R',q⟩=>⟨s,p',R',by
  cases e with
  |normal=>exact Oq q
  |ret=>exact Oq q
  |_=>exact q.elim⟩
def Ug (ops:Array Oper) (st:St):List Oper→List Nat→Option (List Nat)
 |[],sk=>some sk
 |o::l,sk=>match o.guard with
  |none=>none
  |some (j,want)=>match (ops[j]?).bind (·.dst) with
   |none=>none
   |some t=>if(sk.contains t||Sz (st.look t) want)=true then match o.dst with
     |none=>Ug ops st l sk
     |some d=>if d < st.nt∧(get st.env d).isNone=true then Ug ops st l (d::sk) else none
    else none
def oA:List Nat→St→St
 |[],st=>st
 |d::ds,st=>(oA ds st).put d (.ia [])
theorem Pa {ds:List Nat} {st:St} {t:Nat} {x:AV}:get (oA ds st).env t=some x→(t∈ds∧x=.ia [])∨get st.env t=some x:=by
 induction ds with
 |nil=>exact .inr
 |cons d ds ih=>
  intro h;simp only[oA,St.put,get] at h;by_cases e:d=t
  ·rw[ai e] at h;cases h;exact .inl ⟨by simp[e],rfl⟩
  ·rw[ah e] at h
   rcases ih h with ⟨h1,h2⟩ |h1
   ·exact .inl ⟨by simp[h1],h2⟩
   ·exact .inr h1
theorem Er {sk:List Nat} {st:St} {t:Nat} (h:t∈sk):(oA sk st).look t=.ia []:=by
 induction sk with
 |nil=>simp at h
 |cons d sk ih=>
  simp only[oA,St.put,St.look,get];by_cases e:d=t
  ·rw[ai e];rfl
  ·rw[ah e];rcases aZ.1 h with h |h
   ·exact absurd h.symm e
   ·exact ih h
theorem CN {sk:List Nat} {st:St} {t:Nat} (h:t∉sk):(oA sk st).look t=st.look t:=by
 induction sk with
 |nil=>rfl
 |cons d sk ih=>
  simp only[oA,St.put,St.look,get];rw[ah (λe=>h (by simp[e]))];exact ih (λh'=>h (by simp[h']))
theorem AN (sk:List Nat) (st:St):(oA sk st).nt=st.nt:=by induction sk with |nil=>rfl |cons d sk ih=>exact ih
theorem G7 (sk:List Nat) (st:St):(oA sk st).box=st.box∧(oA sk st).vec=st.vec:=by induction sk with |nil=>exact⟨rfl,rfl⟩ |cons d sk ih=>exact ih
theorem Cd {ops:Array Oper} {Q:Exit→St→Prop} {rest:List Oper} {st0:St}:∀(l:List Oper) (sk sk':List Nat),Ug ops st0 l sk=some sk'→fc P K ops rest (oA sk' st0) Q→fc P K ops (l++rest) (oA sk st0) Q
 |[],sk,sk',h,H=>by simp only[Ug] at h;cases h;exact H
 |o::l,sk,sk',h,H=>by
  simp only[Ug] at h;split at h
  ·cases h
  rename_i j want hgd;split at h
  ·cases h
  rename_i t ht;split at h
  case isFalse=>cases h
  rename_i hv;have hg:pW ops (oA sk st0) o=some false:=by
   unfold pW;rw[hgd];simp only;rw[ht];simp only;by_cases hm:t∈sk
   ·rw[Er hm]
   ·rw[CN hm]
    have:Sz (st0.look t) want=true:=by
     rw[cj,cd] at hv;exact hv.resolve_left hm
    unfold Sz at this;split at this
    ·rename_i b hb;rw[hb];cases b <;> cases want <;> simp_all
    ·rename_i hb;rw[hb]
    ·cases this
  split at h
  ·rename_i hd
   have:=EF (P:=P) (K:=K) (ops:=ops) (o:=o) hg (λd h'=>by rw[hd] at h';cases h');rw[hd] at this;exact LQ.aaN this (Cd l sk sk' h H)
  ·rename_i d hd
   split at h
   case isFalse=>cases h
   rename_i hc;have:=EF (P:=P) (K:=K) (ops:=ops) (o:=o) hg (λd' h'=>by rw[hd] at h';cases h';rw[AN];exact hc.1);rw[hd] at this;exact LQ.aaN this (Cd l (d::sk) sk' h H)
def aaP (ops:Array Oper) (st:St) (l:List Oper) (ds:List Nat):Bool:=match Ug ops st l [] with |some sk=>ds.all λd=>sk.contains d |none=>false
theorem cU {ops:Array Oper} {Q:Exit→St→Prop} {l:List Oper} (k:Nat) (ds:List Nat) (hB:aaP ops st (l.take k) ds=true) (H:fc P K ops (l.drop k) (oA ds st) Q):fc P K ops l st Q:=by
 obtain⟨sk,h,IM⟩:∃sk,Ug ops st (l.take k) []=some sk∧(ds.all λd=>sk.contains d)=true:=by
  unfold aaP at hB;split at hB
  ·rename_i sk hsk;exact⟨sk,hsk,hB⟩
  ·cases hB
 have h1:fc P K ops (l.drop k) (oA sk st) Q:=λa w p R=>by
  refine H a w p ?_;have hsk:∀d∈sk,get st.env d=none:=by
   have key:∀(l:List Oper) (s0 s1:List Nat),Ug ops st l s0=some s1→(∀d∈s0,get st.env d=none)→∀d∈s1,get st.env d=none:=λl=>by
    induction l with
    |nil=>intro s0 s1 h h0;simp only[Ug] at h;cases h;exact h0
    |cons o l ih=>
     intro s0 s1 h h0;simp only[Ug] at h;split at h
     ·cases h
     split at h
     ·cases h
     split at h
     case isFalse=>cases h
     split at h
     ·exact ih _ _ h h0
     ·split at h
      case isFalse=>cases h
      rename_i hc;exact ih _ _ h λd hd=>by
       rcases aZ.1 hd with rfl |hd
       ·simpa using hc.2
       ·exact h0 d hd
   exact key _ _ _ h (λd hd=>by simp at hd)
  simp only[bE,cd] at IM;have S3:∀t x,get (oA ds st).env t=some x→get (oA sk st).env t=some x:=λt x hx=>by
   rcases Pa hx with ⟨h1,rfl⟩ |h1
   ·have:=Er (st:=st) (IM t h1)
    unfold St.look at this;cases hg:get (oA sk st).env t with
    |none=>rw[hg] at this;cases this
    |some y=>rw[hg] at this;simp at this;rw[this]
   ·have hn:t∉sk:=λhm=>by rw[hsk t hm] at h1;cases h1
    have:=CN (st:=st) hn;unfold St.look at this;rw[h1] at this;cases hg:get (oA sk st).env t with
    |none=>
     exfalso
     have key:∀(s:List Nat),get (oA s st).env t=none→get st.env t=none:=λs=>by
      induction s with
      |nil=>exact id
      |cons d s ih=>
       intro h;simp only[oA,St.put,get] at h;split at h
       ·cases h
       ·exact ih h
     rw[key sk hg] at h1;cases h1
    |some y=>rw[hg] at this;simp at this;rw[this]
  have e1:=G7 sk st;have e2:=G7 ds st;exact {
   lb:=by rw[R.lb];funext n;simp only[St.lb,e1.1,e2.1]
   lv:=by rw[R.lv];funext n;simp only[St.lv,e1.2,e2.2]
   pj:=R.pj,nt:=by rw[R.nt,AN,AN],pK:=by have:=R.pK;rwa [AN] at this ⊢
   oB:=R.oB,size:=R.size,os:=R.os,tape:=R.tape,dr:=R.dr,output:=R.output,old:=R.old
   env:=λt x hx=>R.env t x (S3 t x hx)
   box:=by have:=R.box;rwa [e1.1,←e2.1] at this
   vec:=by have:=R.vec;rwa [e1.2,←e2.2] at this
   oF:=R.oF,my:=R.my,mX:=R.mX }
 have:=Cd (l.take k) [] sk h h1
 rwa [fw] at this
theorem rp {c:Code} {Q:Exit→St→Prop} {k:Nat} (n:Nat) (cs:List AV) (row:List D) (hb:get st.box n=some cs) (hd:uW cs=some row) (hk:K.lx.length=k) (hn:n < 1000000) (xg:∀i,i < k→st.lb (sq i)=true) (h:Tr P K c (st.kh n row) Q):Tr P K c st Q:=
 λa w p R=>by obtain⟨p',R'⟩:=R.kh hb hd hk hn xg;exact h a w p' R'
def FO (P:Program) (f:FuncId) (bx:List (List AV)) (vx:List VS) (args:List AV) (res:AV) (bx':List (List AV)) (vx':List VS):Prop:=T8 (λiv iv'=>iv'=iv) P f bx vx args res bx' vx'
def Ep:List (Nat×Nat)→St→St
 |[],st=>st
 |(t,n)::ts,st=>(Ep ts st).put t (.vec n)
theorem BW {st cM:St} {w w':World} {p p':Pl} (R:Rel K st a w p):∀(ts:List (Nat×Nat)),Rel K cM a w' p'→cM.nt=st.nt→(∀q∈ts,st.look q.1=.vec q.2∧p'.lv q.2∧p'.rw q.2=p.rw q.2)→Rel K (Ep ts cM) a w' p'∧(Ep ts cM).nt=st.nt
 |[],R',zX,_=>⟨R',zX⟩
 |(t,n)::ts,R',zX,h=>by
  obtain⟨R2,h2⟩:=BW R ts R' zX (λq hq=>h q (by simp[hq]));obtain⟨h1,h3,h4⟩:=h (t,n) (by simp);refine⟨?_,h2⟩;cases hg:get st.env t with
  |none=>simp[St.look,hg] at h1
  |some x=>
   simp only[St.look,hg,cg] at h1;subst h1;have hv:=R.env t _ hg;generalize hu:a.tmps.getD t undef=u at hv;cases hv;have tV:RA w' (dx K w' p') p' (.vec n) (a.tmps.getD t undef):=by rw[hu];exact RA.qS h3 h4
   exact {
    lb:=R2.lb,lv:=R2.lv,pj:=R2.pj,nt:=R2.nt,pK:=R2.pK,oB:=R2.oB,size:=R2.size,os:=R2.os,tape:=R2.tape,dr:=R2.dr,output:=R2.output,old:=R2.old,
    env:=λs y hs=>by
     have hs:(if t=s then some (AV.vec n) else get (Ep ts cM).env s)=some y:=hs;by_cases e:t=s
     ·rw[ai e] at hs;cases hs;subst e;exact tV
     ·rw[ah e] at hs;exact R2.env s y hs
    box:=R2.box,vec:=R2.vec,oF:=R2.oF,my:=R2.my,mX:=R2.mX }
theorem Sy {ops:Array Oper} {Q:Exit→St→Prop} {f:FuncId} {bx:List (List AV)} {vx:List VS} {fb:List AV} {res:AV} {bx':List (List AV)} {vx':List VS} {o:Oper} {c:Call} {y:Operand} {l:List Oper} {d:Nat} {st1:St} (ks σ τ:List Nat) (ts:List (Nat×Nat)) (F:FO P f bx vx fb res bx' vx') (ho:o.op=.call c) (hc:c.callee=.value y) (hd:o.dst=some d)
  (jz:∀(args:Array Value) (w:World),(callFunc f args).run P w=.ok (.enter f args) w)
  (tX:pW ops st o=some true∧d < st.nt∧σ.Nodup∧τ.Nodup∧(∃caps,ca st y=.fn f caps∧(c.args.toList.map (ca st)++caps).map (AV.view [] τ σ)=fb)∧lI st τ σ σ bx∧sQ st τ vx∧bx.length=bx'.length∧τ.length=vx'.length∧(∀q∈ts,st.look q.1=.vec q.2∧q.2∈τ))
  (hs:St.kp ks ((Ep ts (lX st σ τ τ bx' vx')).put d (res.back τ σ))=st1)
  (h:fc P K ops l st1 Q):fc P K ops (o::l) st Q:=by
 obtain⟨hg,nW,hσ,hτ,Uv,sX,MK,hl,S1,hts⟩:=tX;subst hs;have h:=lA (CG ks) h;intro a w p R;unfold wpList;rw[fH R hg,ai rfl];refine .inl ?_;unfold Oper.wp;obtain⟨caps,hf,eZ⟩:=Uv;obtain⟨cs,hy,V0,hh⟩:=yW R hf;rw[tw ho hc hy jz];show Calls P f (c.args.map a.eval++cs) w _;refine(Am F R (υ:=τ) ⟨hg,nW,hσ,hτ,hτ,⟨caps,hf,eZ⟩,sX,MK,hl,S1,λn hn=>.inl hn⟩ ⟨caps,V0,hh,eZ⟩).mono λe w' ⟨v,p',he,R',hv,iv',hG,hk,_⟩=>?_
 subst he;subst hG;obtain⟨R2,h2⟩:=BW R ts R' rfl (λq hq=>by
  obtain⟨g1,g2⟩:=hts q hq;obtain⟨i,hi⟩:=bJ.1 g2;obtain⟨k1,k2⟩:=hk i q.2 hi;rw[aA,hi] at k2;exact⟨g1,k1,by simpa using k2.symm⟩)
 show wpList P ops (FZ K Q) l (a.put o.dst v) w';rw[hd];exact h _ _ _ (R2.put hv (by rw[h2];exact nW))
def aeQ {α:Type} (f:α→List D):Option α→AV
 |none=>.d .ve
 |some x=>.cN (f x) 0
end
attribute [simp] Ep oA aeQ AV.kh AV.Fq St.kh
end Go.Vl
