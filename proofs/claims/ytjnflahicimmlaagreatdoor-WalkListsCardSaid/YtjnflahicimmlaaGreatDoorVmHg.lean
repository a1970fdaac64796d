/- The value logic: the world turns where nobody looks; what is hidden is kept. Conditions: none. -/
import Derived.Test.YtjnflahicimmlaaGreatDoorVmFr
import Derived.Test.YtjnflahicimmlaaGreatDoorVmHo
set_option linter.unusedSimpArgs false
set_option linter.unusedVariables false
namespace Go.Vl
open Go Go.RowKit
section
variable {P:Program} {K:Ctx P} {st:St} {a:Act} {w:World} {p:Pl}
end
end Go.Vl
namespace Go.Vl
open Go Go.RowKit
section
variable {P:Program} {K:Ctx P} {st:St} {a:Act} {w:World} {p:Pl}
structure yE (K:Ctx P) (g:Nat):Prop where
 lt:g < K.w0.heap.size
 ok:¬K.ok0 g
 iv:g∉K.qO
structure ur (K K':Ctx P):Prop where
 size:K.w0.heap.size≤K'.w0.heap.size
 rel:∀st a w p,Rel K' st a w p→Rel K st a w p
 ok:∀st a w p b,Rel K' st a w p→dx K' w p b→dx K w p b
theorem ur.refl (K:Ctx P):ur K K:=⟨aM _,λ_ _ _ _ h=>h,λ_ _ _ _ _ _ h=>h⟩
theorem yE.WX {g:Nat} (h:yE K g):¬dx K w p g:=λq=>by
 rcases q.2.1 with q |q |q
 ·exact h.ok q
 ·have:=h.lt;omega
 ·exact h.iv q
theorem yE.io (hK:K.lx=[]) {g:Nat} (h:yE K g):¬K.io g:=λq=>by
 rcases q with q |q
 ·rw[hK] at q;cases q
 ·exact h.iv q
theorem yE.heap (hK:K.lx=[]) {g:Nat} (h:yE K g) (R:Rel K st a w p):w.heap[g]? =K.w0.heap[g]? :=R.old g h.lt (h.io hK)
theorem yE.bx (hK:K.lx=[]) {g:Nat} (h:yE K g) (R:Rel K st a w p) {n:Nat} (hn:p.lb n):p.bx n≠g:=λe=>by
 obtain⟨cs,je⟩:=aY.1 ((R.vg n).1 hn);rcases(R.box n cs je).yc with q |q
 ·have:=h.lt;rw[e] at q;omega
 ·exact h.io hK (e▸q)
theorem yE.rw (hK:K.lx=[]) {g:Nat} (h:yE K g) (R:Rel K st a w p) {n:Nat} (hn:p.lv n):(p.rw n).fN≠some g:=λe=>by
 obtain⟨s,hs⟩:=aY.1 ((R.sT n).1 hn);rcases(R.vec n s hs).yc g e with q |q
 ·have:=h.lt;omega
 ·exact h.iv q
theorem yE.show {K K':Ctx P} (Qz:K'.lx=[]) {g:Nat} (h:yE K' g) (R:Rel K' st a w p) (ho:K.w0.heap.size≤g∨g∈K.qO):dx K w p g:=
 ⟨bu h.lt R.size,.inr ho,λ_ hn e=>h.bx Qz R hn e.symm,λ_ hn e=>h.rw Qz R hn e⟩
theorem Rel.Q1 (R:Rel K st a w p) (hK:K.lx=[]) {cM:St} (W:lZ st cM) {w2:World} (hs:w.heap.size≤w2.heap.size) (ho:w2.os=w.os∧w2.tape=w.tape∧w2.output=w.output)
  (h1:∀k,dx K w p k→w2.heap[k]? =w.heap[k]?) (h2:∀n,cM.lb n=true→w2.heap[p.bx n]? =w.heap[p.bx n]?) (h3:∀n g,cM.lv n=true→(p.rw n).fN=some g→w2.heap[g]? =w.heap[g]?) (hd:vV w≤vV w2)
  (K0:Ctx P) (hB:ur K0 K) (h5:∀k,k < K0.w0.heap.size→k∉K0.qO→w2.heap[k]? =w.heap[k]?) (Hy:K0.lx=[]) (h6:∀k,K.w0.heap.size≤k∨k∈K.qO→K0.w0.heap.size≤k∨k∈K0.qO):
  ∃(K':Ctx P) (p':Pl),K'.lx=[]∧K'.w0=w2∧Rel K' cM a w2 p'∧(∀b,dx K' w2 p' b↔dx K w p b)∧ur K0 K'∧(∀k,K'.w0.heap.size≤k∨k∈K'.qO→K0.w0.heap.size≤k∨k∈K0.qO)∧
   (∀g,yE K g→yE K' g)∧(∀g,w.heap.size≤g→g < w2.heap.size→yE K' g)∧(∀n g,st.lv n=true→cM.lv n=false→(p.rw n).fN=some g→yE K' g∧(K0.w0.heap.size≤g∨g∈K0.qO))∧(∀b,dx K w p b→b∉K'.qO):=by
 classical
 have R0:=hB.rel _ _ _ _ R;have hb:∀n,cM.lb n=true→p.lb n:=λn hn=>by
  obtain⟨cs',Cl⟩:=aY.1 hn;obtain⟨cs,je,_⟩:=mQ W.box Cl;exact(R.vg n).2 (by simp[St.lb,je])
 have hv:∀n,cM.lv n=true→p.lv n:=λn hn=>by
  obtain⟨s,hs⟩:=aY.1 hn;exact(R.sT n).2 (by simp[St.lv,mP W.vec hs])
 let L:=(List.range w.heap.size).filter λb=>decide ((∃n,cM.lb n=true∧p.bx n=b)∨(∃n,cM.lv n=true∧(p.rw n).fN=some b))
 have zf:∀b,b∈L↔b < w.heap.size∧((∃n,cM.lb n=true∧p.bx n=b)∨(∃n,cM.lv n=true∧(p.rw n).fN=some b)):=λb=>by
  simp only[L,bP,fj,bg]
 have acZ:∀b,b∈L→¬dx K w p b:=λb hbL q=>by
  rcases((zf b).1 hbL).2 with ⟨n,hn,e⟩ |⟨n,hn,e⟩
  ·exact q.2.2.1 n (hb n hn) e.symm
  ·exact q.2.2.2 n (hv n hn) e
 have sW:∀q:Addr,dx K w p q.block→si w2 q=si w q:=λq hq=>cT (h1 _ hq)
 let K':Ctx P:=⟨w2,dx K w p,[],L,λb i x h=>by
  obtain⟨g1,g2,g3⟩:=R.KR b i x h;refine⟨⟨bu g1.1 hs,g1,by simp,λhm=>acZ b hm g1⟩,?_,?_⟩
  ·rw[← g2];exact gF (h1 b g1)
  ·rw[← g3];exact gF (h1 b g1)⟩
 let p':Pl:=⟨p.bx,p.rw,λn=>cM.lb n=true,λn=>cM.lv n=true⟩
 have hL1:∀b,b∈L→K.w0.heap.size≤b∨b∈K.qO:=λb pS=>by
  obtain⟨_,⟨n,hn,e⟩ |⟨n,hn,e⟩⟩:=(zf b).1 pS
  ·obtain⟨cs,je⟩:=aY.1 ((R.vg n).1 (hb n hn))
   rcases(R.box n cs je).yc with h |h
   ·exact .inl (e▸h)
   ·rcases h with h |h
    ·rw[hK] at h;cases h
    ·exact .inr (e▸h)
  ·exact(R.yI (hv n hn) e).1
 have hL:∀b,b∈L→K0.w0.heap.size≤b∨b∈K0.qO:=λb pS=>h6 b (hL1 b pS)
 have gD:∀b,dx K w p b→dx K' w2 p' b:=λb h=>⟨bu h.1 hs,.inl h,λn hn=>h.2.2.1 n (hb n hn),λn hn=>h.2.2.2 n (hv n hn)⟩
 have hko:∀b,dx K' w2 p' b→dx K w p b:=λb h=>by
  rcases h.2.1 with g |g |g
  ·exact g
  ·have:=h.1;have:w2.heap.size≤b:=g;omega
  ·obtain⟨g1,g2⟩:=(zf b).1 g
   rcases g2 with ⟨n,hn,e⟩ |⟨n,hn,e⟩
   ·exact absurd e.symm (h.2.2.1 n hn)
   ·exact absurd e (h.2.2.2 n hn)
 have tV:∀{x:AV} {v:Value},RA w (dx K w p) p x v→x.wf cM.lb cM.lv=true→RA w2 (dx K' w2 p') p' x v:=λh hx=>RA.less (p:=p) (p':=p') sW gD (λn hn _=>⟨hn,rfl⟩) (λn hn _=>⟨hn,rfl⟩) h hx
 have rD:∀{x:D} {v:Value},RD w (dx K w p) x v→RD w2 (dx K' w2 p') x v:=λh=>h.mono sW gD
 refine⟨K',p',rfl,rfl,?_,λk=>⟨hko k,gD k⟩,?_,λk hk=>?_,λg hg=>?_,λg g1 g2=>?_,λn g hn qI hg=>⟨⟨bu (R.yI ((R.sT n).2 hn) hg).2 hs,λq=>q.2.2.2 n ((R.sT n).2 hn) hg,λq=>?_⟩,h6 g (R.yI ((R.sT n).2 hn) hg).1⟩,λb hb q=>acZ b q hb⟩
 ·exact {
   lb:=rfl,lv:=rfl,pj:=R.pj,nt:=R.nt.trans W.nt.symm,pK:=by rw[W.nt];exact R.pK
   oB:=λi h=>by have:=R.oB i (hb _ h);rw[hK] at this;simp at this
   size:=aM _,os:=rfl,tape:=rfl,dr:=aM _,output:=rfl,old:=λ_ _ _=>rfl
   env:=λt y h=>by
    rcases Cc W.env h with rfl |⟨h1,hw⟩
    ·exact .undef
    have hx:RA w (dx K w p) p (st.look t) (a.tmps.getD t undef):=R.ca (.tmp t);rcases h1 with rfl |h1 |⟨h1,rfl⟩ |⟨r,h1,rfl⟩
    ·exact .undef
    ·subst h1;exact tV hx hw
    ·rw[h1] at hx
     generalize a.tmps.getD t undef=v at hx ⊢;cases hx with |dK=>exact .d .pQ
    ·rw[h1] at hx
     generalize a.tmps.getD t undef=v at hx ⊢;cases hx with |full h=>exact .d (rD h)
   box:=λn cs' h=>by
    obtain⟨cs,je,hle⟩:=mQ W.box h;obtain⟨q1,q2⟩:=yh hle;obtain⟨⟨vs,ty,g1,g2,g3,g4⟩,_⟩:=R.box n cs je;have hn:cM.lb n=true:=by simp[St.lb,h]
    refine⟨⟨vs,ty,(h2 n hn).trans g1,by rw[g2,q1],λi c v hc hv=>?_,g4⟩,.inr (.inr ((zf _).2 ⟨R.blt (hb n hn),.inl ⟨n,hn,rfl⟩⟩))⟩;rcases q2 i c hc with rfl |⟨wP,hw⟩
    ·exact .undef
    ·exact tV (g3 i c v wP hv) hw
   vec:=λn s h=>by
    obtain⟨g1,g2,_⟩:=R.vec n s (mP W.vec h);have hn:cM.lv n=true:=by simp[St.lv,h]
    exact⟨g1.mono sW gD (λg hg=>h3 n g hn hg),g2,λg hg=>.inr ((zf _).2 ⟨(R.yI (hv n hn) hg).2,.inr ⟨n,hn,hg⟩⟩)⟩
   oF:=λn m hn hm=>R.oF n m (hb n hn) (hb m hm)
   my:=λn m hn hm=>R.my n m (hb n hn) (hv m hm)
   mX:=λn m hn hm=>R.mX n m (hv n hn) (hv m hm)}
 ·have KE:K0.w0.heap.size≤w2.heap.size:=bO R0.size hs
  have vS:∀(w':World) (p'':Pl) b,w2.heap.size≤w'.heap.size→dx K' w' p'' b→dx K0 w' p'' b:=λw' p'' b gS h=>⟨h.1,by
   rcases h.2.1 with g1 |g1 |g1
   ·exact(hB.ok _ _ _ _ b R g1).2.1
   ·exact .inr (.inl (bO KE g1))
   ·rcases hL b g1 with g2 |g2
    ·exact .inr (.inl g2)
    ·exact .inr (.inr g2),h.2.2.1,h.2.2.2⟩
  have hrel:∀cM a' w' p',Rel K' cM a' w' p'→Rel K0 cM a' w' p':=λcM a' w' p' R'=>by
   have ym:∀b,b < w2.heap.size→b∉L→w'.heap[b]? =w2.heap[b]? :=λb hb hl=>R'.old b hb λh=>by
    rcases h with h |h
    ·cases h
    ·exact hl h
   have vS:=λb=>vS w' p' b R'.size
   exact {
    lb:=R'.lb,lv:=R'.lv,pj:=R'.pj,nt:=R'.nt,pK:=R'.pK
    oB:=λi h=>by have:=R'.oB i h;simp[K'] at this
    size:=bO KE R'.size,os:=R'.os.trans (ho.1.trans R0.os),tape:=R'.tape.trans (ho.2.1.trans R0.tape),dr:=bO R0.dr (bO hd R'.dr),output:=R'.output.trans (ho.2.2.trans R0.output)
    old:=λb hb xg=>by
     have hl:b∉L:=λh=>by
      rcases hL b h with g |g
      ·omega
      ·exact xg (.inr g)
     exact(ym b (bu hb KE) hl).trans ((h5 b hb λh=>xg (.inr h)).trans (R0.old b hb xg))
    env:=λt x hx=>(R'.env t x hx).mono (λ_ _=>rfl) vS (λ_ h=>⟨h,rfl⟩) (λ_ h=>⟨h,rfl⟩)
    box:=λn cs je=>by
     obtain⟨⟨vs,ty,g1,g2,g3,g4⟩,hm⟩:=R'.box n cs je;refine⟨⟨vs,ty,g1,g2,λi c v hc hv=>(g3 i c v hc hv).mono (λ_ _=>rfl) vS (λ_ h=>⟨h,rfl⟩) (λ_ h=>⟨h,rfl⟩),g4⟩,?_⟩;rcases hm with hm |hm |hm
     ·exact .inl (bO KE hm)
     ·cases hm
     ·rcases hL _ hm with h5 |h5
      ·exact .inl h5
      ·exact .inr (.inr h5)
    vec:=λn s VJ=>by
     obtain⟨g1,g2,g3⟩:=R'.vec n s VJ;refine⟨g1.mono (λ_ _=>rfl) vS (λ_ _=>rfl),g2,λg hg=>?_⟩;rcases g3 g hg with h5 |h5
     ·exact .inl (bO KE h5)
     ·exact hL g h5
    oF:=R'.oF,my:=R'.my,mX:=R'.mX }
  exact⟨KE,hrel,λcM a' w' p'' b R' h=>vS w' p'' b R'.size h⟩
 ·rcases hk with hk |hk
  ·exact .inl (bO (bO R0.size hs) hk)
  ·exact hL k hk
 ·refine⟨bu hg.lt (bO R.size hs),hg.WX,λq=>?_⟩
  rcases((zf g).1 q).2 with ⟨n,hn,e⟩ |⟨n,hn,e⟩
  ·exact hg.bx hK R (hb n hn) e
  ·exact hg.rw hK R (hv n hn) e
 ·refine⟨g2,λq=>by have:=q.1;omega,λq=>by have:=((zf g).1 q).1;omega⟩
 ·rcases((zf g).1 q).2 with ⟨m,hm,e⟩ |⟨m,hm,e⟩
  ·exact R.my m n (hb m hm) ((R.sT n).2 hn) (e▸hg)
  ·by_cases Hu:m=n
   ·subst Hu;rw[qI] at hm;cases hm
   ·rcases R.mX m n (hv m hm) ((R.sT n).2 hn) Hu with h |h
    ·rw[h] at e;cases e
    ·exact h (e.trans hg.symm)
end
def qC:D→Prop
 | .int _ _=>True
 | .bool _=>True
 | .str _=>True
 |_=>False
theorem qC.rd {w w':World} {ok nf:Nat→Prop} {d:D} {v:Value} (h:qC d) (hr:RD w ok d v):RD w' nf d v:=by
 cases hr with
 |int=>exact .int
 |bool=>exact .bool
 |str=>exact .str
 |ve=>exact h.elim
 |pQ=>exact h.elim
 |slice=>exact h.elim
 |mp=>exact h.elim
section
variable {P:Program} {α:Type}
structure Qq (w:World) (hid:Nat→Prop) (kd:IntKind) (f:α→List D) (e:TypeId) (z:Nat) (q:Int×List α) (en:MapEntry):Prop where
 key:en.key=.int kd q.1
 own:∃xv,w.ownsRow 0 e z en.val q.2.length xv∧∀(i:Nat) (d:D) (v:Value),(ak f q.2).flatten[i]? =some d→xv[i]? =some v→RD w (λ_=>False) d v
 hid:∀g,en.val.fN=some g→hid g
structure yF (w:World) (hid:Nat→Prop) (kd:IntKind) (f:α→List D) (e:TypeId) (z:Nat) (b:Nat) (L:List (Int×List α)) (es:Array MapEntry) (clock:Nat):Prop where
 Gr:hid b
 map:w.heap[b]? =some (.map es clock)
 size:es.size=L.length
 Zu:∀(j:Nat) (q:Int×List α) (en:MapEntry),L[j]? =some q→es[j]? =some en→Qq w hid kd f e z q en
 apart:∀(i j:Nat) (en DB:MapEntry) (g:Nat),es[i]? =some en→es[j]? =some DB→en.val.fN=some g→DB.val.fN=some g→i=j
 born:∀en∈es.toList,en.born < clock
 nodup:(es.toList.map (·.born)).Nodup
variable {w w':World} {hid DA:Nat→Prop} {kd:IntKind} {f:α→List D} {e:TypeId} {z:Nat} {b:Nat} {L:List (Int×List α)} {es:Array MapEntry} {clock:Nat}
theorem Qq.mono {q:Int×List α} {en:MapEntry} (h:Qq w hid kd f e z q en) (hh:∀g,en.val.fN=some g→hid g→DA g) (hw:∀g,en.val.fN=some g→w'.heap[g]? =w.heap[g]?):Qq w' DA kd f e z q en:=by
 obtain⟨xv,h1,h2⟩:=h.own;exact⟨h.key,⟨xv,lg h1 hw,λi d v h3 h4=>(h2 i d v h3 h4).mono (λ_ h=>h.elim) (λ_ h=>h.elim)⟩,λg hg=>hh g hg (h.hid g hg)⟩
theorem yF.mono (h:yF w hid kd f e z b L es clock) (hh:∀g,hid g→DA g) (hw:∀g,hid g→w'.heap[g]? =w.heap[g]?):yF w' DA kd f e z b L es clock:=
 ⟨hh _ h.Gr,(hw _ h.Gr).trans h.map,h.size,λj q en h1 h2=>(h.Zu j q en h1 h2).mono (λg _=>hh g) λg hg=>hw g ((h.Zu j q en h1 h2).hid g hg),h.apart,h.born,h.nodup⟩
theorem yF.Vy (h:yF w hid kd f e z b L es clock) {ok:Nat→Prop} {t n:Nat} (hf:∀x,(f x).length=z) (ho:∀g,hid g→ok g):jd w ok ⟨bL t 1 false false,n,ak (bB (aH kd) λl=>[.slice (ak f l)]) L⟩ es clock:=by
 refine⟨by rw[h.size];simp[ak],λj row en h1 h2=>?_,h.born,h.nodup⟩;obtain⟨q,hq,rfl⟩:∃q,L[j]? =some q∧bB (aH kd) (λl=>[.slice (ak f l)]) q=row:=by
  simpa[ak] using h1
 have qw:=h.Zu j q en hq h2;rw[uX,zG,sy _ (by decide)];obtain⟨xv,o1,o2⟩:=qw.own;refine⟨?_,?_⟩
 ·unfold fg
  rw[ah (by decide)];exact⟨.int kd q.1,rfl,by rw[qw.key];exact .int⟩
 ·unfold fg
  rw[ah (by decide)];refine⟨.slice (ak f q.2),rfl,?_⟩;have hl:(ak f q.2).length=q.2.length:=by simp[ak]
  rw[← hl] at o1;exact EE o1 (λr hr=>by
   unfold ak at hr;obtain⟨x,_,rfl⟩:=aG.1 hr;exact hf x) (λi d v h3 h4=>o2 i d v h3 h4) (λ_ h=>h.elim) (λg hg=>ho g (qw.hid g hg))
def Pb (es:Array MapEntry) (clock:Nat) (kd:IntKind) (k:Int) (v:Value) (q:Option (Nat×List α)):Obj:=match q with
 |none=>.map (es.push { key:=.int kd k,val:=v,born:=clock }) (clock+1)
 |some q=>.map (es.modify q.1 λe=>{ e with key:=.int kd k,val:=v }) clock
theorem yF.find (h:yF w hid kd f e z b L es clock) {t kt et:TypeId} (hu:P.underlying t=some (.map kt et)) (hk:P.underlying kt=some (.int kd)) (hz:∀w,(zeroValue et).run P w=.ok (.slice none 0 0) w) (k:Int):
  ∃v,(Instr.lookup t (.map (some b)) (.int kd k) false).run P w=.ok v w∧
   ((eJ cK k L=none∧v=.slice none 0 0)∨∃j l en,eJ cK k L=some (j,l)∧es[j]? =some en∧v=en.val)∧
   ∀(w2:World) (v2:Value),w2.heap[b]? =some (.map es clock)→(Instr.mapUpdate t (.map (some b)) (.int kd k) v2).run P w2=.ok () { w2 with heap:=w2.heap.setIfInBounds b (Pb es clock kd k v2 (eJ cK k L))}:=by
 have sC:=A7 (P:=P) hk k;have tV:∀w:World,RA w (λ_=>False) ⟨λ_=>0,λ_=>undef,λ_=>False,λ_=>False⟩ (.d (.int kd k)) (.int kd k):=λw=>.d .int
 have hlen:es.toList.length=(ak (bB (aH kd) λl:List α=>[.slice (ak f l)]) L).length:=by simp[ak,h.size]
 have iE:∀(w:World) (j:Nat) (row:List D) (en:MapEntry),(ak (bB (aH kd) λl:List α=>[.slice (ak f l)]) L)[j]? =some row→es.toList[j]? =some en→fg w (λ_=>False) false (row.take 1) en.key:=λw j row en h1 h2=>by
  obtain⟨q,hq,rfl⟩:∃q,L[j]? =some q∧bB (aH kd) (λl=>[.slice (ak f l)]) q=row:=by simpa[ak] using h1
  have qw:=h.Zu j q en hq (by rw[← bo];exact h2);unfold fg;rw[ah (by decide)];exact⟨.int kd q.1,rfl,by rw[qw.key];exact .int⟩
 have tv:=λ(w:World) e=>mj (w:=w) sC (tV w) e
 have hf:=yV (P:=P) (g:=λl:List α=>[.slice (ak f l)]) hk k L;cases hm:eJ cK k L with
 |none=>
  rw[hm] at hf;have hfk:∀w:World,(Instr.findKey kt (.int kd k) es.toList).run P w=.ok none w:=λw=>by
   obtain⟨r,f1,f2⟩:=lk sC (tV w) hlen (iE w) hf;rw[show r=none from f2] at f1;exact f1
  refine⟨_,?_,.inl ⟨rfl,rfl⟩,λw2 v2 hb=>?_⟩
  ·simp[Instr.lookup,aJ hu,Result.andThen,cI h.map,tv,hfk,hz]
  ·simp[Pb,Instr.mapUpdate,aJ hu,Result.andThen,cI hb,tv,hfk,gQ _ hb]
 |some q=>
  rw[hm] at hf;obtain⟨j,l⟩:=q;have hfk:∀w:World,∃en,es.toList[j]? =some en∧(Instr.findKey kt (.int kd k) es.toList).run P w=.ok (some (j,en.val)) w∧Instr.sameBits 10000 en.key (.int kd k)=true:=λw=>by
   obtain⟨r,f1,f2⟩:=lk sC (tV w) hlen (iE w) hf;obtain⟨en,row,g1,g2,g3,g4,g5⟩:=f2;subst g5;rw[gg] at f1;exact⟨en,g1,f1,EX sC g4 (tV w) (iE w _ _ _ g2 g1)⟩
  obtain⟨en,g1,g2,g3⟩:=hfk w;refine⟨en.val,?_,.inr ⟨j,l,en,rfl,by rw[← bo];exact g1,rfl⟩,λw2 v2 hb=>?_⟩
  ·simp[Instr.lookup,aJ hu,Result.andThen,cI h.map,tv,g2]
  ·obtain⟨DB,PS,g2',g3'⟩:=hfk w2
   have e0:DB=en:=by rw[g1] at PS;exact(af PS).symm
   subst e0;have ga:es[j]? =some DB:=by rw[← bo];exact g1
   simp[Pb,Instr.mapUpdate,aJ hu,Result.andThen,cI hb,tv,g2',gQ _ hb,Instr.keyThatStays,ga,g3]
end
end Go.Vl
namespace Go.Vl
open Go Go.RowKit
section
variable {P:Program} {α:Type} {K K0:Ctx P} {st:St} {a:Act} {w:World} {p:Pl} {kd:IntKind} {f:α→List D} {e:TypeId} {z:Nat} {b:Nat} {L:List (Int×List α)} {es:Array MapEntry} {clock:Nat}
def mY (K0 K:Ctx P) (g:Nat):Prop:=yE K g∧(K0.w0.heap.size≤g∨g∈K0.qO)
theorem B' {ν:Type} (k:Int):∀(l:List (Int×ν)) (j:Nat) (v:ν),eJ cK k l=some (j,v)→l[j]? =some (k,v)
 |[],j,v,h=>by simp[eJ] at h
 |x::l,j,v,h=>by
  simp only[eJ] at h;split at h
  ·rename_i e
   cases h;have:k=x.1:=by simpa[cK] using e
   subst this;rfl
  ·cases hm:eJ cK k l with
   |none=>simp[hm] at h
   |some q=>
    simp only[hm,cr,ba,jx] at h;obtain⟨rfl,rfl⟩:=h;simpa using B' k l q.1 q.2 hm
theorem yF.step (R:Rel K st a w p) (hK:K.lx=[]) (Hy:K0.lx=[]) (hB:ur K0 K) (h6:∀k,K.w0.heap.size≤k∨k∈K.qO→K0.w0.heap.size≤k∨k∈K0.qO) (H:yF w (mY K0 K) kd f e z b L es clock)
  {t kt et:TypeId} (hu:P.underlying t=some (.map kt et)) (hk:P.underlying kt=some (.int kd)) (hz:∀w,(zeroValue et).run P w=.ok (.slice none 0 0) w) {ts:TypeId} (YY:P.underlying ts=some (.slice e)) {zs:List AV} (Aw:fZ P e=some zs) (BF:zs.length=z) (rW:0 < z)
  (Fh:wV P e=true) (tW:∀x,∀d∈f x,qC d) (Uu:∀x,(f x).length=z) (k:Int) {v:Value} (hv:(eJ cK k L=none∧v=.slice none 0 0)∨∃j l en,eJ cK k L=some (j,l)∧es[j]? =some en∧v=en.val)
  {y:AV} {u:Value} {x:α} (hy:rowsOf st y=some [f x]) (PC:RA w (dx K w p) p y u) (gS:∀l,br cK L k=some l→l.length+1≤268435456) (ty:TypeId):
  ∃v' w1,(Builtin.append_ #[ts,ts] ty #[v,u]).run P w=.ok v' w1∧(∀g,dx K w p g→w1.heap[g]? =w.heap[g]?)∧∃w2,(Instr.mapUpdate t (.map (some b)) (.int kd k) v').run P w1=.ok () w2∧(∀g,dx K w p g→w2.heap[g]? =w.heap[g]?)∧
   ∀st1 a1 cM,Rel K st1 a1 w p→lZ st1 cM→∃K' p' es' Al,K'.lx=[]∧K'.w0=w2∧Rel K' cM a1 w2 p'∧ur K0 K'∧(∀k,K'.w0.heap.size≤k∨k∈K'.qO→K0.w0.heap.size≤k∨k∈K0.qO)∧
    yF w2 (mY K0 K') kd f e z b (eD cK L k ((br cK L k).getD []++[x])) es' Al:=by
 subst BF;have hmb:=H.map
 -- WI row
 obtain⟨l0,KK,ach,hvb⟩:∃l0,(br cK L k).getD []=l0∧(∃xv,w.ownsRow 0 e zs.length v (ak f l0).length xv∧∀(i:Nat) (d:D) (v:Value),(ak f l0).flatten[i]? =some d→xv[i]? =some v→RD w (λ_=>False) d v)∧∀g,v.fN=some g→mY K0 K g:=by
  rcases hv with ⟨h1,rfl⟩ |⟨j,l,en,h1,h2,rfl⟩
  ·exact⟨[],by simp[br,h1],⟨[],mT w _ _ _,λi d v h=>by simp[ak] at h⟩,λg hg=>by cases hg⟩
  ·have qw:=H.Zu j _ en (B' k L j l h1) h2
   exact⟨l,by simp[br,h1],by simpa[ak] using qw.own,qw.hid⟩
 have vi:(ak f l0).length+[f x].length≤268435456:=by
  have:l0.length+1≤268435456:=by
   rcases hv with ⟨h1,rfl⟩ |⟨j,l,en,h1,h2,rfl⟩
   ·have:l0=[]:=by rw[← KK];simp[br,h1]
    subst this;simp
   ·have hg:br cK L k=some l:=by simp[br,h1]
    have:=gS l hg;rw[hg] at KK;simp at KK;subst KK;exact this
  simpa[ak] using this
 obtain⟨xv,eC,Du⟩:=ach;obtain⟨v',w1,Jr,gT,nS,hg,hblk,SG⟩:=zb (ty:=ty) YY Aw rW Fh R eC hy PC (by simpa using Uu x) vi (λr hr=>by
  unfold ak at hr;obtain⟨y,_,rfl⟩:=aG.1 hr;exact Uu y) (λi d v h1 h2=>(Du i d v h1 h2).mono (λ_ h=>h.elim) (λ_ h=>h.elim))
 have Tc:∀(i:Nat) (d:D),(ak f (l0++[x])).flatten[i]? =some d→qC d:=λi d hd=>by
  obtain⟨r,hr,hd⟩:=uv.1 (bm hd);unfold ak at hr;obtain⟨y,_,rfl⟩:=aG.1 hr;exact tW y d hd
 have yn:ak f l0++[f x]=ak f (l0++[x]):=by simp[ak]
 rw[yn] at nS SG;have CZ:(ak f (l0++[x])).length=(l0++[x]).length:=by simp[ak]
 rw[CZ] at nS
 -- aaI is aeF
 have hbv:v.fN≠some b:=λe=>by
  rcases eC.2 with ⟨h0,_⟩ |⟨g,cap,cur,h0,_,h1,_⟩
  ·rw[h0] at e;cases e
  ·rw[h0] at e
   have:g=b:=af e;rw[this,hmb] at h1;cases h1
 have uP:w1.heap[b]? =some (.map es clock):=(hg.block b (bu H.Gr.1.lt R.size) (λe=>hbv e.symm)).trans hmb;obtain⟨v0,Y8,_,hup⟩:=H.find hu hk hz k;have hup:=hup w1 v' uP;have VP:∀g,g < w.heap.size→v.fN≠some g→w1.heap[g]? =w.heap[g]? :=λg h1 h2=>hg.block g h1 (λe=>h2 e.symm)
 refine⟨v',w1,gT,λg gD=>VP g gD.1 (λe=>(hvb g e).1.WX gD),?_⟩;generalize Dw:Pb es clock kd k v' (eJ cK k L)=oo at hup;have Bd:∀g,g≠b→({ w1 with heap:=w1.heap.setIfInBounds b oo }:World).heap[g]? =w1.heap[g]? :=λg LJ=>by
  simp[gu (eN LJ)]
 have hbs:b < w1.heap.size:=(aL.1 uP).1;have pO:({ w1 with heap:=w1.heap.setIfInBounds b oo }:World).heap[b]? =some oo:=by simp[hbs]
 have hs2:({ w1 with heap:=w1.heap.setIfInBounds b oo }:World).heap.size=w1.heap.size:=by simp
 have FW:({ w1 with heap:=w1.heap.setIfInBounds b oo }:World).os=w.os∧({ w1 with heap:=w1.heap.setIfInBounds b oo }:World).tape=w.tape∧({ w1 with heap:=w1.heap.setIfInBounds b oo }:World).output=w.output:=⟨hg.os,hg.tape,hg.output⟩;generalize ({ w1 with heap:=w1.heap.setIfInBounds b oo }:World)=w2 at *;have iA:∀g,g < w.heap.size→v.fN≠some g→g≠b→w2.heap[g]? =w.heap[g]? :=λg h1 h2 h3=>(Bd g h3).trans (VP g h1 h2)
 have SQ:∀g,dx K w p g→w2.heap[g]? =w.heap[g]? :=λg gD=>iA g gD.1 (λe=>(hvb g e).1.WX gD) (λe=>by subst e;exact H.Gr.1.WX gD)
 refine⟨w2,hup,SQ,λst1 a1 cM R1 W=>?_⟩;have sX:∀n,cM.lb n=true→p.lb n:=λn hn=>by
  obtain⟨cs',Cl⟩:=aY.1 hn;obtain⟨cs,je,_⟩:=mQ W.box Cl;exact(R1.vg n).2 (by simp[St.lb,je])
 have MK:∀n,cM.lv n=true→p.lv n:=λn hn=>by
  obtain⟨s,hs⟩:=aY.1 hn;exact(R1.sT n).2 (by simp[St.lv,mP W.vec hs])
 have R0:=hB.rel _ _ _ _ R;obtain⟨K',p',t1,t2,t3,t4,t5,t6,t7,t8,_,_⟩:=R1.Q1 hK W (w2:=w2) (by rw[hs2];exact hg.size) FW SQ
  (λn hn=>iA _ (R1.blt (sX n hn)) (λe=>(hvb _ e).1.bx hK R1 (sX n hn) rfl) (λe=>H.Gr.1.bx hK R1 (sX n hn) e))
  (λn g hn hg=>iA g (R1.yI (MK n hn) hg).2 (λe=>(hvb _ e).1.rw hK R1 (MK n hn) hg) (λe=>by subst e;exact H.Gr.1.rw hK R1 (MK n hn) hg))
  (aM _) K0 hB (λk h1 h2=>iA k (bu h1 R0.size) (λe=>by rcases(hvb k e).2 with h |h;omega;exact h2 h) (λe=>by subst e;rcases H.Gr.2 with h |h;omega;exact h2 h)) Hy h6
 have VQ:∀g,mY K0 K g→mY K0 K' g:=λg h=>⟨t7 g h.1,h.2⟩
 have PH:mY K0 K' w.heap.size∨v'.fN≠some w.heap.size:=by
  by_cases he:v'.fN=some w.heap.size
  ·refine .inl ⟨t8 _ (aM _) ?_,.inl R0.size⟩
   rw[hs2];rcases nS.2 with ⟨h0,_⟩ |⟨g,cap,cur,h0,_,h1,_⟩
   ·rw[h0] at he;cases he
   ·rw[h0] at he
    have:g=w.heap.size:=af he;rw[this] at h1;exact(aL.1 h1).1
  ·exact .inr he
 have aft:∀g,v'.fN=some g→mY K0 K' g:=λg Gs=>by
  rcases hblk with h |h
  ·exact VQ g (hvb g (h▸Gs))
  ·rcases PH with h2 |h2
   ·rw[h] at Gs;cases Gs;exact h2
   ·exact absurd h h2
 have afu:v'.fN≠some b:=λe=>by
  rcases nS.2 with ⟨h0,_⟩ |⟨g,cap,cur,h0,_,h1,_⟩
  ·rw[h0] at e;cases e
  ·rw[h0] at e
   have:g=b:=af e;rw[this,uP] at h1;cases h1
 have Xm:∀c,Qq w2 (mY K0 K') kd f e zs.length (k,l0++[x]) { key:=.int kd k,val:=v',born:=c }:=λc=>
  ⟨rfl,⟨Jr,lg nS λg hg=>Bd g (λe=>by subst e;exact afu hg),λi d v h1 h2=>(Tc i d h1).rd (SG i d v h1 h2)⟩,aft⟩
 have Xk:∀(q:Int×List α) (en:MapEntry) (i:Nat),L[i]? =some q→es[i]? =some en→(∀g,en.val.fN=some g→v.fN≠some g)→Qq w2 (mY K0 K') kd f e zs.length q en:=λq en i h1 h2 h3=>by
  have qw:=H.Zu i q en h1 h2;refine qw.mono (λg _=>VQ g) λg hg=>?_
  refine iA g (bu (qw.hid g hg).1.lt R.size) (h3 g hg) λe=>?_
  subst e;obtain⟨xw,o1,_⟩:=qw.own;rcases o1.2 with ⟨h0,_⟩ |⟨g',cap,cur,h0,_,h1,_⟩
  ·rw[h0] at hg;cases hg
  ·rw[h0] at hg
   have:g'=g:=af hg;rw[this,hmb] at h1;cases h1
 have Ob:∀(i:Nat) (en:MapEntry) (g:Nat),es[i]? =some en→en.val.fN=some g→v'.fN=some g→v.fN=some g:=λi en g h1 h2 h3=>by
  rcases hblk with h |h
  ·rw[← h];exact h3
  ·rw[h] at h3
   have hi:i < L.length:=by rw[← H.size];exact(aL.1 h1).1
   have:=((H.Zu i _ en (ae hi) h1).hid g h2).1.lt;have:=R.size;have:w.heap.size=g:=by simpa using h3
   omega
 rw[KK];rcases hv with ⟨h1,h2⟩ |⟨j,l,en,h1,h2,h3⟩
 ·rw[h1] at Dw
  unfold Pb at Dw;simp only at Dw;subst Dw;have hvn:v.fN=none:=by rw[h2];rfl
  have hms:eD cK L k (l0++[x])=L++[(k,l0++[x])]:=by unfold eD;rw[h1]
  rw[hms];refine⟨K',p',_,_,t1,t2,t3,t5,t6,VQ _ H.Gr,pO,by simp[H.size],λi q DB g1 g2=>?_,λi j en1 en2 g g1 g2 g3 g4=>?_,λDB qw=>?_,?_⟩
  ·rw[Array.getElem?_push] at g2
   rw[cX] at g1;split at g1
   ·rename_i iN
    rw[ah (by rw[H.size];omega)] at g2;exact Xk q DB i g1 g2 (λg _=>by rw[hvn];simp)
   ·rename_i iN
    have hi:i=L.length:=by
     have:=(aj.1 g1).1;simp at this;omega
    subst hi;rw[ai H.size.symm] at g2;simp at g1 g2;subst g1;subst g2;exact Xm clock
  ·rw[Array.getElem?_push] at g1 g2
   split at g1 <;> split at g2
   ·omega
   ·rename_i h5 h6;cases g1;have:=Ob _ _ g g2 g4 g3;rw[hvn] at this;cases this
   ·rename_i h5 h6;cases g2;have:=Ob _ _ g g1 g3 g4;rw[hvn] at this;cases this
   ·exact H.apart i j en1 en2 g g1 g2 g3 g4
  ·simp only[Array.toList_push,aQ,aD] at qw
   rcases qw with qw |rfl
   ·exact Nat.lt_succ_of_lt (H.born DB qw)
   ·exact Nat.lt_succ_self _
  ·simp only[Array.toList_push,bV,aW,cO]
   refine dh.2 ⟨H.nodup,by simp,?_⟩;intro a ha b hb;simp only[aD] at hb;subst hb;obtain⟨x,hx,rfl⟩:=aG.1 ha;exact Nat.ne_of_lt (H.born x hx)
 ·rw[h1] at Dw
  unfold Pb at Dw;simp only at Dw;subst Dw;have hms:eD cK L k (l0++[x])=L.set j (k,l0++[x]):=by unfold eD;rw[h1]
  rw[hms];have wj:j < L.length:=(aj.1 (B' k L j l h1)).1;have pN:(es.modify j λe=>{ e with key:=.int kd k,val:=v' }).toList.map (·.born)=es.toList.map (·.born):=by
   apply eH;intro i;simp only[aA,bo,dJ];by_cases rY:j=i
   ·subst rY
    rw[ai rfl,h2];rfl
   ·rw[ah rY]
  refine⟨K',p',_,_,t1,t2,t3,t5,t6,VQ _ H.Gr,pO,by simp[H.size],λi q DB g1 g2=>?_,λi i' en1 en2 g g1 g2 g3 g4=>?_,λDB qw=>?_,by rw[pN];exact H.nodup⟩
  ·rw[dJ] at g2
   rw[iV] at g1;by_cases rY:j=i
   ·subst rY
    rw[ai rfl,ai wj] at g1;rw[ai rfl,h2] at g2;simp at g1 g2;subst g1;subst g2;exact Xm en.born
   ·rw[ah rY] at g1 g2
    refine Xk q DB i g1 g2 λg hg KC=>?_
    rw[h3] at KC;exact rY (H.apart j i en DB g h2 g2 KC hg)
  ·rw[dJ] at g1 g2
   by_cases rY:j=i <;> by_cases Ze:j=i'
   ·omega
   ·subst rY
    rw[ai rfl,h2] at g1;rw[ah Ze] at g2;simp at g1;subst g1;have:=Ob _ _ g g2 g4 g3;rw[h3] at this;exact H.apart _ _ en en2 g h2 g2 this g4
   ·subst Ze
    rw[ai rfl,h2] at g2;rw[ah rY] at g1;simp at g2;subst g2;have:=Ob _ _ g g1 g3 g4;rw[h3] at this;exact H.apart _ _ en1 en g g1 h2 g3 this
   ·rw[ah rY] at g1;rw[ah Ze] at g2
    exact H.apart i i' en1 en2 g g1 g2 g3 g4
  ·have:DB.born∈(es.modify j λe=>{ e with key:=.int kd k,val:=v' }).toList.map (·.born):=qM qw
   rw[pN] at this;obtain⟨en0,h4,h5⟩:=aG.1 this;rw[← h5];exact H.born en0 h4
end
end Go.Vl
namespace Go.Vl
open Go Go.RowKit
section
variable {P:Program} {α:Type} {K0:Ctx P} {kd:IntKind} {f:α→List D} {e:TypeId} {z t b:Nat} {L:List (Int×List α)} {st:St} {a:Act} {w:World}
def HI (K0:Ctx P) (kd:IntKind) (f:α→List D) (e:TypeId) (z t b:Nat) (L:List (Int×List α)) (st:St) (a:Act) (w:World):Prop:=
 ∃(K:Ctx P) (p:Pl) (es:Array MapEntry) (clock:Nat),K.lx=[]∧ur K0 K∧(∀k,K.w0.heap.size≤k∨k∈K.qO→K0.w0.heap.size≤k∨k∈K0.qO)∧Rel K st a w p∧yF w (mY K0 K) kd f e z b L es clock∧a.eval (.tmp t)=.map (some b)
theorem HI.qR (h:HI K0 kd f e z t b L st a w) {cM:St} (W:lZ st cM):HI K0 kd f e z t b L cM a w:=by
 obtain⟨K,p,es,clock,h1,h2,h3,R,h5,h6⟩:=h;obtain⟨p',R',_⟩:=R.oK W;exact⟨K,p',es,clock,h1,h2,h3,R',h5,h6⟩
theorem HI.kh (h:HI K0 kd f e z t b L st a w) {n:Nat} {cs:List AV} {row:List D} (hb:get st.box n=some cs) (hd:uW cs=some row) (hn:n < 1000000):HI K0 kd f e z t b L (st.kh n row) a w:=by
 obtain⟨K,p,es,clock,h1,h2,h3,R,h5,h6⟩:=h;obtain⟨p',R'⟩:=R.kh hb hd (by rw[h1];rfl) hn (λi hi=>absurd hi (fR i));exact⟨K,p',es,clock,h1,h2,h3,R',h5,h6⟩
theorem HI.bool (h:HI K0 kd f e z t b L st a w) {s:Nat} {c:Bool} (hs:st.look s=.d (.bool c)):a.eval (.tmp s)=.bool c:=by
 obtain⟨K,p,es,clock,h1,h2,h3,R,h5,h6⟩:=h;exact uA R hs
theorem yF.keep {K:Ctx P} {p p':Pl} {cM:St} {a':Act} {w':World} {es:Array MapEntry} {clock:Nat} (hK:K.lx=[]) (R:Rel K st a w p) (R':Rel K cM a' w' p') (h:yF w (mY K0 K) kd f e z b L es clock):yF w' (mY K0 K) kd f e z b L es clock:=
 h.mono (λ_ h=>h) λg hg=>(hg.1.heap hK R').trans (hg.1.heap hK R).symm
theorem HI.wpl (h:HI K0 kd f e z t b L st a w) {ops:Array Oper} {l:List Oper} {st1:St} {F:Exit→Act→World→Prop} (hT:∀K:Ctx P,fc P K ops l st (xz st1)) (hd:∀o∈l,o.dst≠some t) (H:∀a w,HI K0 kd f e z t b L st1 a w→F .normal a w):wpList P ops F l a w:=by
 obtain⟨K,p,es,clock,h1,h2,h3,R,h5,h6⟩:=h;exact wq (hT K) hd R h6 λa' w' p' R' hv=>H a' w' ⟨K,p',es,clock,h1,h2,h3,R',h5.keep h1 R R',hv⟩
theorem HI.xc (h:HI K0 kd f e z t b L st a w) {id:Nat} {l:List Oper} {y:Code} {st1:St} {F:Exit→Act→World→Prop} (hT:∀K:Ctx P,fc P K l.toArray l st (xz st1)) (hd:∀o∈l,o.dst≠some t) (H:∀a w,HI K0 kd f e z t b L st1 a w→y.wp P F a w):(Code.seq (.region id l.toArray false) y).wp P F a w:=
 eU (eW (h.wpl hT hd H))
theorem HI.zM (h:HI K0 kd f e z t b L st a w) {id:Nat} {l:List Oper} {st1:St} {F:Exit→Act→World→Prop} (hT:∀K:Ctx P,fc P K l.toArray l st (xz st1)) (hd:∀o∈l,o.dst≠some t) (H:∀a w,HI K0 kd f e z t b L st1 a w→F .normal a w):(Code.region id l.toArray false).wp P F a w:=
 eW (h.wpl hT hd H)
theorem HI.back (h:HI K0 kd f e z t b L st a w):∃p,Rel K0 st a w p:=by
 obtain⟨K,p,es,clock,h1,h2,h3,R,h5,h6⟩:=h;exact⟨p,h2.rel _ _ _ _ R⟩
theorem HI.show (h:HI K0 kd f e z t b L st a w) {tm:Nat} (hf:∀x,(f x).length=z):∃p,Rel K0 (st.put t (.d (.mp (bL tm 1 false false) 2 (ak (bB (aH kd) (uE f)) L)))) a w p:=by
 obtain⟨K,p,es,clock,h1,h2,h3,R,h5,h6⟩:=h;have R0:=h2.rel _ _ _ _ R;have hsh:∀g,mY K0 K g→dx K0 w p g:=λg hg=>hg.1.show h1 R hg.2
 have hM:=h5.Vy (ok:=dx K0 w p) (t:=tm) (n:=2) hf hsh;refine⟨p,R0.Ql ?_⟩;simp only[Act.eval] at h6;rw[h6];exact .d (RD.ofMap (s:=⟨bL tm 1 false false,2,ak (bB (aH kd) λl=>[.slice (ak f l)]) L⟩) (DZ _ _ _ _ _ _) (λr hr=>by
  unfold ak at hr;obtain⟨q,_,rfl⟩:=aG.1 hr
  rfl) h5.map (hsh _ h5.Gr) hM)
theorem HI.start {p:Pl} (R:Rel K0 st a w p) (hK:K0.lx=[]) {n tm:Nat} (hn:get st.vec n=some ⟨bL tm 1 false false,2,[]⟩) (ht:get st.env t=some (.vec n)) {cM:St} (W:lZ st cM) (hv:cM.lv n=false):∃b,HI K0 kd f e z t b ([]:List (Int×List α)) cM a w:=by
 obtain⟨sJ,hz,hbm⟩:=R.vec n _ hn;obtain⟨b,es,clock,A',hb,hM⟩:=sJ.map (DZ _ _ _ _ _ _);have Ba:a.eval (.tmp t)=.map (some b):=by
  have:=R.env t (.vec n) ht;simp only[Act.eval];generalize a.tmps.getD t undef=u at this;cases this;exact A'
 obtain⟨K',p',t1,t2,t3,t4,t5,t6,t7,t8,t9,t10⟩:=R.Q1 hK W (w2:=w) (aM _) ⟨rfl,rfl,rfl⟩ (λ_ _=>rfl) (λ_ _=>rfl) (λ_ _ _ _=>rfl) (aM _) K0 (ur.refl K0) (λ_ _ _=>rfl) hK (λ_ h=>h);have hs:es.size=0:=hM.size;have he:es= #[]:=jt hs;subst he;obtain⟨u1,u2⟩:=t9 n b (by simp[St.lv,hn]) hv (by rw[A'];rfl);exact⟨b,K',p',#[],clock,t1,t5,t6,t3,⟨⟨u1,u2⟩,hb,rfl,λj q en h=>by simp at h,λi j en DB g h=>by simp at h,λen h=>by simp at h,by simp⟩,Ba⟩
end
end Go.Vl
namespace Go.Vl
open Go Go.RowKit
section
variable {P:Program} {α:Type} {K0 K:Ctx P} {kd:IntKind} {f:α→List D} {e:TypeId} {z t b:Nat} {L:List (Int×List α)} {st:St} {a:Act} {w:World} {p:Pl} {es:Array MapEntry} {clock:Nat}
structure nh (K:Ctx P) (g:Nat):Prop where
 lt:g < K.w0.heap.size
 ok:K.ok0 g
 iv:g∉K.qO
theorem nh.dx (hK:K.lx=[]) {g:Nat} (h:nh K g) (R:Rel K st a w p):dx K w p g:=
 ⟨bu h.lt R.size,.inl h.ok,λn hn e=>by
  obtain⟨cs,je⟩:=aY.1 ((R.vg n).1 hn);rcases(R.box n cs je).yc with q |q |q
  ·have:=h.lt;omega
  ·rw[hK] at q;cases q
  ·exact h.iv (e▸q),λn hn e=>by
  obtain⟨s,hs⟩:=aY.1 ((R.sT n).1 hn);rcases(R.vec n s hs).yc g e with q |q
  ·have:=h.lt;omega
  ·exact h.iv q⟩
theorem nh.heap (hK:K.lx=[]) {g:Nat} (h:nh K g) (R:Rel K st a w p):w.heap[g]? =K.w0.heap[g]? :=R.old g h.lt λq=>by
 rcases q with q |q
 ·rw[hK] at q;cases q
 ·exact h.iv q
def ng (K:Ctx P) (w':World):Prop:=∀g,nh K g→w'.heap[g]? =K.w0.heap[g]?
theorem ng.of (hK:K.lx=[]) (R:Rel K st a w p):ng K w:=λ_ h=>h.heap hK R
theorem HI.draw (h:HI K0 kd f e z t b L st a w) {cM:St} (W:lZ st cM) (Hy:K0.lx=[]) (hm:P.follows .mixedOrders=true) {id:Nat} {ops:Array Oper} {F:Exit→Act→World→Prop}
  (H:∀(K:Ctx P) (p:Pl) (es:Array MapEntry) (clock:Nat) (w:World),K.lx=[]→ur K0 K→(∀k,K.w0.heap.size≤k∨k∈K.qO→K0.w0.heap.size≤k∨k∈K0.qO)→Rel K cM a w p→yF w (mY K0 K) kd f e z b L es clock→a.eval (.tmp t)=.map (some b)→(∀g,dx K w p g→nh K g)→
   wpAnyH P .any ops F (ng K) ops.size (Array.replicate ops.size false) a w):(Code.region id ops true).wp P F a w:=by
 obtain⟨K,p,es,clock,h1,h2,h3,R,h5,h6⟩:=h;have R1:=R.drew;obtain⟨K',p',t1,t2,t3,t4,t5,t6,t7,t8,t9,t10⟩:=R1.Q1 h1 W (w2:={ w with drawn:=w.drawn+1 }) (aM _) ⟨rfl,rfl,rfl⟩ (λ_ _=>rfl) (λ_ _=>rfl) (λ_ _ _ _=>rfl) (aM _) K0 h2 (λ_ _ _=>rfl) Hy h3;refine ug hm (H K' p' es clock _ t1 t5 t6 t3 ?_ h6 λg hg=>?_)
 ·exact yF.mono (w:=w) h5 (λg hg=>⟨t7 g hg.1,hg.2⟩) (λ_ _=>rfl)
 ·have hg0:=(t4 g).1 hg
  have Hv:=t10 g hg0;have iN:g < K'.w0.heap.size:=by rw[t2];exact hg.1
  refine⟨iN,?_,Hv⟩;rcases hg.2.1 with q |q |q
  ·exact q
  ·omega
  ·exact absurd q Hv
theorem ng.agree (hK:K.lx=[]) (R:Rel K st a w p) (sW:∀g,Vl.dx K w p g→nh K g) {w':World} (h:ng K w'):∀g,Vl.dx K w p g→w'.heap[g]? =w.heap[g]? :=λg hg=>(h g (sW g hg)).trans ((sW g hg).heap hK R).symm
theorem Eu (hK:K.lx=[]) (Hy:K0.lx=[]) (hB:ur K0 K) (h6:∀k,K.w0.heap.size≤k∨k∈K.qO→K0.w0.heap.size≤k∨k∈K0.qO) (R:Rel K st a w p) (H:yF w (mY K0 K) kd f e z b L es clock)
  {tm kt ts:TypeId} (hu:P.underlying tm=some (.map kt ts)) (hk:P.underlying kt=some (.int kd)) (hz:∀w,(zeroValue ts).run P w=.ok (.slice none 0 0) w) (YY:P.underlying ts=some (.slice e)) {zs:List AV} (Aw:fZ P e=some zs) (BF:zs.length=z) (rW:0 < z)
  (Fh:wV P e=true) (tW:∀x,∀d∈f x,qC d) (Uu:∀x,(f x).length=z) (k:Int) {v:Value} (hv:(eJ cK k L=none∧v=.slice none 0 0)∨∃j l en,eJ cK k L=some (j,l)∧es[j]? =some en∧v=en.val)
  {x:α} {ops:Array Oper} {listed:Array Bool} {i1 i2 xm xk xv xy d:Nat} {o1 o2:Oper} (Uq:ops[i1]? =some o1) (FW:ops[i2]? =some o2) (gY:o1.guard=none) (vR:o2.guard=none) (MS:o1.dst=some d) (Ff:o2.dst=none)
  (SO:o1.op=.call { callee:=.builtin .append,args:=#[.tmp xv,.tmp xy],argTypes:=#[ts,ts]}) (SN:o2.op=.mapUpdate tm (.tmp xm) (.tmp xk) (.tmp d)) (Oa:Region.ready .any ops listed=[i1]) (CX:Region.ready .any ops (listed.setIfInBounds i1 true)=[i2]) (Ji:Region.ready .any ops ((listed.setIfInBounds i1 true).setIfInBounds i2 true)=[])
  (hxm:a.eval (.tmp xm)=.map (some b)) (Ax:a.eval (.tmp xk)=.int kd k) (xn:a.eval (.tmp xv)=v) (hxt:a.eval (.tmp t)=.map (some b)) (XA:d≠xm) (hdk:d≠xk) (Te:d≠t) (nW:d < st.nt)
  (hy:rowsOf st (ca st (.tmp xy))=some [f x]) (gS:∀l,br cK L k=some l→l.length+1≤268435456) {cM:St} (W:lZ (st.put d .undef) cM):
  wpAnyH P .any ops (λe1 a w=>e1=.normal∧HI K0 kd f e z t b (eD cK L k ((br cK L k).getD []++[x])) cM a w) (ng K) 2 listed a w:=by
 obtain⟨v',w1,r1,s1,w2,r2,s2,fin⟩:=H.step R hK Hy hB h6 hu hk hz YY Aw BF rW Fh tW Uu k hv hy (R.ca (.tmp xy)) gS o1.type;have hS1:ng K w1:=λg hg=>(s1 g (hg.dx hK R)).trans (hg.heap hK R)
 have hS2:ng K w2:=λg hg=>(s2 g (hg.dx hK R)).trans (hg.heap hK R)
 refine fv Oa (by simp) λi hi=>?_
 rw[aD.1 hi];unfold wpOp;simp only[Uq];rw[show Region.wanted o1 (yielded ops a.tmps)=true by simp[Region.wanted,gY],ai rfl];refine .inl ?_;unfold Oper.wp;rw[show (execOp a.eval o1).run P w=.ok (.value v') w1 by
  simp[execOp,SO,resolve,invoke,builtin,xn,r1]]
 refine⟨hS1,?_⟩;rw[MS];have Dv:∀s,d≠s→(a.put (some d) v').eval (.tmp s)=a.eval (.tmp s):=λs hs=>fI (by simpa using hs)
 refine fv CX (by simp) λi hi=>?_
 rw[aD.1 hi];unfold wpOp;simp only[FW];rw[show Region.wanted o2 (yielded ops (a.put (some d) v').tmps)=true by simp[Region.wanted,vR],ai rfl];refine .inl ?_;unfold Oper.wp;rw[show (execOp (a.put (some d) v').eval o2).run P w1=.ok .skip w2 by
  have zx:(a.put (some d) v').eval (.tmp d)=v':=dm (by rw[R.nt];exact nW);simp[execOp,SN,Dv xm XA,Dv xk hdk,zx,hxm,Ax,r2]]
 refine⟨hS2,?_⟩;rw[Ff];have Rp:Rel K (st.put d .undef) (a.put (some d) v') w p:=R.put .undef nW;obtain⟨K',p',es',Al,u1,u2,u3,u4,u5,u6⟩:=fin _ _ _ Rp W;exact wpAnyH_done Ji ⟨rfl,K',p',es',Al,u1,u4,u5,u3,u6,by
  show((a.put (some d) v').put none undef).eval (.tmp t)=_;rw[fI (by simp),Dv t Te];exact hxt⟩ _
theorem xG {s:Nat} {k:IntKind} {n:Int} (R:Rel K st a w p) (h:st.look s=.d (.int k n)):a.eval (.tmp s)=.int k n:=by
 have:=R.ca (.tmp s);have ho:ca st (.tmp s)=.d (.int k n):=h;rw[ho] at this;generalize a.eval (.tmp s)=v at this;cases this with |d h=>cases h;rfl
theorem QN {c:Code} {Q:Exit→St→Prop} {F:Exit→Act→World→Prop} (R:Rel K st a w p) (T:Tr P K c st Q) (H:∀e s a' w' p',Rel K s a' w' p'→Q e s→F e a' w'):c.wp P F a w:=
 hU (T a w p R) λe a' w' ⟨s,p',R',hq⟩=>H e s a' w' p' R' hq
theorem mF {ops:Array Oper} {F:Exit→Act→World→Prop} {Q':Act→World→Prop} {i:Nat} {o:Oper} {v:Value} {w':World} (ho:ops[i]? =some o) (hg:o.guard=none) (hr:(execOp a.eval o).run P w=.ok (.value v) w') (h:Q' (a.put o.dst v) w'):wpOp P ops F i Q' a w:=by
 unfold wpOp;simp only[ho];rw[show Region.wanted o (yielded ops a.tmps)=true by simp[Region.wanted,hg],ai rfl];refine .inl ?_;unfold Oper.wp;rw[hr];exact h
theorem wpOp_step {ops:Array Oper} {F:Exit→Act→World→Prop} {Q':Act→World→Prop} {i d:Nat} {o:Oper} {st1:St} (R:Rel K st a w p) (ho:ops[i]? =some o) (hg:o.guard=none) (hd:o.dst=some d) (hs:step P st o=some st1)
  (H:∀v w' p',Rel K st1 (a.put (some d) v) w' p'→Q' (a.put (some d) v) w'):wpOp P ops F i Q' a w:=by
 unfold wpOp;simp only[ho];rw[show Region.wanted o (yielded ops a.tmps)=true by simp[Region.wanted,hg],ai rfl];refine .inl ?_;unfold Oper.wp;obtain⟨w',p',h |h⟩:=tF R hs
 ·obtain⟨v,e,R'⟩:=h
  rw[e];show Q' (a.put o.dst v) w';rw[hd] at R' ⊢;exact H _ _ _ R'
 ·obtain⟨e,R'⟩:=h
  rw[e];show Q' (a.put o.dst undef) w';rw[hd] at R' ⊢;exact H _ _ _ R'
theorem tE {ops:Array Oper} {st1:St} {is:List Nat} {ol:List (Option Oper)} (FV:is.map (ops[·]?)=ol) {os:List Oper} (Dw:ol.filterMap (λx=>x)=os) (IF:ol=os.map some) (h':gX P ops os st=some st1):qT P ops is st=some st1:=(BN (FV.trans IF)).symm.trans h'
def noT (ops:Array Oper) (T is:List Nat):Bool:=is.all λi=>match ops[i]? with |some o=>T.all λt=>o.dst != some t |none=>true
theorem yb {ops:Array Oper} {T is:List Nat} (h:noT ops T is=true):∀i∈is,∀o,ops[i]? =some o→∀t∈T,o.dst≠some t:=λi hi o ho t ht=>by
 have:=bE.1 h i hi;rw[ho] at this;simpa using bE.1 this t ht
theorem GL {ops:Array Oper} {F:Exit→Act→World→Prop} {S:World→Prop} {n i d:Nat} {listed:Array Bool} {o:Oper} (R:Rel K st a w p) (hi:ops[i]? =some o) (hs:Region.noSelect ops=true) (hf:Region.free .any ops listed i=true) (hr:(Region.ready .any ops listed).contains i=true) (hF:∀c a w,¬F (.panic c) a w) (hg:o.guard=none) (hd:o.dst=some d)
  {t kt et:TypeId} {x k:Operand} {e z:Nat} {rows:List (List D)} {v:AV} (ho:o.op=.lookup t x k false) (hu:P.underlying t=some (.map kt et)) (hx:ca st x=.d (.mp e z rows)) (hl:rT P st t (ca st x) (ca st k) false=some v) (hS:∀w',S w'→∀g,Vl.dx K w p g→w'.heap[g]? =w.heap[g]?) (LM:S w) (nW:d < st.nt)
  (H:∀u,Rel K (st.put d v) (a.put (some d) u) w p→wpAnyH P .any ops F S n (listed.setIfInBounds i true) (a.put (some d) u) w):wpAnyH P .any ops F S (n+1) listed a w:=by
 obtain⟨u,r1,r2⟩:=MC R ho hu hx hl;refine ly hi hs hf hr (λc a w q=>absurd q (hF c _ w)) (.inl ⟨by simp[Region.wanted,hg],λw' YU=>r1 w' (hS w' YU)⟩) LM ?_;rw[hd];exact H u (R.put r2 nW)
theorem yL {ops:Array Oper} {F:Exit→Act→World→Prop} {S:World→Prop} {n i d t:Nat} {listed:Array Bool} {o:Oper} {v:Value} (hi:ops[i]? =some o) (hs:Region.noSelect ops=true) (hf:Region.free .any ops listed i=true) (hr:(Region.ready .any ops listed).contains i=true) (hF:∀c a w,¬F (.panic c) a w) (hg:o.guard=none) (hd:o.dst=some d)
  (ho:o.op=.move (.tmp t)) (hv:a.eval (.tmp t)=v) (LM:S w) (H:wpAnyH P .any ops F S n (listed.setIfInBounds i true) (a.put (some d) v) w):wpAnyH P .any ops F S (n+1) listed a w:=by
 refine ly (v:=v) hi hs hf hr (λc a w q=>absurd q (hF c _ w)) (.inl ⟨by simp[Region.wanted,hg],λw' _=>by simp[execOp,ho,hv]⟩) LM ?_;rw[hd];exact H
theorem Gy {P:Program} {w:World} {ok:Nat→Prop} {p:Pl} (hp:∀n,p.lv n→(p.rw n).oneCell'=true) {t:TypeId} {parts:Array (Nat×Operand)} {f:Operand→AV} {g:Operand→Value} (hfg:∀x,RA w ok p (f x) (g x)) {r:List AV}
  (h:vt P t (parts.toList.map λ(i,x)=>(i,f x))=some r):∃v,(∀w':World,(Instr.build t (parts.map λ(i,x)=>(i,g x))).run P w'=.ok v w')∧RA w ok p (.agg r) v:=by
 unfold vt at h;cases hz:fZ P t with
 |none=>simp[hz] at h
 |some z=>
  simp only[hz,aa] at h;obtain⟨i,v,hi,hv,gS,rfl,h1⟩:=nk hz;have zW:∀(j:Nat) (i k:Nat) (x:AV) (v:Value),(parts.toList.map λ(i,x)=>(i,f x))[j]? =some (i,x)→(parts.map λ(i,x)=>(i,g x)).toList[j]? =some (k,v)→i=k∧RA w ok p x v:=by
   intro j i k x v hj hk;rw[Array.toList_map,aA] at hk;rw[aA] at hj;cases hq:parts.toList[j]? with
   |none=>simp[hq] at hj
   |some q=>
    obtain⟨q1,q2⟩:=q;simp[hq] at hj hk;obtain⟨rfl,rfl⟩:=hj;obtain⟨rfl,rfl⟩:=hk;exact⟨rfl,hfg _⟩
  split at h
  ·rename_i n e hu
   cases hk:fh P e with
   |none=>simp[hk] at h
   |some k=>
    simp only[hk,aa] at h;obtain⟨cs',c1,c2,c3,c4⟩:=rZ hp h (by simp) zW (by simp) (λi a u ha hu=>BH v.cells i a u ha hu) h1;have he:∃ie,P.info? e=some ie∧ie.size=k:=by
     unfold fh at hk;cases xC:P.info? e with
     |none=>simp[xC] at hk
     |some ie=>simp[xC] at hk;exact⟨ie,rfl,hk⟩
    obtain⟨ie,xC,rfl⟩:=he;exact⟨_,λw'=>run_build w' t _ cs' (by simp only[Program.built,hi,hu,hv,xC];exact c1),.agg c2 c3 c4⟩
  ·rename_i fs hu
   cases hk:(fs.toList.mapM λf=>(fh P f.type).map λk=>(f.offset,k)) with
   |none=>rw[hk] at h;simp at h
   |some places=>
    rw[hk] at h;simp only[aa] at h;obtain⟨cs',c1,c2,c3,c4⟩:=rZ hp h (by simp) zW (by simp) (λi a u ha hu=>BH v.cells i a u ha hu) h1;have hk':(fs.toList.mapM λf=>(P.info? f.type).map λi=>(f.offset,i.size))=some places:=by
     rw[← hk];congr 1;funext f;unfold fh;cases P.info? f.type <;> rfl
    refine⟨_,λw'=>run_build w' t _ cs' ?_,.agg c2 c3 c4⟩;simp only[Program.built,hi,hu,hv,hk'];have:(λi:Nat=>places[i]?)=(λi:Nat=>places.toArray[i]?):=by funext i;simp
    rw[this] at c1;exact c1
  ·cases h
theorem DY {ops:Array Oper} {F:Exit→Act→World→Prop} {S:World→Prop} {n i d:Nat} {listed:Array Bool} {o:Oper} (R:Rel K st a w p) (hi:ops[i]? =some o) (hs:Region.noSelect ops=true) (hf:Region.free .any ops listed i=true) (hr:(Region.ready .any ops listed).contains i=true) (hF:∀c a w,¬F (.panic c) a w) (hg:o.guard=none) (hd:o.dst=some d)
  {t:TypeId} {parts:Array (Nat×Operand)} {r:List AV} (ho:o.op=.build t parts) (hl:vt P t (parts.toList.map λ(i,x)=>(i,ca st x))=some r) (LM:S w) (nW:d < st.nt)
  (H:∀u,Rel K (st.put d (.agg r)) (a.put (some d) u) w p→wpAnyH P .any ops F S n (listed.setIfInBounds i true) (a.put (some d) u) w):wpAnyH P .any ops F S (n+1) listed a w:=by
 obtain⟨u,r1,r2⟩:=Gy (p:=p) (f:=ca st) (g:=a.eval) R.JN (λx=>R.ca x) hl;refine ly (v:=u) hi hs hf hr (λc a w q=>absurd q (hF c _ w)) (.inl ⟨by simp[Region.wanted,hg],λw' _=>by simp[execOp,ho,r1]⟩) LM ?_;rw[hd];exact H u (R.put r2 nW)
end
end Go.Vl
