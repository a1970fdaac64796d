/- The value logic: the world turns where nobody looks; what is hidden is kept. Conditions: none. -/
import Derived.Test.YtbnfogbfphakmaaGreatDoorVmFr
import Derived.Test.YtbnfogbfphakmaaGreatDoorVmQq
import Derived.Test.YtbnfogbfphakmaaGreatDoorVmHo
set_option linter.unusedSimpArgs false
set_option linter.unusedVariables false
namespace Go.Vl
open Go Go.RowKit
section
variable {P:Program} {K:Ctx P} {st:St} {a:Act} {w:World} {p:Pl}
end
end Go.Vl
namespace Go.Vl
open Go Go.RowKit
section
variable {P:Program} {K:Ctx P} {st:St} {a:Act} {w:World} {p:Pl}
structure FQ (K:Ctx P) (g:Nat):Prop where
 lt:g < K.w0.heap.size
 ok:¬K.ok0 g
 iv:g∉K.ivs
structure FM (K K':Ctx P):Prop where
 size:K.w0.heap.size≤K'.w0.heap.size
 rel:∀st a w p,Rel K' st a w p→Rel K st a w p
 ok:∀st a w p b,Rel K' st a w p→okc K' w p b→okc K w p b
theorem FM.refl (K:Ctx P):FM K K:=⟨Nat.le_refl _,fun _ _ _ _ h=>h,fun _ _ _ _ _ _ h=>h⟩
theorem FQ.nok {g:Nat} (h:FQ K g):¬okc K w p g:=fun q=>by
 rcases q.2.1 with q |q |q
 ·exact h.ok q
 ·have:=h.lt;omega
 ·exact h.iv q
theorem FQ.io (hK:K.ios=[]) {g:Nat} (h:FQ K g):¬K.io g:=fun q=>by
 rcases q with q |q
 ·rw[hK] at q;cases q
 ·exact h.iv q
theorem FQ.heap (hK:K.ios=[]) {g:Nat} (h:FQ K g) (R:Rel K st a w p):w.heap[g]? =K.w0.heap[g]? :=R.old g h.lt (h.io hK)
theorem FQ.bx (hK:K.ios=[]) {g:Nat} (h:FQ K g) (R:Rel K st a w p) {n:Nat} (hn:p.lb n):p.bx n≠g:=fun e=>by
 obtain⟨cs,hcs⟩:=Option.isSome_iff_exists.1 ((R.lbi n).1 hn)
 rcases(R.box n cs hcs).mine with q |q
 ·have:=h.lt;rw[e] at q;omega
 ·exact h.io hK (e▸q)
theorem FQ.rw (hK:K.ios=[]) {g:Nat} (h:FQ K g) (R:Rel K st a w p) {n:Nat} (hn:p.lv n):(p.rw n).blk≠some g:=fun e=>by
 obtain⟨s,hs⟩:=Option.isSome_iff_exists.1 ((R.lvi n).1 hn)
 rcases(R.vec n s hs).mine g e with q |q
 ·have:=h.lt;omega
 ·exact h.iv q
theorem FQ.show {K K':Ctx P} (hK':K'.ios=[]) {g:Nat} (h:FQ K' g) (R:Rel K' st a w p) (ho:K.w0.heap.size≤g∨g∈K.ivs):okc K w p g:=
 ⟨Nat.lt_of_lt_of_le h.lt R.size,.inr ho,fun _ hn e=>h.bx hK' R hn e.symm,fun _ hn e=>h.rw hK' R hn e⟩
theorem Rel.turn (R:Rel K st a w p) (hK:K.ios=[]) {st':St} (W:D1 st st') {w2:World} (hs:w.heap.size≤w2.heap.size) (ho:w2.os=w.os∧w2.tape=w.tape∧w2.output=w.output)
  (h1:∀k,okc K w p k→w2.heap[k]? =w.heap[k]?) (h2:∀n,st'.lb n=true→w2.heap[p.bx n]? =w.heap[p.bx n]?) (h3:∀n g,st'.lv n=true→(p.rw n).blk=some g→w2.heap[g]? =w.heap[g]?) (hd:dr0 w≤dr0 w2)
  (K0:Ctx P) (hB:FM K0 K) (h5:∀k,k < K0.w0.heap.size→k∉K0.ivs→w2.heap[k]? =w.heap[k]?) (hK0:K0.ios=[]) (h6:∀k,K.w0.heap.size≤k∨k∈K.ivs→K0.w0.heap.size≤k∨k∈K0.ivs):
  ∃(K':Ctx P) (p':Pl),K'.ios=[]∧K'.w0=w2∧Rel K' st' a w2 p'∧(∀b,okc K' w2 p' b↔okc K w p b)∧FM K0 K'∧(∀k,K'.w0.heap.size≤k∨k∈K'.ivs→K0.w0.heap.size≤k∨k∈K0.ivs)∧
   (∀g,FQ K g→FQ K' g)∧(∀g,w.heap.size≤g→g < w2.heap.size→FQ K' g)∧(∀n g,st.lv n=true→st'.lv n=false→(p.rw n).blk=some g→FQ K' g∧(K0.w0.heap.size≤g∨g∈K0.ivs))∧(∀b,okc K w p b→b∉K'.ivs):=by
 classical
 have R0:=hB.rel _ _ _ _ R
 have hb:∀n,st'.lb n=true→p.lb n:=fun n hn=>by
  obtain⟨cs',hcs'⟩:=Option.isSome_iff_exists.1 hn
  obtain⟨cs,hcs,_⟩:=Ca W.box hcs'
  exact(R.lbi n).2 (by simp[St.lb,hcs])
 have hv:∀n,st'.lv n=true→p.lv n:=fun n hn=>by
  obtain⟨s,hs⟩:=Option.isSome_iff_exists.1 hn
  exact(R.lvi n).2 (by simp[St.lv,Cb W.vec hs])
 let L:=(List.range w.heap.size).filter fun b=>decide ((∃n,st'.lb n=true∧p.bx n=b)∨(∃n,st'.lv n=true∧(p.rw n).blk=some b))
 have memL:∀b,b∈L↔b < w.heap.size∧((∃n,st'.lb n=true∧p.bx n=b)∨(∃n,st'.lv n=true∧(p.rw n).blk=some b)):=fun b=>by
  simp only[L,List.mem_filter,List.mem_range,decide_eq_true_eq]
 have hLok:∀b,b∈L→¬okc K w p b:=fun b hbL q=>by
  rcases((memL b).1 hbL).2 with ⟨n,hn,e⟩ |⟨n,hn,e⟩
  ·exact q.2.2.1 n (hb n hn) e.symm
  ·exact q.2.2.2 n (hv n hn) e
 have hsee:∀q:Addr,okc K w p q.block→see w2 q=see w q:=fun q hq=>Aq (h1 _ hq)
 let K':Ctx P:=⟨w2,okc K w p,[],L,fun b i x h=>by
  obtain⟨g1,g2,g3⟩:=R.glob b i x h
  refine⟨⟨Nat.lt_of_lt_of_le g1.1 hs,g1,by simp,fun hm=>hLok b hm g1⟩,?_,?_⟩
  ·rw[← g2];exact World.cell?_of_block (h1 b g1)
  ·rw[← g3];exact World.cell?_of_block (h1 b g1)⟩
 let p':Pl:=⟨p.bx,p.rw,fun n=>st'.lb n=true,fun n=>st'.lv n=true⟩
 have hL1:∀b,b∈L→K.w0.heap.size≤b∨b∈K.ivs:=fun b hb'=>by
  obtain⟨_,⟨n,hn,e⟩ |⟨n,hn,e⟩⟩:=(memL b).1 hb'
  ·obtain⟨cs,hcs⟩:=Option.isSome_iff_exists.1 ((R.lbi n).1 (hb n hn))
   rcases(R.box n cs hcs).mine with h |h
   ·exact .inl (e▸h)
   ·rcases h with h |h
    ·rw[hK] at h;cases h
    ·exact .inr (e▸h)
  ·exact(R.vlt (hv n hn) e).1
 have hL:∀b,b∈L→K0.w0.heap.size≤b∨b∈K0.ivs:=fun b hb'=>h6 b (hL1 b hb')
 have hok:∀b,okc K w p b→okc K' w2 p' b:=fun b h=>⟨Nat.lt_of_lt_of_le h.1 hs,.inl h,fun n hn=>h.2.2.1 n (hb n hn),fun n hn=>h.2.2.2 n (hv n hn)⟩
 have hko:∀b,okc K' w2 p' b→okc K w p b:=fun b h=>by
  rcases h.2.1 with g |g |g
  ·exact g
  ·have:=h.1;have:w2.heap.size≤b:=g;omega
  ·obtain⟨g1,g2⟩:=(memL b).1 g
   rcases g2 with ⟨n,hn,e⟩ |⟨n,hn,e⟩
   ·exact absurd e.symm (h.2.2.1 n hn)
   ·exact absurd e (h.2.2.2 n hn)
 have hra:∀{x:AV} {v:Value},RA w (okc K w p) p x v→x.wf st'.lb st'.lv=true→RA w2 (okc K' w2 p') p' x v:=fun h hx=>RA.less (p:=p) (p':=p') hsee hok (fun n hn _=>⟨hn,rfl⟩) (fun n hn _=>⟨hn,rfl⟩) h hx
 have hrd:∀{x:D} {v:Value},RD w (okc K w p) x v→RD w2 (okc K' w2 p') x v:=fun h=>h.mono hsee hok
 refine⟨K',p',rfl,rfl,?_,fun k=>⟨hko k,hok k⟩,?_,fun k hk=>?_,fun g hg=>?_,fun g g1 g2=>?_,fun n g hn hn' hg=>⟨⟨Nat.lt_of_lt_of_le (R.vlt ((R.lvi n).2 hn) hg).2 hs,fun q=>q.2.2.2 n ((R.lvi n).2 hn) hg,fun q=>?_⟩,h6 g (R.vlt ((R.lvi n).2 hn) hg).1⟩,fun b hb q=>hLok b q hb⟩
 ·exact {
   lb:=rfl,lv:=rfl,dfr:=R.dfr,nt:=R.nt.trans W.nt.symm,ntl:=by rw[W.nt];exact R.ntl
   ion:=fun i h=>by have:=R.ion i (hb _ h);rw[hK] at this;simp at this
   size:=Nat.le_refl _,os:=rfl,tape:=rfl,dr:=Nat.le_refl _,output:=rfl,old:=fun _ _ _=>rfl
   env:=fun t y h=>by
    rcases HB W.env h with rfl |⟨h1,hw⟩
    ·exact .undef
    have hx:RA w (okc K w p) p (st.look t) (a.tmps.getD t undef):=R.opd (.tmp t)
    rcases h1 with rfl |h1 |⟨h1,rfl⟩ |⟨r,h1,rfl⟩
    ·exact .undef
    ·subst h1;exact hra hx hw
    ·rw[h1] at hx
     generalize a.tmps.getD t undef=v at hx ⊢
     cases hx with |nilS=>exact .d .snil
    ·rw[h1] at hx
     generalize a.tmps.getD t undef=v at hx ⊢
     cases hx with |full h=>exact .d (hrd h)
   box:=fun n cs' h=>by
    obtain⟨cs,hcs,hle⟩:=Ca W.box h
    obtain⟨q1,q2⟩:=E4 hle
    obtain⟨⟨vs,ty,g1,g2,g3,g4⟩,_⟩:=R.box n cs hcs
    have hn:st'.lb n=true:=by simp[St.lb,h]
    refine⟨⟨vs,ty,(h2 n hn).trans g1,by rw[g2,q1],fun i c v hc hv=>?_,g4⟩,.inr (.inr ((memL _).2 ⟨R.blt (hb n hn),.inl ⟨n,hn,rfl⟩⟩))⟩
    rcases q2 i c hc with rfl |⟨hc',hw⟩
    ·exact .undef
    ·exact hra (g3 i c v hc' hv) hw
   vec:=fun n s h=>by
    obtain⟨g1,g2,_⟩:=R.vec n s (Cb W.vec h)
    have hn:st'.lv n=true:=by simp[St.lv,h]
    exact⟨g1.mono hsee hok (fun g hg=>h3 n g hn hg),g2,fun g hg=>.inr ((memL _).2 ⟨(R.vlt (hv n hn) hg).2,.inr ⟨n,hn,hg⟩⟩)⟩
   dbb:=fun n m hn hm=>R.dbb n m (hb n hn) (hb m hm)
   dbv:=fun n m hn hm=>R.dbv n m (hb n hn) (hv m hm)
   dvv:=fun n m hn hm=>R.dvv n m (hv n hn) (hv m hm)}
 ·have hsz0:K0.w0.heap.size≤w2.heap.size:=Nat.le_trans R0.size hs
  have hback:∀(w':World) (p'':Pl) b,w2.heap.size≤w'.heap.size→okc K' w' p'' b→okc K0 w' p'' b:=fun w' p'' b hsz h=>⟨h.1,by
   rcases h.2.1 with g1 |g1 |g1
   ·exact(hB.ok _ _ _ _ b R g1).2.1
   ·exact .inr (.inl (Nat.le_trans hsz0 g1))
   ·rcases hL b g1 with g2 |g2
    ·exact .inr (.inl g2)
    ·exact .inr (.inr g2),h.2.2.1,h.2.2.2⟩
  have hrel:∀st' a' w' p',Rel K' st' a' w' p'→Rel K0 st' a' w' p':=fun st' a' w' p' R'=>by
   have hsame:∀b,b < w2.heap.size→b∉L→w'.heap[b]? =w2.heap[b]? :=fun b hb hl=>R'.old b hb fun h=>by
    rcases h with h |h
    ·cases h
    ·exact hl h
   have hback:=fun b=>hback w' p' b R'.size
   exact {
    lb:=R'.lb,lv:=R'.lv,dfr:=R'.dfr,nt:=R'.nt,ntl:=R'.ntl
    ion:=fun i h=>by have:=R'.ion i h;simp[K'] at this
    size:=Nat.le_trans hsz0 R'.size,os:=R'.os.trans (ho.1.trans R0.os),tape:=R'.tape.trans (ho.2.1.trans R0.tape),dr:=Nat.le_trans R0.dr (Nat.le_trans hd R'.dr),output:=R'.output.trans (ho.2.2.trans R0.output)
    old:=fun b hb hio=>by
     have hl:b∉L:=fun h=>by
      rcases hL b h with g |g
      ·omega
      ·exact hio (.inr g)
     exact(hsame b (Nat.lt_of_lt_of_le hb hsz0) hl).trans ((h5 b hb fun h=>hio (.inr h)).trans (R0.old b hb hio))
    env:=fun t x hx=>(R'.env t x hx).mono (fun _ _=>rfl) hback (fun _ h=>⟨h,rfl⟩) (fun _ h=>⟨h,rfl⟩)
    box:=fun n cs hcs=>by
     obtain⟨⟨vs,ty,g1,g2,g3,g4⟩,hm⟩:=R'.box n cs hcs
     refine⟨⟨vs,ty,g1,g2,fun i c v hc hv=>(g3 i c v hc hv).mono (fun _ _=>rfl) hback (fun _ h=>⟨h,rfl⟩) (fun _ h=>⟨h,rfl⟩),g4⟩,?_⟩
     rcases hm with hm |hm |hm
     ·exact .inl (Nat.le_trans hsz0 hm)
     ·cases hm
     ·rcases hL _ hm with h5 |h5
      ·exact .inl h5
      ·exact .inr (.inr h5)
    vec:=fun n s hs'=>by
     obtain⟨g1,g2,g3⟩:=R'.vec n s hs'
     refine⟨g1.mono (fun _ _=>rfl) hback (fun _ _=>rfl),g2,fun g hg=>?_⟩
     rcases g3 g hg with h5 |h5
     ·exact .inl (Nat.le_trans hsz0 h5)
     ·exact hL g h5
    dbb:=R'.dbb,dbv:=R'.dbv,dvv:=R'.dvv }
  exact⟨hsz0,hrel,fun st' a' w' p'' b R' h=>hback w' p'' b R'.size h⟩
 ·rcases hk with hk |hk
  ·exact .inl (Nat.le_trans (Nat.le_trans R0.size hs) hk)
  ·exact hL k hk
 ·refine⟨Nat.lt_of_lt_of_le hg.lt (Nat.le_trans R.size hs),hg.nok,fun q=>?_⟩
  rcases((memL g).1 q).2 with ⟨n,hn,e⟩ |⟨n,hn,e⟩
  ·exact hg.bx hK R (hb n hn) e
  ·exact hg.rw hK R (hv n hn) e
 ·refine⟨g2,fun q=>by have:=q.1;omega,fun q=>by have:=((memL g).1 q).1;omega⟩
 ·rcases((memL g).1 q).2 with ⟨m,hm,e⟩ |⟨m,hm,e⟩
  ·exact R.dbv m n (hb m hm) ((R.lvi n).2 hn) (e▸hg)
  ·by_cases hnm:m=n
   ·subst hnm;rw[hn'] at hm;cases hm
   ·rcases R.dvv m n (hv m hm) ((R.lvi n).2 hn) hnm with h |h
    ·rw[h] at e;cases e
    ·exact h (e.trans hg.symm)
end
section
variable {P:Program} {α:Type}
structure ZY (w:World) (hid:Nat→Prop) (kd:IntKind) (f:α→List D) (e:TypeId) (z:Nat) (q:Int×List α) (en:MapEntry):Prop where
 key:en.key=.int kd q.1
 own:∃xv,w.ownsRow 0 e z en.val q.2.length xv∧∀(i:Nat) (d:D) (v:Value),(AB f q.2).flatten[i]? =some d→xv[i]? =some v→RD w (fun _=>False) d v
 hid:∀g,en.val.blk=some g→hid g
structure aK (w:World) (hid:Nat→Prop) (kd:IntKind) (f:α→List D) (e:TypeId) (z:Nat) (b:Nat) (L:List (Int×List α)) (es:Array MapEntry) (clock:Nat):Prop where
 hidb:hid b
 map:w.heap[b]? =some (.map es clock)
 size:es.size=L.length
 ent:∀(j:Nat) (q:Int×List α) (en:MapEntry),L[j]? =some q→es[j]? =some en→ZY w hid kd f e z q en
 apart:∀(i j:Nat) (en en':MapEntry) (g:Nat),es[i]? =some en→es[j]? =some en'→en.val.blk=some g→en'.val.blk=some g→i=j
 born:∀en∈es.toList,en.born < clock
 nodup:(es.toList.map (·.born)).Nodup
variable {w w':World} {hid hid':Nat→Prop} {kd:IntKind} {f:α→List D} {e:TypeId} {z:Nat} {b:Nat} {L:List (Int×List α)} {es:Array MapEntry} {clock:Nat}
end
end Go.Vl
namespace Go.Vl
open Go Go.RowKit
section
variable {P:Program} {α:Type} {K K0:Ctx P} {st:St} {a:Act} {w:World} {p:Pl} {kd:IntKind} {f:α→List D} {e:TypeId} {z:Nat} {b:Nat} {L:List (Int×List α)} {es:Array MapEntry} {clock:Nat}
def Hf (K0 K:Ctx P) (g:Nat):Prop:=FQ K g∧(K0.w0.heap.size≤g∨g∈K0.ivs)
end
end Go.Vl
namespace Go.Vl
open Go Go.RowKit
section
variable {P:Program} {α:Type} {K0:Ctx P} {kd:IntKind} {f:α→List D} {e:TypeId} {z t b:Nat} {L:List (Int×List α)} {st:St} {a:Act} {w:World}
end
end Go.Vl
namespace Go.Vl
open Go Go.RowKit
section
variable {P:Program} {α:Type} {K0 K:Ctx P} {kd:IntKind} {f:α→List D} {e:TypeId} {z t b:Nat} {L:List (Int×List α)} {st:St} {a:Act} {w:World} {p:Pl} {es:Array MapEntry} {clock:Nat}
structure Mn (K:Ctx P) (g:Nat):Prop where
 lt:g < K.w0.heap.size
 ok:K.ok0 g
 iv:g∉K.ivs
theorem Mn.okc (hK:K.ios=[]) {g:Nat} (h:Mn K g) (R:Rel K st a w p):okc K w p g:=
 ⟨Nat.lt_of_lt_of_le h.lt R.size,.inl h.ok,fun n hn e=>by
  obtain⟨cs,hcs⟩:=Option.isSome_iff_exists.1 ((R.lbi n).1 hn)
  rcases(R.box n cs hcs).mine with q |q |q
  ·have:=h.lt;omega
  ·rw[hK] at q;cases q
  ·exact h.iv (e▸q),fun n hn e=>by
  obtain⟨s,hs⟩:=Option.isSome_iff_exists.1 ((R.lvi n).1 hn)
  rcases(R.vec n s hs).mine g e with q |q
  ·have:=h.lt;omega
  ·exact h.iv q⟩
theorem Mn.heap (hK:K.ios=[]) {g:Nat} (h:Mn K g) (R:Rel K st a w p):w.heap[g]? =K.w0.heap[g]? :=R.old g h.lt fun q=>by
 rcases q with q |q
 ·rw[hK] at q;cases q
 ·exact h.iv q
def KJ (K:Ctx P) (w':World):Prop:=∀g,Mn K g→w'.heap[g]? =K.w0.heap[g]?
theorem KJ.of (hK:K.ios=[]) (R:Rel K st a w p):KJ K w:=fun _ h=>h.heap hK R
theorem KJ.agree (hK:K.ios=[]) (R:Rel K st a w p) (hsee:∀g,Vl.okc K w p g→Mn K g) {w':World} (h:KJ K w'):∀g,Vl.okc K w p g→w'.heap[g]? =w.heap[g]? :=fun g hg=>(h g (hsee g hg)).trans ((hsee g hg).heap hK R).symm
theorem Jq {s:Nat} {k:IntKind} {n:Int} (R:Rel K st a w p) (h:st.look s=.d (.int k n)):a.eval (.tmp s)=.int k n:=by
 have:=R.opd (.tmp s)
 have ho:opd st (.tmp s)=.d (.int k n):=h
 rw[ho] at this
 generalize a.eval (.tmp s)=v at this
 cases this with |d h=>cases h;rfl
theorem ZQ {c:Code} {Q:Exit→St→Prop} {F:Exit→Act→World→Prop} (R:Rel K st a w p) (T:Tr P K c st Q) (H:∀e s a' w' p',Rel K s a' w' p'→Q e s→F e a' w'):c.wp P F a w:=
 wp_mono (T a w p R) fun e a' w' ⟨s,p',R',hq⟩=>H e s a' w' p' R' hq
theorem Jr {ops:Array Oper} {F:Exit→Act→World→Prop} {Q':Act→World→Prop} {i:Nat} {o:Oper} {v:Value} {w':World} (ho:ops[i]? =some o) (hg:o.guard=none) (hr:(execOp a.eval o).run P w=.ok (.value v) w') (h:Q' (a.put o.dst v) w'):wpOp P ops F i Q' a w:=by
 unfold wpOp
 simp only[ho]
 rw[show Region.wanted o (yielded ops a.tmps)=true by simp[Region.wanted,hg],if_pos rfl]
 refine .inl ?_
 unfold Oper.wp
 rw[hr];exact h
theorem Nw {ops:Array Oper} {st1:St} {is:List Nat} {ol:List (Option Oper)} (hol:is.map (ops[·]?)=ol) {os:List Oper} (hoo:ol.filterMap (fun x=>x)=os) (hos:ol=os.map some) (h':Bz P ops os st=some st1):Cv P ops is st=some st1:=(Hb (hol.trans hos)).symm.trans h'
def noT (ops:Array Oper) (T is:List Nat):Bool:=is.all fun i=>match ops[i]? with |some o=>T.all fun t=>o.dst != some t |none=>true
theorem SV {ops:Array Oper} {T is:List Nat} (h:noT ops T is=true):∀i∈is,∀o,ops[i]? =some o→∀t∈T,o.dst≠some t:=fun i hi o ho t ht=>by
 have:=List.all_eq_true.1 h i hi
 rw[ho] at this
 simpa using List.all_eq_true.1 this t ht
theorem V5 {ops:Array Oper} {F:Exit→Act→World→Prop} {S:World→Prop} {n i d t:Nat} {listed:Array Bool} {o:Oper} {v:Value} (hi:ops[i]? =some o) (hs:Region.noSelect ops=true) (hf:Region.free .any ops listed i=true) (hr:(Region.ready .any ops listed).contains i=true) (hF:∀c a w,¬F (.panic c) a w) (hg:o.guard=none) (hd:o.dst=some d)
  (ho:o.op=.move (.tmp t)) (hv:a.eval (.tmp t)=v) (hS0:S w) (H:wpAnyH P .any ops F S n (listed.setIfInBounds i true) (a.put (some d) v) w):wpAnyH P .any ops F S (n+1) listed a w:=by
 refine wpAnyH_take (v:=v) hi hs hf hr (fun c a w q=>absurd q (hF c _ w)) (.inl ⟨by simp[Region.wanted,hg],fun w' _=>by simp[execOp,ho,hv]⟩) hS0 ?_
 rw[hd];exact H
end
end Go.Vl
