/- The value logic: the world turns where nobody looks; what is hidden is kept. Conditions: none. -/
import Derived.Test.YthpiljonjcfgcaaDoorVmFr
import Derived.Test.YthpiljonjcfgcaaDoorVmQq
import Derived.Test.YthpiljonjcfgcaaDoorVmHo
set_option linter.unusedSimpArgs false
set_option linter.unusedVariables false
namespace Go.Vl
open Go Go.RowKit
section
variable {P:Program} {K:Ctx P} {st:St} {a:Act} {w:World} {p:Pl}
end
end Go.Vl
namespace Go.Vl
open Go Go.RowKit
section
variable {P:Program} {K:Ctx P} {st:St} {a:Act} {w:World} {p:Pl}
structure HidB (K:Ctx P) (g:Nat):Prop where
 lt:g < K.w0.heap.size
 ok:¬K.ok0 g
 iv:g∉K.ivs
structure Back (K K':Ctx P):Prop where
 size:K.w0.heap.size≤K'.w0.heap.size
 rel:∀st a w p,Rel K' st a w p→Rel K st a w p
 ok:∀st a w p b,Rel K' st a w p→okc K' w p b→okc K w p b
theorem Back.refl (K:Ctx P):Back K K:=⟨Nat.le_refl _,fun _ _ _ _ h=>h,fun _ _ _ _ _ _ h=>h⟩
theorem HidB.nok {g:Nat} (h:HidB K g):¬okc K w p g:=fun q=>by
 rcases q.2.1 with q |q |q
 ·exact h.ok q
 ·have:=h.lt;omega
 ·exact h.iv q
theorem HidB.io (hK:K.ios=[]) {g:Nat} (h:HidB K g):¬K.io g:=fun q=>by
 rcases q with q |q
 ·rw[hK] at q;cases q
 ·exact h.iv q
theorem HidB.heap (hK:K.ios=[]) {g:Nat} (h:HidB K g) (R:Rel K st a w p):w.heap[g]? =K.w0.heap[g]? :=R.old g h.lt (h.io hK)
theorem HidB.bx (hK:K.ios=[]) {g:Nat} (h:HidB K g) (R:Rel K st a w p) {n:Nat} (hn:p.lb n):p.bx n≠g:=fun e=>by
 obtain⟨cs,hcs⟩:=Option.isSome_iff_exists.1 ((R.lbi n).1 hn)
 rcases(R.box n cs hcs).mine with q |q
 ·have:=h.lt;rw[e] at q;omega
 ·exact h.io hK (e▸q)
theorem HidB.rw (hK:K.ios=[]) {g:Nat} (h:HidB K g) (R:Rel K st a w p) {n:Nat} (hn:p.lv n):(p.rw n).blk≠some g:=fun e=>by
 obtain⟨s,hs⟩:=Option.isSome_iff_exists.1 ((R.lvi n).1 hn)
 rcases(R.vec n s hs).mine g e with q |q
 ·have:=h.lt;omega
 ·exact h.iv q
theorem HidB.show {K K':Ctx P} (hK':K'.ios=[]) {g:Nat} (h:HidB K' g) (R:Rel K' st a w p) (ho:K.w0.heap.size≤g∨g∈K.ivs):okc K w p g:=
 ⟨Nat.lt_of_lt_of_le h.lt R.size,.inr ho,fun _ hn e=>h.bx hK' R hn e.symm,fun _ hn e=>h.rw hK' R hn e⟩
theorem Rel.turn (R:Rel K st a w p) (hK:K.ios=[]) {st':St} (W:Weak st st') {w2:World} (hs:w.heap.size≤w2.heap.size) (ho:w2.os=w.os∧w2.tape=w.tape∧w2.output=w.output)
  (h1:∀k,okc K w p k→w2.heap[k]? =w.heap[k]?) (h2:∀n,st'.lb n=true→w2.heap[p.bx n]? =w.heap[p.bx n]?) (h3:∀n g,st'.lv n=true→(p.rw n).blk=some g→w2.heap[g]? =w.heap[g]?) (hd:dr0 w≤dr0 w2)
  (K0:Ctx P) (hB:Back K0 K) (h5:∀k,k < K0.w0.heap.size→k∉K0.ivs→w2.heap[k]? =w.heap[k]?) (hK0:K0.ios=[]) (h6:∀k,K.w0.heap.size≤k∨k∈K.ivs→K0.w0.heap.size≤k∨k∈K0.ivs):
  ∃(K':Ctx P) (p':Pl),K'.ios=[]∧K'.w0=w2∧Rel K' st' a w2 p'∧(∀b,okc K' w2 p' b↔okc K w p b)∧Back K0 K'∧(∀k,K'.w0.heap.size≤k∨k∈K'.ivs→K0.w0.heap.size≤k∨k∈K0.ivs)∧
   (∀g,HidB K g→HidB K' g)∧(∀g,w.heap.size≤g→g < w2.heap.size→HidB K' g)∧(∀n g,st.lv n=true→st'.lv n=false→(p.rw n).blk=some g→HidB K' g∧(K0.w0.heap.size≤g∨g∈K0.ivs))∧(∀b,okc K w p b→b∉K'.ivs):=by
 classical
 have R0:=hB.rel _ _ _ _ R
 have hb:∀n,st'.lb n=true→p.lb n:=fun n hn=>by
  obtain⟨cs',hcs'⟩:=Option.isSome_iff_exists.1 hn
  obtain⟨cs,hcs,_⟩:=leBox_get W.box hcs'
  exact(R.lbi n).2 (by simp[St.lb,hcs])
 have hv:∀n,st'.lv n=true→p.lv n:=fun n hn=>by
  obtain⟨s,hs⟩:=Option.isSome_iff_exists.1 hn
  exact(R.lvi n).2 (by simp[St.lv,leVec_get W.vec hs])
 let L:=(List.range w.heap.size).filter fun b=>decide ((∃n,st'.lb n=true∧p.bx n=b)∨(∃n,st'.lv n=true∧(p.rw n).blk=some b))
 have memL:∀b,b∈L↔b < w.heap.size∧((∃n,st'.lb n=true∧p.bx n=b)∨(∃n,st'.lv n=true∧(p.rw n).blk=some b)):=fun b=>by
  simp only[L,List.mem_filter,List.mem_range,decide_eq_true_eq]
 have hLok:∀b,b∈L→¬okc K w p b:=fun b hbL q=>by
  rcases((memL b).1 hbL).2 with ⟨n,hn,e⟩ |⟨n,hn,e⟩
  ·exact q.2.2.1 n (hb n hn) e.symm
  ·exact q.2.2.2 n (hv n hn) e
 have hsee:∀q:Addr,okc K w p q.block→see w2 q=see w q:=fun q hq=>see_of_block (h1 _ hq)
 let K':Ctx P:=⟨w2,okc K w p,[],L,fun b i x h=>by
  obtain⟨g1,g2,g3⟩:=R.glob b i x h
  refine⟨⟨Nat.lt_of_lt_of_le g1.1 hs,g1,by simp,fun hm=>hLok b hm g1⟩,?_,?_⟩
  ·rw[← g2];exact World.cell?_of_block (h1 b g1)
  ·rw[← g3];exact World.cell?_of_block (h1 b g1)⟩
 let p':Pl:=⟨p.bx,p.rw,fun n=>st'.lb n=true,fun n=>st'.lv n=true⟩
 have hL1:∀b,b∈L→K.w0.heap.size≤b∨b∈K.ivs:=fun b hb'=>by
  obtain⟨_,⟨n,hn,e⟩ |⟨n,hn,e⟩⟩:=(memL b).1 hb'
  ·obtain⟨cs,hcs⟩:=Option.isSome_iff_exists.1 ((R.lbi n).1 (hb n hn))
   rcases(R.box n cs hcs).mine with h |h
   ·exact .inl (e▸h)
   ·rcases h with h |h
    ·rw[hK] at h;cases h
    ·exact .inr (e▸h)
  ·exact(R.vlt (hv n hn) e).1
 have hL:∀b,b∈L→K0.w0.heap.size≤b∨b∈K0.ivs:=fun b hb'=>h6 b (hL1 b hb')
 have hok:∀b,okc K w p b→okc K' w2 p' b:=fun b h=>⟨Nat.lt_of_lt_of_le h.1 hs,.inl h,fun n hn=>h.2.2.1 n (hb n hn),fun n hn=>h.2.2.2 n (hv n hn)⟩
 have hko:∀b,okc K' w2 p' b→okc K w p b:=fun b h=>by
  rcases h.2.1 with g |g |g
  ·exact g
  ·have:=h.1;have:w2.heap.size≤b:=g;omega
  ·obtain⟨g1,g2⟩:=(memL b).1 g
   rcases g2 with ⟨n,hn,e⟩ |⟨n,hn,e⟩
   ·exact absurd e.symm (h.2.2.1 n hn)
   ·exact absurd e (h.2.2.2 n hn)
 have hra:∀{x:AV} {v:Value},RA w (okc K w p) p x v→x.wf st'.lb st'.lv=true→RA w2 (okc K' w2 p') p' x v:=fun h hx=>RA.less (p:=p) (p':=p') hsee hok (fun n hn _=>⟨hn,rfl⟩) (fun n hn _=>⟨hn,rfl⟩) h hx
 have hrd:∀{x:D} {v:Value},RD w (okc K w p) x v→RD w2 (okc K' w2 p') x v:=fun h=>h.mono hsee hok
 refine⟨K',p',rfl,rfl,?_,fun k=>⟨hko k,hok k⟩,?_,fun k hk=>?_,fun g hg=>?_,fun g g1 g2=>?_,fun n g hn hn' hg=>⟨⟨Nat.lt_of_lt_of_le (R.vlt ((R.lvi n).2 hn) hg).2 hs,fun q=>q.2.2.2 n ((R.lvi n).2 hn) hg,fun q=>?_⟩,h6 g (R.vlt ((R.lvi n).2 hn) hg).1⟩,fun b hb q=>hLok b q hb⟩
 ·exact {
   lb:=rfl,lv:=rfl,dfr:=R.dfr,nt:=R.nt.trans W.nt.symm,ntl:=by rw[W.nt];exact R.ntl
   ion:=fun i h=>by have:=R.ion i (hb _ h);rw[hK] at this;simp at this
   size:=Nat.le_refl _,os:=rfl,tape:=rfl,dr:=Nat.le_refl _,output:=rfl,old:=fun _ _ _=>rfl
   env:=fun t y h=>by
    rcases leEnv_get W.env h with rfl |⟨h1,hw⟩
    ·exact .undef
    have hx:RA w (okc K w p) p (st.look t) (a.tmps.getD t undef):=R.opd (.tmp t)
    rcases h1 with rfl |h1 |⟨h1,rfl⟩ |⟨r,h1,rfl⟩
    ·exact .undef
    ·subst h1;exact hra hx hw
    ·rw[h1] at hx
     generalize a.tmps.getD t undef=v at hx ⊢
     cases hx with |nilS=>exact .d .snil
    ·rw[h1] at hx
     generalize a.tmps.getD t undef=v at hx ⊢
     cases hx with |full h=>exact .d (hrd h)
   box:=fun n cs' h=>by
    obtain⟨cs,hcs,hle⟩:=leBox_get W.box h
    obtain⟨q1,q2⟩:=leCells_get hle
    obtain⟨⟨vs,ty,g1,g2,g3,g4⟩,_⟩:=R.box n cs hcs
    have hn:st'.lb n=true:=by simp[St.lb,h]
    refine⟨⟨vs,ty,(h2 n hn).trans g1,by rw[g2,q1],fun i c v hc hv=>?_,g4⟩,.inr (.inr ((memL _).2 ⟨R.blt (hb n hn),.inl ⟨n,hn,rfl⟩⟩))⟩
    rcases q2 i c hc with rfl |⟨hc',hw⟩
    ·exact .undef
    ·exact hra (g3 i c v hc' hv) hw
   vec:=fun n s h=>by
    obtain⟨g1,g2,_⟩:=R.vec n s (leVec_get W.vec h)
    have hn:st'.lv n=true:=by simp[St.lv,h]
    exact⟨g1.mono hsee hok (fun g hg=>h3 n g hn hg),g2,fun g hg=>.inr ((memL _).2 ⟨(R.vlt (hv n hn) hg).2,.inr ⟨n,hn,hg⟩⟩)⟩
   dbb:=fun n m hn hm=>R.dbb n m (hb n hn) (hb m hm)
   dbv:=fun n m hn hm=>R.dbv n m (hb n hn) (hv m hm)
   dvv:=fun n m hn hm=>R.dvv n m (hv n hn) (hv m hm)}
 ·have hsz0:K0.w0.heap.size≤w2.heap.size:=Nat.le_trans R0.size hs
  have hback:∀(w':World) (p'':Pl) b,w2.heap.size≤w'.heap.size→okc K' w' p'' b→okc K0 w' p'' b:=fun w' p'' b hsz h=>⟨h.1,by
   rcases h.2.1 with g1 |g1 |g1
   ·exact(hB.ok _ _ _ _ b R g1).2.1
   ·exact .inr (.inl (Nat.le_trans hsz0 g1))
   ·rcases hL b g1 with g2 |g2
    ·exact .inr (.inl g2)
    ·exact .inr (.inr g2),h.2.2.1,h.2.2.2⟩
  have hrel:∀st' a' w' p',Rel K' st' a' w' p'→Rel K0 st' a' w' p':=fun st' a' w' p' R'=>by
   have hsame:∀b,b < w2.heap.size→b∉L→w'.heap[b]? =w2.heap[b]? :=fun b hb hl=>R'.old b hb fun h=>by
    rcases h with h |h
    ·cases h
    ·exact hl h
   have hback:=fun b=>hback w' p' b R'.size
   exact {
    lb:=R'.lb,lv:=R'.lv,dfr:=R'.dfr,nt:=R'.nt,ntl:=R'.ntl
    ion:=fun i h=>by have:=R'.ion i h;simp[K'] at this
    size:=Nat.le_trans hsz0 R'.size,os:=R'.os.trans (ho.1.trans R0.os),tape:=R'.tape.trans (ho.2.1.trans R0.tape),dr:=Nat.le_trans R0.dr (Nat.le_trans hd R'.dr),output:=R'.output.trans (ho.2.2.trans R0.output)
    old:=fun b hb hio=>by
     have hl:b∉L:=fun h=>by
      rcases hL b h with g |g
      ·omega
      ·exact hio (.inr g)
     exact(hsame b (Nat.lt_of_lt_of_le hb hsz0) hl).trans ((h5 b hb fun h=>hio (.inr h)).trans (R0.old b hb hio))
    env:=fun t x hx=>(R'.env t x hx).mono (fun _ _=>rfl) hback (fun _ h=>⟨h,rfl⟩) (fun _ h=>⟨h,rfl⟩)
    box:=fun n cs hcs=>by
     obtain⟨⟨vs,ty,g1,g2,g3,g4⟩,hm⟩:=R'.box n cs hcs
     refine⟨⟨vs,ty,g1,g2,fun i c v hc hv=>(g3 i c v hc hv).mono (fun _ _=>rfl) hback (fun _ h=>⟨h,rfl⟩) (fun _ h=>⟨h,rfl⟩),g4⟩,?_⟩
     rcases hm with hm |hm |hm
     ·exact .inl (Nat.le_trans hsz0 hm)
     ·cases hm
     ·rcases hL _ hm with h5 |h5
      ·exact .inl h5
      ·exact .inr (.inr h5)
    vec:=fun n s hs'=>by
     obtain⟨g1,g2,g3⟩:=R'.vec n s hs'
     refine⟨g1.mono (fun _ _=>rfl) hback (fun _ _=>rfl),g2,fun g hg=>?_⟩
     rcases g3 g hg with h5 |h5
     ·exact .inl (Nat.le_trans hsz0 h5)
     ·exact hL g h5
    dbb:=R'.dbb,dbv:=R'.dbv,dvv:=R'.dvv }
  exact⟨hsz0,hrel,fun st' a' w' p'' b R' h=>hback w' p'' b R'.size h⟩
 ·rcases hk with hk |hk
  ·exact .inl (Nat.le_trans (Nat.le_trans R0.size hs) hk)
  ·exact hL k hk
 ·refine⟨Nat.lt_of_lt_of_le hg.lt (Nat.le_trans R.size hs),hg.nok,fun q=>?_⟩
  rcases((memL g).1 q).2 with ⟨n,hn,e⟩ |⟨n,hn,e⟩
  ·exact hg.bx hK R (hb n hn) e
  ·exact hg.rw hK R (hv n hn) e
 ·refine⟨g2,fun q=>by have:=q.1;omega,fun q=>by have:=((memL g).1 q).1;omega⟩
 ·rcases((memL g).1 q).2 with ⟨m,hm,e⟩ |⟨m,hm,e⟩
  ·exact R.dbv m n (hb m hm) ((R.lvi n).2 hn) (e▸hg)
  ·by_cases hnm:m=n
   ·subst hnm;rw[hn'] at hm;cases hm
   ·rcases R.dvv m n (hv m hm) ((R.lvi n).2 hn) hnm with h |h
    ·rw[h] at e;cases e
    ·exact h (e.trans hg.symm)
end
def FlatD:D→Prop
 | .int _ _=>True
 | .bool _=>True
 | .str _=>True
 |_=>False
theorem FlatD.rd {w w':World} {ok ok':Nat→Prop} {d:D} {v:Value} (h:FlatD d) (hr:RD w ok d v):RD w' ok' d v:=by
 cases hr with
 |int=>exact .int
 |bool=>exact .bool
 |str=>exact .str
 |nilp=>exact h.elim
 |snil=>exact h.elim
 |slice=>exact h.elim
 |mp=>exact h.elim
section
variable {P:Program} {α:Type}
structure HEnt (w:World) (hid:Nat→Prop) (kd:IntKind) (f:α→List D) (e:TypeId) (z:Nat) (q:Int×List α) (en:MapEntry):Prop where
 key:en.key=.int kd q.1
 own:∃xv,w.ownsRow 0 e z en.val q.2.length xv∧∀(i:Nat) (d:D) (v:Value),(rowsF f q.2).flatten[i]? =some d→xv[i]? =some v→RD w (fun _=>False) d v
 hid:∀g,en.val.blk=some g→hid g
structure HMap (w:World) (hid:Nat→Prop) (kd:IntKind) (f:α→List D) (e:TypeId) (z:Nat) (b:Nat) (L:List (Int×List α)) (es:Array MapEntry) (clock:Nat):Prop where
 hidb:hid b
 map:w.heap[b]? =some (.map es clock)
 size:es.size=L.length
 ent:∀(j:Nat) (q:Int×List α) (en:MapEntry),L[j]? =some q→es[j]? =some en→HEnt w hid kd f e z q en
 apart:∀(i j:Nat) (en en':MapEntry) (g:Nat),es[i]? =some en→es[j]? =some en'→en.val.blk=some g→en'.val.blk=some g→i=j
 born:∀en∈es.toList,en.born < clock
 nodup:(es.toList.map (·.born)).Nodup
variable {w w':World} {hid hid':Nat→Prop} {kd:IntKind} {f:α→List D} {e:TypeId} {z:Nat} {b:Nat} {L:List (Int×List α)} {es:Array MapEntry} {clock:Nat}
theorem HEnt.mono {q:Int×List α} {en:MapEntry} (h:HEnt w hid kd f e z q en) (hh:∀g,en.val.blk=some g→hid g→hid' g) (hw:∀g,en.val.blk=some g→w'.heap[g]? =w.heap[g]?):HEnt w' hid' kd f e z q en:=by
 obtain⟨xv,h1,h2⟩:=h.own
 exact⟨h.key,⟨xv,ownsRow_congr h1 hw,fun i d v h3 h4=>(h2 i d v h3 h4).mono (fun _ h=>h.elim) (fun _ h=>h.elim)⟩,fun g hg=>hh g hg (h.hid g hg)⟩
theorem HMap.mono (h:HMap w hid kd f e z b L es clock) (hh:∀g,hid g→hid' g) (hw:∀g,hid g→w'.heap[g]? =w.heap[g]?):HMap w' hid' kd f e z b L es clock:=
 ⟨hh _ h.hidb,(hw _ h.hidb).trans h.map,h.size,fun j q en h1 h2=>(h.ent j q en h1 h2).mono (fun g _=>hh g) fun g hg=>hw g ((h.ent j q en h1 h2).hid g hg),h.apart,h.born,h.nodup⟩
def putE (es:Array MapEntry) (clock:Nat) (kd:IntKind) (k:Int) (v:Value) (q:Option (Nat×List α)):Obj:=match q with
 |none=>.map (es.push { key:=.int kd k,val:=v,born:=clock }) (clock+1)
 |some q=>.map (es.modify q.1 fun e=>{ e with key:=.int kd k,val:=v }) clock
theorem HMap.find (h:HMap w hid kd f e z b L es clock) {t kt et:TypeId} (hu:P.underlying t=some (.map kt et)) (hk:P.underlying kt=some (.int kd)) (hz:∀w,(zeroValue et).run P w=.ok (.slice none 0 0) w) (k:Int):
  ∃v,(Instr.lookup t (.map (some b)) (.int kd k) false).run P w=.ok v w∧
   ((mfind inE k L=none∧v=.slice none 0 0)∨∃j l en,mfind inE k L=some (j,l)∧es[j]? =some en∧v=en.val)∧
   ∀(w2:World) (v2:Value),w2.heap[b]? =some (.map es clock)→(Instr.mapUpdate t (.map (some b)) (.int kd k) v2).run P w2=.ok () { w2 with heap:=w2.heap.setIfInBounds b (putE es clock kd k v2 (mfind inE k L))}:=by
 have hkb:=keyB_int (P:=P) hk k
 have hra:∀w:World,RA w (fun _=>False) ⟨fun _=>0,fun _=>undef,fun _=>False,fun _=>False⟩ (.d (.int kd k)) (.int kd k):=fun w=>.d .int
 have hlen:es.toList.length=(rowsF (mRow (iRow kd) fun l:List α=>[.slice (rowsF f l)]) L).length:=by simp[rowsF,h.size]
 have hrow:∀(w:World) (j:Nat) (row:List D) (en:MapEntry),(rowsF (mRow (iRow kd) fun l:List α=>[.slice (rowsF f l)]) L)[j]? =some row→es.toList[j]? =some en→PackD w (fun _=>False) false (row.take 1) en.key:=fun w j row en h1 h2=>by
  obtain⟨q,hq,rfl⟩:∃q,L[j]? =some q∧mRow (iRow kd) (fun l=>[.slice (rowsF f l)]) q=row:=by simpa[rowsF] using h1
  have hen:=h.ent j q en hq (by rw[← Array.getElem?_toList];exact h2)
  unfold PackD
  rw[if_neg (by decide)]
  exact⟨.int kd q.1,rfl,by rw[hen.key];exact .int⟩
 have hck:=fun (w:World) e=>checkKey_ok (w:=w) hkb (hra w) e
 have hf:=findM_int (P:=P) (g:=fun l:List α=>[.slice (rowsF f l)]) hk k L
 cases hm:mfind inE k L with
 |none=>
  rw[hm] at hf
  have hfk:∀w:World,(Instr.findKey kt (.int kd k) es.toList).run P w=.ok none w:=fun w=>by
   obtain⟨r,f1,f2⟩:=findKey_ok hkb (hra w) hlen (hrow w) hf
   rw[show r=none from f2] at f1;exact f1
  refine⟨_,?_,.inl ⟨rfl,rfl⟩,fun w2 v2 hb=>?_⟩
  ·simp[Instr.lookup,run_underlying hu,Result.andThen,MapKept.run_getObj_map h.map,hck,hfk,hz]
  ·simp[putE,Instr.mapUpdate,run_underlying hu,Result.andThen,MapKept.run_getObj_map hb,hck,hfk,MapKept.run_setObj_map _ hb]
 |some q=>
  rw[hm] at hf
  obtain⟨j,l⟩:=q
  have hfk:∀w:World,∃en,es.toList[j]? =some en∧(Instr.findKey kt (.int kd k) es.toList).run P w=.ok (some (j,en.val)) w∧Instr.sameBits 10000 en.key (.int kd k)=true:=fun w=>by
   obtain⟨r,f1,f2⟩:=findKey_ok hkb (hra w) hlen (hrow w) hf
   obtain⟨en,row,g1,g2,g3,g4,g5⟩:=f2
   subst g5
   rw[Nat.zero_add] at f1
   exact⟨en,g1,f1,kEq_same hkb g4 (hra w) (hrow w _ _ _ g2 g1)⟩
  obtain⟨en,g1,g2,g3⟩:=hfk w
  refine⟨en.val,?_,.inr ⟨j,l,en,rfl,by rw[← Array.getElem?_toList];exact g1,rfl⟩,fun w2 v2 hb=>?_⟩
  ·simp[Instr.lookup,run_underlying hu,Result.andThen,MapKept.run_getObj_map h.map,hck,g2]
  ·obtain⟨en',g1',g2',g3'⟩:=hfk w2
   have e0:en'=en:=by rw[g1] at g1';exact(Option.some.inj g1').symm
   subst e0
   have ga:es[j]? =some en':=by rw[← Array.getElem?_toList];exact g1
   simp[putE,Instr.mapUpdate,run_underlying hu,Result.andThen,MapKept.run_getObj_map hb,hck,g2',MapKept.run_setObj_map _ hb,Instr.keyThatStays,ga,g3]
end
end Go.Vl
namespace Go.Vl
open Go Go.RowKit
section
variable {P:Program} {α:Type} {K K0:Ctx P} {st:St} {a:Act} {w:World} {p:Pl} {kd:IntKind} {f:α→List D} {e:TypeId} {z:Nat} {b:Nat} {L:List (Int×List α)} {es:Array MapEntry} {clock:Nat}
def HidM (K0 K:Ctx P) (g:Nat):Prop:=HidB K g∧(K0.w0.heap.size≤g∨g∈K0.ivs)
theorem mfind_get {ν:Type} (k:Int):∀(l:List (Int×ν)) (j:Nat) (v:ν),mfind inE k l=some (j,v)→l[j]? =some (k,v)
 |[],j,v,h=>by simp[mfind] at h
 |x::l,j,v,h=>by
  simp only[mfind] at h
  split at h
  ·rename_i e
   cases h
   have:k=x.1:=by simpa[inE] using e
   subst this;rfl
  ·cases hm:mfind inE k l with
   |none=>simp[hm] at h
   |some q=>
    simp only[hm,Option.map_some,Option.some.injEq,Prod.mk.injEq] at h
    obtain⟨rfl,rfl⟩:=h
    simpa using mfind_get k l q.1 q.2 hm
end
end Go.Vl
namespace Go.Vl
open Go Go.RowKit
section
variable {P:Program} {α:Type} {K0:Ctx P} {kd:IntKind} {f:α→List D} {e:TypeId} {z t b:Nat} {L:List (Int×List α)} {st:St} {a:Act} {w:World}
def HI (K0:Ctx P) (kd:IntKind) (f:α→List D) (e:TypeId) (z t b:Nat) (L:List (Int×List α)) (st:St) (a:Act) (w:World):Prop:=
 ∃(K:Ctx P) (p:Pl) (es:Array MapEntry) (clock:Nat),K.ios=[]∧Back K0 K∧(∀k,K.w0.heap.size≤k∨k∈K.ivs→K0.w0.heap.size≤k∨k∈K0.ivs)∧Rel K st a w p∧HMap w (HidM K0 K) kd f e z b L es clock∧a.eval (.tmp t)=.map (some b)
theorem HI.weak (h:HI K0 kd f e z t b L st a w) {st':St} (W:Weak st st'):HI K0 kd f e z t b L st' a w:=by
 obtain⟨K,p,es,clock,h1,h2,h3,R,h5,h6⟩:=h
 obtain⟨p',R',_⟩:=R.weak0 W
 exact⟨K,p',es,clock,h1,h2,h3,R',h5,h6⟩
theorem HI.frzB (h:HI K0 kd f e z t b L st a w) {n:Nat} {cs:List AV} {row:List D} (hb:get st.box n=some cs) (hd:toDs cs=some row) (hn:n < 1000000):HI K0 kd f e z t b L (st.frzB n row) a w:=by
 obtain⟨K,p,es,clock,h1,h2,h3,R,h5,h6⟩:=h
 obtain⟨p',R'⟩:=R.frzB hb hd (by rw[h1];rfl) hn (fun i hi=>absurd hi (Nat.not_lt_zero i))
 exact⟨K,p',es,clock,h1,h2,h3,R',h5,h6⟩
theorem HI.bool (h:HI K0 kd f e z t b L st a w) {s:Nat} {c:Bool} (hs:st.look s=.d (.bool c)):a.eval (.tmp s)=.bool c:=by
 obtain⟨K,p,es,clock,h1,h2,h3,R,h5,h6⟩:=h
 exact wp_bool R hs
theorem HMap.keep {K:Ctx P} {p p':Pl} {st':St} {a':Act} {w':World} {es:Array MapEntry} {clock:Nat} (hK:K.ios=[]) (R:Rel K st a w p) (R':Rel K st' a' w' p') (h:HMap w (HidM K0 K) kd f e z b L es clock):HMap w' (HidM K0 K) kd f e z b L es clock:=
 h.mono (fun _ h=>h) fun g hg=>(hg.1.heap hK R').trans (hg.1.heap hK R).symm
theorem HI.wpl (h:HI K0 kd f e z t b L st a w) {ops:Array Oper} {l:List Oper} {st1:St} {F:Exit→Act→World→Prop} (hT:∀K:Ctx P,TOps P K ops l st (endQ st1)) (hd:∀o∈l,o.dst≠some t) (H:∀a w,HI K0 kd f e z t b L st1 a w→F .normal a w):wpList P ops F l a w:=by
 obtain⟨K,p,es,clock,h1,h2,h3,R,h5,h6⟩:=h
 exact wpl_reg (hT K) hd R h6 fun a' w' p' R' hv=>H a' w' ⟨K,p',es,clock,h1,h2,h3,R',h5.keep h1 R R',hv⟩
theorem HI.reg (h:HI K0 kd f e z t b L st a w) {id:Nat} {l:List Oper} {y:Code} {st1:St} {F:Exit→Act→World→Prop} (hT:∀K:Ctx P,TOps P K l.toArray l st (endQ st1)) (hd:∀o∈l,o.dst≠some t) (H:∀a w,HI K0 kd f e z t b L st1 a w→y.wp P F a w):(Code.seq (.region id l.toArray false) y).wp P F a w:=
 wp_seq (wp_region_lit (h.wpl hT hd H))
theorem HI.regL (h:HI K0 kd f e z t b L st a w) {id:Nat} {l:List Oper} {st1:St} {F:Exit→Act→World→Prop} (hT:∀K:Ctx P,TOps P K l.toArray l st (endQ st1)) (hd:∀o∈l,o.dst≠some t) (H:∀a w,HI K0 kd f e z t b L st1 a w→F .normal a w):(Code.region id l.toArray false).wp P F a w:=
 wp_region_lit (h.wpl hT hd H)
theorem HI.back (h:HI K0 kd f e z t b L st a w):∃p,Rel K0 st a w p:=by
 obtain⟨K,p,es,clock,h1,h2,h3,R,h5,h6⟩:=h
 exact⟨p,h2.rel _ _ _ _ R⟩
theorem HI.start {p:Pl} (R:Rel K0 st a w p) (hK:K0.ios=[]) {n tm:Nat} (hn:get st.vec n=some ⟨mTag tm 1 false false,2,[]⟩) (ht:get st.env t=some (.vec n)) {st':St} (W:Weak st st') (hv:st'.lv n=false):∃b,HI K0 kd f e z t b ([]:List (Int×List α)) st' a w:=by
 obtain⟨hat,hz,hbm⟩:=R.vec n _ hn
 obtain⟨b,es,clock,hrw,hb,hM⟩:=hat.map (tag_M _ _ _ _ _ _)
 have hreg:a.eval (.tmp t)=.map (some b):=by
  have:=R.env t (.vec n) ht
  simp only[Act.eval]
  generalize a.tmps.getD t undef=u at this
  cases this;exact hrw
 obtain⟨K',p',t1,t2,t3,t4,t5,t6,t7,t8,t9,t10⟩:=R.turn hK W (w2:=w) (Nat.le_refl _) ⟨rfl,rfl,rfl⟩ (fun _ _=>rfl) (fun _ _=>rfl) (fun _ _ _ _=>rfl) (Nat.le_refl _) K0 (Back.refl K0) (fun _ _ _=>rfl) hK (fun _ h=>h)
 have hs:es.size=0:=hM.size
 have he:es= #[]:=Array.eq_empty_of_size_eq_zero hs
 subst he
 obtain⟨u1,u2⟩:=t9 n b (by simp[St.lv,hn]) hv (by rw[hrw];rfl)
 exact⟨b,K',p',#[],clock,t1,t5,t6,t3,⟨⟨u1,u2⟩,hb,rfl,fun j q en h=>by simp at h,fun i j en en' g h=>by simp at h,fun en h=>by simp at h,by simp⟩,hreg⟩
end
end Go.Vl
namespace Go.Vl
open Go Go.RowKit
section
variable {P:Program} {α:Type} {K0 K:Ctx P} {kd:IntKind} {f:α→List D} {e:TypeId} {z t b:Nat} {L:List (Int×List α)} {st:St} {a:Act} {w:World} {p:Pl} {es:Array MapEntry} {clock:Nat}
structure SeeB (K:Ctx P) (g:Nat):Prop where
 lt:g < K.w0.heap.size
 ok:K.ok0 g
 iv:g∉K.ivs
theorem SeeB.okc (hK:K.ios=[]) {g:Nat} (h:SeeB K g) (R:Rel K st a w p):okc K w p g:=
 ⟨Nat.lt_of_lt_of_le h.lt R.size,.inl h.ok,fun n hn e=>by
  obtain⟨cs,hcs⟩:=Option.isSome_iff_exists.1 ((R.lbi n).1 hn)
  rcases(R.box n cs hcs).mine with q |q |q
  ·have:=h.lt;omega
  ·rw[hK] at q;cases q
  ·exact h.iv (e▸q),fun n hn e=>by
  obtain⟨s,hs⟩:=Option.isSome_iff_exists.1 ((R.lvi n).1 hn)
  rcases(R.vec n s hs).mine g e with q |q
  ·have:=h.lt;omega
  ·exact h.iv q⟩
theorem SeeB.heap (hK:K.ios=[]) {g:Nat} (h:SeeB K g) (R:Rel K st a w p):w.heap[g]? =K.w0.heap[g]? :=R.old g h.lt fun q=>by
 rcases q with q |q
 ·rw[hK] at q;cases q
 ·exact h.iv q
def SeeS (K:Ctx P) (w':World):Prop:=∀g,SeeB K g→w'.heap[g]? =K.w0.heap[g]?
theorem SeeS.of (hK:K.ios=[]) (R:Rel K st a w p):SeeS K w:=fun _ h=>h.heap hK R
theorem HI.draw (h:HI K0 kd f e z t b L st a w) {st':St} (W:Weak st st') (hK0:K0.ios=[]) (hm:P.follows .mixedOrders=true) {id:Nat} {ops:Array Oper} {F:Exit→Act→World→Prop}
  (H:∀(K:Ctx P) (p:Pl) (es:Array MapEntry) (clock:Nat) (w:World),K.ios=[]→Back K0 K→(∀k,K.w0.heap.size≤k∨k∈K.ivs→K0.w0.heap.size≤k∨k∈K0.ivs)→Rel K st' a w p→HMap w (HidM K0 K) kd f e z b L es clock→a.eval (.tmp t)=.map (some b)→(∀g,okc K w p g→SeeB K g)→
   wpAnyH P .any ops F (SeeS K) ops.size (Array.replicate ops.size false) a w):(Code.region id ops true).wp P F a w:=by
 obtain⟨K,p,es,clock,h1,h2,h3,R,h5,h6⟩:=h
 have R1:=R.drew
 obtain⟨K',p',t1,t2,t3,t4,t5,t6,t7,t8,t9,t10⟩:=R1.turn h1 W (w2:={ w with drawn:=w.drawn+1 }) (Nat.le_refl _) ⟨rfl,rfl,rfl⟩ (fun _ _=>rfl) (fun _ _=>rfl) (fun _ _ _ _=>rfl) (Nat.le_refl _) K0 h2 (fun _ _ _=>rfl) hK0 h3
 refine wp_region_held hm (H K' p' es clock _ t1 t5 t6 t3 ?_ h6 fun g hg=>?_)
 ·exact HMap.mono (w:=w) h5 (fun g hg=>⟨t7 g hg.1,hg.2⟩) (fun _ _=>rfl)
 ·have hg0:=(t4 g).1 hg
  have hiv:=t10 g hg0
  have hlt:g < K'.w0.heap.size:=by rw[t2];exact hg.1
  refine⟨hlt,?_,hiv⟩
  rcases hg.2.1 with q |q |q
  ·exact q
  ·omega
  ·exact absurd q hiv
theorem SeeS.agree (hK:K.ios=[]) (R:Rel K st a w p) (hsee:∀g,Vl.okc K w p g→SeeB K g) {w':World} (h:SeeS K w'):∀g,Vl.okc K w p g→w'.heap[g]? =w.heap[g]? :=fun g hg=>(h g (hsee g hg)).trans ((hsee g hg).heap hK R).symm
theorem wp_int {s:Nat} {k:IntKind} {n:Int} (R:Rel K st a w p) (h:st.look s=.d (.int k n)):a.eval (.tmp s)=.int k n:=by
 have:=R.opd (.tmp s)
 have ho:opd st (.tmp s)=.d (.int k n):=h
 rw[ho] at this
 generalize a.eval (.tmp s)=v at this
 cases this with |d h=>cases h;rfl
theorem wp_tr {c:Code} {Q:Exit→St→Prop} {F:Exit→Act→World→Prop} (R:Rel K st a w p) (T:Tr P K c st Q) (H:∀e s a' w' p',Rel K s a' w' p'→Q e s→F e a' w'):c.wp P F a w:=
 wp_mono (T a w p R) fun e a' w' ⟨s,p',R',hq⟩=>H e s a' w' p' R' hq
theorem wpOp_val {ops:Array Oper} {F:Exit→Act→World→Prop} {Q':Act→World→Prop} {i:Nat} {o:Oper} {v:Value} {w':World} (ho:ops[i]? =some o) (hg:o.guard=none) (hr:(execOp a.eval o).run P w=.ok (.value v) w') (h:Q' (a.put o.dst v) w'):wpOp P ops F i Q' a w:=by
 unfold wpOp
 simp only[ho]
 rw[show Region.wanted o (yielded ops a.tmps)=true by simp[Region.wanted,hg],if_pos rfl]
 refine .inl ?_
 unfold Oper.wp
 rw[hr];exact h
theorem wpOp_step {ops:Array Oper} {F:Exit→Act→World→Prop} {Q':Act→World→Prop} {i d:Nat} {o:Oper} {st1:St} (R:Rel K st a w p) (ho:ops[i]? =some o) (hg:o.guard=none) (hd:o.dst=some d) (hs:step P st o=some st1)
  (H:∀v w' p',Rel K st1 (a.put (some d) v) w' p'→Q' (a.put (some d) v) w'):wpOp P ops F i Q' a w:=by
 unfold wpOp
 simp only[ho]
 rw[show Region.wanted o (yielded ops a.tmps)=true by simp[Region.wanted,hg],if_pos rfl]
 refine .inl ?_
 unfold Oper.wp
 obtain⟨w',p',h |h⟩:=step_sound R hs
 ·obtain⟨v,e,R'⟩:=h
  rw[e]
  show Q' (a.put o.dst v) w'
  rw[hd] at R' ⊢;exact H _ _ _ R'
 ·obtain⟨e,R'⟩:=h
  rw[e]
  show Q' (a.put o.dst undef) w'
  rw[hd] at R' ⊢;exact H _ _ _ R'
theorem stills_of3 {ops:Array Oper} {st1:St} {is:List Nat} {ol:List (Option Oper)} (hol:is.map (ops[·]?)=ol) {os:List Oper} (hoo:ol.filterMap (fun x=>x)=os) (hos:ol=os.map some) (h':stillsL P ops os st=some st1):stills P ops is st=some st1:=(stills_of (hol.trans hos)).symm.trans h'
def noT (ops:Array Oper) (T is:List Nat):Bool:=is.all fun i=>match ops[i]? with |some o=>T.all fun t=>o.dst != some t |none=>true
theorem noT_spec {ops:Array Oper} {T is:List Nat} (h:noT ops T is=true):∀i∈is,∀o,ops[i]? =some o→∀t∈T,o.dst≠some t:=fun i hi o ho t ht=>by
 have:=List.all_eq_true.1 h i hi
 rw[ho] at this
 simpa using List.all_eq_true.1 this t ht
theorem take_mv {ops:Array Oper} {F:Exit→Act→World→Prop} {S:World→Prop} {n i d t:Nat} {listed:Array Bool} {o:Oper} {v:Value} (hi:ops[i]? =some o) (hs:Region.noSelect ops=true) (hf:Region.free .any ops listed i=true) (hr:(Region.ready .any ops listed).contains i=true) (hF:∀c a w,¬F (.panic c) a w) (hg:o.guard=none) (hd:o.dst=some d)
  (ho:o.op=.move (.tmp t)) (hv:a.eval (.tmp t)=v) (hS0:S w) (H:wpAnyH P .any ops F S n (listed.setIfInBounds i true) (a.put (some d) v) w):wpAnyH P .any ops F S (n+1) listed a w:=by
 refine wpAnyH_take (v:=v) hi hs hf hr (fun c a w q=>absurd q (hF c _ w)) (.inl ⟨by simp[Region.wanted,hg],fun w' _=>by simp[execOp,ho,hv]⟩) hS0 ?_
 rw[hd];exact H
end
end Go.Vl
