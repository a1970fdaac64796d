/- A hidden map of rows: a new row put in; looked up with 'found'; a clone of a row of it. Conditions: none. -/
import Derived.Test.YthpiljonjcfgcaaDoorVmHg
import Derived.Test.YthpiljonjcfgcaaDoorVmFw
import Derived.Test.YthpiljonjcfgcaaDoorVmHr
set_option linter.unusedSimpArgs false
set_option linter.unusedVariables false
namespace Go.Vl
open Go Go.RowKit
section
variable {P:Program} {α:Type} {K K0:Ctx P} {st:St} {a:Act} {w:World} {p:Pl} {kd:IntKind} {f:α→List D} {e:TypeId} {z:Nat} {b:Nat} {L:List (Int×List α)} {es:Array MapEntry} {clock:Nat}
theorem HMap.stepN (R:Rel K st a w p) (hK:K.ios=[]) (hK0:K0.ios=[]) (hB:Back K0 K) (h6:∀k,K.w0.heap.size≤k∨k∈K.ivs→K0.w0.heap.size≤k∨k∈K0.ivs) (H:HMap w (HidM K0 K) kd f e z b L es clock)
  {t kt et:TypeId} (hu:P.underlying t=some (.map kt et)) (hk:P.underlying kt=some (.int kd)) (hz:∀w,(zeroValue et).run P w=.ok (.slice none 0 0) w) {ts:TypeId} (hus:P.underlying ts=some (.slice e)) {zs:List AV} (hzs:zerOf P e=some zs) (hzl:zs.length=z) (hpos:0 < z)
  (hby:byOk P e=true) (hfl:∀x,∀d∈f x,FlatD d) (hfz:∀x,(f x).length=z) (k:Int) {v:Value} (hk0:mfind inE k L=none) {l0:List α} (hown0:∃xv,w.ownsRow 0 e z v l0.length xv∧∀(i:Nat) (d:D) (v:Value),(rowsF f l0).flatten[i]? =some d→xv[i]? =some v→RD w (fun _=>False) d v) (hvb:∀g,v.blk=some g→HidM K0 K g) (hap:∀(j:Nat) (en:MapEntry) (g:Nat),es[j]? =some en→en.val.blk=some g→v.blk≠some g)
  {y:AV} {u:Value} {x:α} (hy:rowsOf st y=some [f x]) (hyu:RA w (okc K w p) p y u) (hsz:l0.length+1≤268435456) (ty:TypeId):
  ∃v' w1,(Builtin.append_ #[ts,ts] ty #[v,u]).run P w=.ok v' w1∧(∀g,okc K w p g→w1.heap[g]? =w.heap[g]?)∧∃w2,(Instr.mapUpdate t (.map (some b)) (.int kd k) v').run P w1=.ok () w2∧(∀g,okc K w p g→w2.heap[g]? =w.heap[g]?)∧
   ∀st1 a1 st',Rel K st1 a1 w p→Weak st1 st'→∃K' p' es' clock',K'.ios=[]∧K'.w0=w2∧Rel K' st' a1 w2 p'∧Back K0 K'∧(∀k,K'.w0.heap.size≤k∨k∈K'.ivs→K0.w0.heap.size≤k∨k∈K0.ivs)∧
    HMap w2 (HidM K0 K') kd f e z b (L++[(k,l0++[x])]) es' clock':=by
 subst hzl
 have hmb:=H.map
 have hsz':(rowsF f l0).length+[f x].length≤268435456:=by simpa[rowsF] using hsz
 have hown0:∃xv,w.ownsRow 0 e zs.length v (rowsF f l0).length xv∧∀(i:Nat) (d:D) (v:Value),(rowsF f l0).flatten[i]? =some d→xv[i]? =some v→RD w (fun _=>False) d v:=by simpa[rowsF] using hown0
 obtain⟨xv,hown,hxr⟩:=hown0
 obtain⟨v',w1,xv',hrun,hown',hg,hblk,hxr'⟩:=app_own (ty:=ty) hus hzs hpos hby R hown hy hyu (by simpa using hfz x) hsz' (fun r hr=>by
  unfold rowsF at hr;obtain⟨y,_,rfl⟩:=List.mem_map.1 hr;exact hfz y) (fun i d v h1 h2=>(hxr i d v h1 h2).mono (fun _ h=>h.elim) (fun _ h=>h.elim))
 have hflat:∀(i:Nat) (d:D),(rowsF f (l0++[x])).flatten[i]? =some d→FlatD d:=fun i d hd=>by
  obtain⟨r,hr,hd⟩:=List.mem_flatten.1 (List.mem_of_getElem? hd)
  unfold rowsF at hr;obtain⟨y,_,rfl⟩:=List.mem_map.1 hr;exact hfl y d hd
 have hrows:rowsF f l0++[f x]=rowsF f (l0++[x]):=by simp[rowsF]
 rw[hrows] at hown' hxr'
 have hlen':(rowsF f (l0++[x])).length=(l0++[x]).length:=by simp[rowsF]
 rw[hlen'] at hown'
 -- what is turned
 have hbv:v.blk≠some b:=fun e=>by
  rcases hown.2 with ⟨h0,_⟩ |⟨g,cap,cur,h0,_,h1,_⟩
  ·rw[h0] at e;cases e
  ·rw[h0] at e
   have:g=b:=Option.some.inj e
   rw[this,hmb] at h1;cases h1
 have hb1:w1.heap[b]? =some (.map es clock):=(hg.block b (Nat.lt_of_lt_of_le H.hidb.1.lt R.size) (fun e=>hbv e.symm)).trans hmb
 obtain⟨v0,hlk,_,hup⟩:=H.find hu hk hz k
 have hup:=hup w1 v' hb1
 have hne1:∀g,g < w.heap.size→v.blk≠some g→w1.heap[g]? =w.heap[g]? :=fun g h1 h2=>hg.block g h1 (fun e=>h2 e.symm)
 refine⟨v',w1,hrun,fun g hok=>hne1 g hok.1 (fun e=>(hvb g e).1.nok hok),?_⟩
 generalize hoo:putE es clock kd k v' (mfind inE k L)=oo at hup
 have hne2:∀g,g≠b→({ w1 with heap:=w1.heap.setIfInBounds b oo }:World).heap[g]? =w1.heap[g]? :=fun g hgb=>by
  simp[Array.getElem?_setIfInBounds_ne (Ne.symm hgb)]
 have hbs:b < w1.heap.size:=(Array.getElem?_eq_some_iff.1 hb1).1
 have hb2:({ w1 with heap:=w1.heap.setIfInBounds b oo }:World).heap[b]? =some oo:=by simp[hbs]
 have hs2:({ w1 with heap:=w1.heap.setIfInBounds b oo }:World).heap.size=w1.heap.size:=by simp
 have ho2:({ w1 with heap:=w1.heap.setIfInBounds b oo }:World).os=w.os∧({ w1 with heap:=w1.heap.setIfInBounds b oo }:World).tape=w.tape∧({ w1 with heap:=w1.heap.setIfInBounds b oo }:World).output=w.output:=⟨hg.os,hg.tape,hg.output⟩
 generalize ({ w1 with heap:=w1.heap.setIfInBounds b oo }:World)=w2 at *
 have hne:∀g,g < w.heap.size→v.blk≠some g→g≠b→w2.heap[g]? =w.heap[g]? :=fun g h1 h2 h3=>(hne2 g h3).trans (hne1 g h1 h2)
 have hokk:∀g,okc K w p g→w2.heap[g]? =w.heap[g]? :=fun g hok=>hne g hok.1 (fun e=>(hvb g e).1.nok hok) (fun e=>by subst e;exact H.hidb.1.nok hok)
 refine⟨w2,hup,hokk,fun st1 a1 st' R1 W=>?_⟩
 have hbx:∀n,st'.lb n=true→p.lb n:=fun n hn=>by
  obtain⟨cs',hcs'⟩:=Option.isSome_iff_exists.1 hn
  obtain⟨cs,hcs,_⟩:=leBox_get W.box hcs'
  exact(R1.lbi n).2 (by simp[St.lb,hcs])
 have hvx:∀n,st'.lv n=true→p.lv n:=fun n hn=>by
  obtain⟨s,hs⟩:=Option.isSome_iff_exists.1 hn
  exact(R1.lvi n).2 (by simp[St.lv,leVec_get W.vec hs])
 have R0:=hB.rel _ _ _ _ R
 obtain⟨K',p',t1,t2,t3,t4,t5,t6,t7,t8,_,_⟩:=R1.turn hK W (w2:=w2) (by rw[hs2];exact hg.size) ho2 hokk
  (fun n hn=>hne _ (R1.blt (hbx n hn)) (fun e=>(hvb _ e).1.bx hK R1 (hbx n hn) rfl) (fun e=>H.hidb.1.bx hK R1 (hbx n hn) e))
  (fun n g hn hg=>hne g (R1.vlt (hvx n hn) hg).2 (fun e=>(hvb _ e).1.rw hK R1 (hvx n hn) hg) (fun e=>by subst e;exact H.hidb.1.rw hK R1 (hvx n hn) hg))
  (Nat.le_refl _) K0 hB (fun k h1 h2=>hne k (Nat.lt_of_lt_of_le h1 R0.size) (fun e=>by rcases(hvb k e).2 with h |h;omega;exact h2 h) (fun e=>by subst e;rcases H.hidb.2 with h |h;omega;exact h2 h)) hK0 h6
 have hmon:∀g,HidM K0 K g→HidM K0 K' g:=fun g h=>⟨t7 g h.1,h.2⟩
 have hnew:HidM K0 K' w.heap.size∨v'.blk≠some w.heap.size:=by
  by_cases he:v'.blk=some w.heap.size
  ·refine .inl ⟨t8 _ (Nat.le_refl _) ?_,.inl R0.size⟩
   rw[hs2]
   rcases hown'.2 with ⟨h0,_⟩ |⟨g,cap,cur,h0,_,h1,_⟩
   ·rw[h0] at he;cases he
   ·rw[h0] at he
    have:g=w.heap.size:=Option.some.inj he
    rw[this] at h1
    exact(Array.getElem?_eq_some_iff.1 h1).1
  ·exact .inr he
 have hv'h:∀g,v'.blk=some g→HidM K0 K' g:=fun g hgv=>by
  rcases hblk with h |h
  ·exact hmon g (hvb g (h▸hgv))
  ·rcases hnew with h2 |h2
   ·rw[h] at hgv;cases hgv;exact h2
   ·exact absurd h h2
 have hv'b:v'.blk≠some b:=fun e=>by
  rcases hown'.2 with ⟨h0,_⟩ |⟨g,cap,cur,h0,_,h1,_⟩
  ·rw[h0] at e;cases e
  ·rw[h0] at e
   have:g=b:=Option.some.inj e
   rw[this,hb1] at h1;cases h1
 have hnewE:∀c,HEnt w2 (HidM K0 K') kd f e zs.length (k,l0++[x]) { key:=.int kd k,val:=v',born:=c }:=fun c=>
  ⟨rfl,⟨xv',ownsRow_congr hown' fun g hg=>hne2 g (fun e=>by subst e;exact hv'b hg),fun i d v h1 h2=>(hflat i d h1).rd (hxr' i d v h1 h2)⟩,hv'h⟩
 have holdE:∀(q:Int×List α) (en:MapEntry) (i:Nat),L[i]? =some q→es[i]? =some en→(∀g,en.val.blk=some g→v.blk≠some g)→HEnt w2 (HidM K0 K') kd f e zs.length q en:=fun q en i h1 h2 h3=>by
  have hen:=H.ent i q en h1 h2
  refine hen.mono (fun g _=>hmon g) fun g hg=>?_
  refine hne g (Nat.lt_of_lt_of_le (hen.hid g hg).1.lt R.size) (h3 g hg) fun e=>?_
  subst e
  obtain⟨xw,o1,_⟩:=hen.own
  rcases o1.2 with ⟨h0,_⟩ |⟨g',cap,cur,h0,_,h1,_⟩
  ·rw[h0] at hg;cases hg
  ·rw[h0] at hg
   have:g'=g:=Option.some.inj hg
   rw[this,hmb] at h1;cases h1
 have hold':∀(i:Nat) (en:MapEntry) (g:Nat),es[i]? =some en→en.val.blk=some g→v'.blk=some g→v.blk=some g:=fun i en g h1 h2 h3=>by
  rcases hblk with h |h
  ·rw[← h];exact h3
  ·rw[h] at h3
   have hi:i < L.length:=by rw[← H.size];exact(Array.getElem?_eq_some_iff.1 h1).1
   have:=((H.ent i _ en (List.getElem?_eq_getElem hi) h1).hid g h2).1.lt
   have:=R.size
   have:w.heap.size=g:=by simpa using h3
   omega
 rw[hk0] at hoo
 unfold putE at hoo
 simp only at hoo
 subst hoo
 refine⟨K',p',_,_,t1,t2,t3,t5,t6,hmon _ H.hidb,hb2,by simp[H.size],fun i q en' g1 g2=>?_,fun i j en1 en2 g g1 g2 g3 g4=>?_,fun en' hen=>?_,?_⟩
 ·rw[Array.getElem?_push] at g2
  rw[List.getElem?_append] at g1
  split at g1
  ·rename_i hlt
   rw[if_neg (by rw[H.size];omega)] at g2
   exact holdE q en' i g1 g2 (fun g hg=>hap i en' g g2 hg)
  ·rename_i hlt
   have hi:i=L.length:=by
    have:=(List.getElem?_eq_some_iff.1 g1).1
    simp at this;omega
   subst hi
   rw[if_pos H.size.symm] at g2
   simp at g1 g2
   subst g1;subst g2
   exact hnewE clock
 ·rw[Array.getElem?_push] at g1 g2
  split at g1 <;> split at g2
  ·omega
  ·rename_i h5 h6;cases g1;exact absurd (hold' _ _ g g2 g4 g3) (hap _ _ g g2 g4)
  ·rename_i h5 h6;cases g2;exact absurd (hold' _ _ g g1 g3 g4) (hap _ _ g g1 g3)
  ·exact H.apart i j en1 en2 g g1 g2 g3 g4
 ·simp only[Array.toList_push,List.mem_append,List.mem_singleton] at hen
  rcases hen with hen |rfl
  ·exact Nat.lt_succ_of_lt (H.born en' hen)
  ·exact Nat.lt_succ_self _
 ·simp only[Array.toList_push,List.map_append,List.map_cons,List.map_nil]
  refine List.nodup_append.2 ⟨H.nodup,by simp,?_⟩
  intro a ha b hb
  simp only[List.mem_singleton] at hb
  subst hb
  obtain⟨x,hx,rfl⟩:=List.mem_map.1 ha
  exact Nat.ne_of_lt (H.born x hx)
theorem HI.val {t:Nat} (h:HI K0 kd f e z t b L st a w):a.eval (.tmp t)=.map (some b):=by
 obtain⟨K,p,es,clock,h1,h2,h3,R,h5,h6⟩:=h
 exact h6
theorem HI.nt {t:Nat} (h:HI K0 kd f e z t b L st a w):a.tmps.size=st.nt:=by
 obtain⟨K,p,es,clock,h1,h2,h3,R,h5,h6⟩:=h
 exact R.nt
theorem HI.wk {t:Nat} (h:HI K0 kd f e z t b L st a w) {st':St} (W:Wk st st'):HI K0 kd f e z t b L st' a w:=by
 obtain⟨K,p,es,clock,h1,h2,h3,R,h5,h6⟩:=h
 obtain⟨p',R'⟩:=W K a w p R
 exact⟨K,p',es,clock,h1,h2,h3,R',h5,h6⟩
theorem HI.put {t:Nat} (h:HI K0 kd f e z t b L st a w) {d:Nat} {x:AV} {u:Value} (hx:∀(K:Ctx P) (p:Pl),RA w (okc K w p) p x u) (hd:d < st.nt) (hdt:d≠t):HI K0 kd f e z t b L (st.put d x) (a.put (some d) u) w:=by
 obtain⟨K,p,es,clock,h1,h2,h3,R,h5,h6⟩:=h
 exact⟨K,p,es,clock,h1,h2,h3,R.put (hx K p) hd,h5,(eval_put_ne (by simpa using hdt)).trans h6⟩
theorem HI.held {t:Nat} (h:HI K0 kd f e z t b L st a w) {id:Nat} {l:List Oper} {st1 S0:St} {F:Exit→Act→World→Prop} (is:List Nat) (n:Nat) (hm:P.follows .mixedOrders=true) (hB:(Region.noSelect l.toArray&&decide (is.length+n=l.toArray.size)&&takeB l.toArray is (Array.replicate l.toArray.size false))=true)
  {ol:List (Option Oper)} (hol:is.map (l.toArray[·]?)=ol) {os:List Oper} (hoo:ol.filterMap (fun x=>x)=os) (hos:ol=os.map some) (h':stillsG P l.toArray os st=some st1)
  (H:∀K' S F,HCtx K' S F (fun e s=>e=.normal∧Weak s S0)→HOps P K' S F l.toArray n (listAll is (Array.replicate l.toArray.size false)) st1) (hd:∀o∈l,o.dst≠some t) (G:∀a w,HI K0 kd f e z t b L S0 a w→F .normal a w):(Code.region id l.toArray true).wp P F a w:=by
 obtain⟨K,p,es,clock,h1,h2,h3,R,h5,h6⟩:=h
 exact wp_heldT is n h1 hm hB hol hoo hos h' H hd hd R h6 h6 fun a w' p' R' _ hv _=>G a w' ⟨K,p',es,clock,h1,h2,h3,R',h5.keep h1 R R',hv⟩
theorem HMap.findB {hid:Nat→Prop} (h:HMap w hid kd f e z b L es clock) {t kt et:TypeId} (hu:P.underlying t=some (.map kt et)) (hk:P.underlying kt=some (.int kd)) (hz:∀w,(zeroValue et).run P w=.ok (.slice none 0 0) w) (k:Int):
  ∃v,(Instr.lookup t (.map (some b)) (.int kd k) true).run P w=.ok (.tuple #[v,.bool (mget inE L k).isSome]) w∧
   ((mfind inE k L=none∧v=.slice none 0 0)∨∃j l en,mfind inE k L=some (j,l)∧es[j]? =some en∧v=en.val):=by
 have hkb:=keyB_int (P:=P) hk k
 have hra:∀w:World,RA w (fun _=>False) ⟨fun _=>0,fun _=>undef,fun _=>False,fun _=>False⟩ (.d (.int kd k)) (.int kd k):=fun w=>.d .int
 have hlen:es.toList.length=(rowsF (mRow (iRow kd) fun l:List α=>[.slice (rowsF f l)]) L).length:=by simp[rowsF,h.size]
 have hrow:∀(w:World) (j:Nat) (row:List D) (en:MapEntry),(rowsF (mRow (iRow kd) fun l:List α=>[.slice (rowsF f l)]) L)[j]? =some row→es.toList[j]? =some en→PackD w (fun _=>False) false (row.take 1) en.key:=fun w j row en h1 h2=>by
  obtain⟨q,hq,rfl⟩:∃q,L[j]? =some q∧mRow (iRow kd) (fun l=>[.slice (rowsF f l)]) q=row:=by simpa[rowsF] using h1
  have hen:=h.ent j q en hq (by rw[← Array.getElem?_toList];exact h2)
  unfold PackD
  rw[if_neg (by decide)]
  exact⟨.int kd q.1,rfl,by rw[hen.key];exact .int⟩
 have hck:=fun (w:World) e=>checkKey_ok (w:=w) hkb (hra w) e
 have hf:=findM_int (P:=P) (g:=fun l:List α=>[.slice (rowsF f l)]) hk k L
 cases hm:mfind inE k L with
 |none=>
  rw[hm] at hf
  have hfk:∀w:World,(Instr.findKey kt (.int kd k) es.toList).run P w=.ok none w:=fun w=>by
   obtain⟨r,f1,f2⟩:=findKey_ok hkb (hra w) hlen (hrow w) hf
   rw[show r=none from f2] at f1;exact f1
  refine⟨_,?_,.inl ⟨rfl,rfl⟩⟩
  simp[Instr.lookup,run_underlying hu,Result.andThen,MapKept.run_getObj_map h.map,hck,hfk,hz,mget,hm]
 |some q=>
  rw[hm] at hf
  obtain⟨j,l⟩:=q
  have hfk:∀w:World,∃en,es.toList[j]? =some en∧(Instr.findKey kt (.int kd k) es.toList).run P w=.ok (some (j,en.val)) w:=fun w=>by
   obtain⟨r,f1,f2⟩:=findKey_ok hkb (hra w) hlen (hrow w) hf
   obtain⟨en,row,g1,g2,g3,g4,g5⟩:=f2
   subst g5
   rw[Nat.zero_add] at f1
   exact⟨en,g1,f1⟩
  obtain⟨en,g1,g2⟩:=hfk w
  refine⟨en.val,?_,.inr ⟨j,l,en,rfl,by rw[← Array.getElem?_toList];exact g1,rfl⟩⟩
  simp[Instr.lookup,run_underlying hu,Result.andThen,MapKept.run_getObj_map h.map,hck,g2,mget,hm]
theorem fn_raw {f:FuncId} {fn:Func} {c:Code} {nt:Nat} {args:List AV} (hf:P.funcs[f]? =some fn) (hb:fn.body=some c) (hnt:fn.ntmps=nt) (hna:args.length≤nt) (hn6:nt≤1000000) {w:World} {ok:Nat→Prop} {vs:Array Value} (hpre:FnPre w ok [] [] [] []) (hvs:vs.size=args.length)
  (hargs:∀(i:Nat) (x:AV) (v:Value),args[i]? =some x→vs[i]? =some v→RA w ok (ioPl [] []) x v) (hgl:GlobAt P w ok) {Q:Ending→World→Prop}
  (h:∀(K:Ctx P) (a:Act) (p:Pl),K.ios=[]→K.ivs=[]→K.w0=w→Rel K (enterStV nt args [] []) a w p→c.wp P (fun e a' w'=>(e=.normal∨e=.ret)∧a'.defers=[]∧∃v,(results fn a'.tmps).run P w'=.ok v w'∧Q (.returned v) w') a w):Calls P f vs w Q:=by
 let K:Ctx P:=⟨w,ok,[],[],fun b i x h=>⟨⟨(hpre.okb b (hgl b i x h).1).1,(hgl b i x h).1,by simp,by simp⟩,(hgl b i x h).2⟩⟩
 refine calls_of_wp hf hb ?_
 have hokc:∀b,ok b→okc K w (ioPl [] []) b:=fun b hb'=>⟨(hpre.okb b hb').1,.inl hb',fun n hn e=>by obtain⟨h1,h2⟩:=hn;simp at h2,fun n hn=>by obtain⟨h1,h2⟩:=hn;simp at h2⟩
 have hra:∀{x:AV} {v:Value},RA w ok (ioPl [] []) x v→RA w (okc K w (ioPl [] [])) (ioPl [] []) x v:=fun h=>h.mono (fun _ _=>rfl) hokc (fun _ h=>⟨h,rfl⟩) (fun _ h=>⟨h,rfl⟩)
 have R:Rel K (enterStV nt args [] []) { tmps:=vs++Array.replicate (fn.ntmps - vs.size) undef,defers:=[]} w (ioPl [] []):={
  lb:=by
   funext n
   simp[ioPl,St.lb,enterStV,get_numbered]
  lv:=by
   funext n
   simp[ioPl,St.lv,enterStV,get_numbered]
  dfr:=rfl
  nt:=by simp[enterStV,hnt,hvs];omega
  ntl:=hn6
  ion:=fun i hi=>by have:=io_lb.1 hi;simp at this
  size:=Nat.le_refl _
  os:=rfl
  tape:=rfl
  dr:=Nat.le_refl _
  output:=rfl
  old:=fun _ _ _=>rfl
  env:=fun t x hx=>by
   simp only[enterStV,get_numbered,Nat.zero_le,if_true,Nat.sub_zero] at hx
   have ht:t < vs.size:=by have:=(List.getElem?_eq_some_iff.1 hx).1;omega
   have:(vs++Array.replicate (fn.ntmps - vs.size) undef).getD t undef=vs[t]:=by simp[Array.getElem?_append,ht]
   rw[this]
   exact hra (hargs t x _ hx (by simp[ht]))
  box:=fun n cs hn=>by simp[enterStV,get_numbered] at hn
  vec:=fun n s hn=>by simp[enterStV,get_numbered] at hn
  dbb:=fun n m hn=>by have hn':1000000≤n∧n - 1000000 < ([]:List Nat).length:=hn;simp at hn'
  dbv:=fun n m hn=>by have hn':1000000≤n∧n - 1000000 < ([]:List Nat).length:=hn;simp at hn'
  dvv:=fun n m hn=>by have hn':2000000≤n∧n - 2000000 < ([]:List Value).length:=hn;simp at hn' }
 refine wp_mono (h K _ _ rfl rfl rfl R) fun e a' w' ⟨he,hd,v,hv,hR⟩=>?_
 rcases he with rfl |rfl
 ·exact⟨hd,v,hv,hR⟩
 ·exact⟨hd,v,hv,hR⟩
theorem HMap.put0 {hid:Nat→Prop} (H:HMap w hid kd f e z b ([]:List (Int×List α)) es clock) {t kt et:TypeId} (hu:P.underlying t=some (.map kt et)) (hk:P.underlying kt=some (.int kd)) (hz:∀w,(zeroValue et).run P w=.ok (.slice none 0 0) w) (k:Int):
  ∃w2 es' clock',(Instr.mapUpdate t (.map (some b)) (.int kd k) (.slice none 0 0)).run P w=.ok () w2∧(∀g,g≠b→w2.heap[g]? =w.heap[g]?)∧w2.heap.size=w.heap.size∧(w2.os=w.os∧w2.tape=w.tape∧w2.output=w.output)∧HMap w2 hid kd f e z b [(k,([]:List α))] es' clock':=by
 obtain⟨v0,_,_,hup⟩:=H.find (P:=P) hu hk hz k
 have hup:=hup w (.slice none 0 0) H.map
 have hes:es= #[]:=Array.eq_empty_of_size_eq_zero H.size
 subst hes
 simp only[mfind,putE] at hup
 have hbs:b < w.heap.size:=(Array.getElem?_eq_some_iff.1 H.map).1
 refine⟨_,#[{ key:=.int kd k,val:=.slice none 0 0,born:=clock }],clock+1,hup,fun g hg=>by simp[Array.getElem?_setIfInBounds_ne (Ne.symm hg)],by simp,⟨rfl,rfl,rfl⟩,⟨H.hidb,by simp[hbs],by simp,fun j q en h1 h2=>?_,fun i j en en' g h1 h2 h3 h4=>?_,fun en h=>?_,by simp⟩⟩
 ·cases j with
  |zero=>
   simp at h1 h2
   subst h1;subst h2
   exact⟨rfl,⟨[],World.ownsRow_nil _ _ _ _,fun i d v h=>by simp[rowsF] at h⟩,fun g hg=>by cases hg⟩
  |succ j=>simp at h1
 ·have:=(Array.getElem?_eq_some_iff.1 h1).1
  have:=(Array.getElem?_eq_some_iff.1 h2).1
  simp at *;omega
 ·simp at h;subst h;exact Nat.lt_succ_self _
theorem new_tail {t:Nat} (hK:K.ios=[]) (hK0:K0.ios=[]) (hB:Back K0 K) (h6:∀k,K.w0.heap.size≤k∨k∈K.ivs→K0.w0.heap.size≤k∨k∈K0.ivs) (R:Rel K st a w p) (H:HMap w (HidM K0 K) kd f e z b L es clock)
  {tm kt ts:TypeId} (hu:P.underlying tm=some (.map kt ts)) (hk:P.underlying kt=some (.int kd)) (hz:∀w,(zeroValue ts).run P w=.ok (.slice none 0 0) w) (hus:P.underlying ts=some (.slice e)) {zs:List AV} (hzs:zerOf P e=some zs) (hzl:zs.length=z) (hpos:0 < z)
  (hby:byOk P e=true) (hfl:∀x,∀d∈f x,FlatD d) (hfz:∀x,(f x).length=z) (k:Int) {v:Value} (hk0:mfind inE k L=none) {l0:List α} (hown0:∃xv,w.ownsRow 0 e z v l0.length xv∧∀(i:Nat) (d:D) (v:Value),(rowsF f l0).flatten[i]? =some d→xv[i]? =some v→RD w (fun _=>False) d v) (hvb:∀g,v.blk=some g→HidM K0 K g) (hap:∀(j:Nat) (en:MapEntry) (g:Nat),es[j]? =some en→en.val.blk=some g→v.blk≠some g)
  {x:α} {ops:Array Oper} {listed:Array Bool} {i1 i2 xm xk xv xy d:Nat} {o1 o2:Oper} (ho1:ops[i1]? =some o1) (ho2:ops[i2]? =some o2) (hg1:o1.guard=none) (hg2:o2.guard=none) (hd1:o1.dst=some d) (hd2:o2.dst=none)
  (hop1:o1.op=.call { callee:=.builtin .append,args:=#[.tmp xv,.tmp xy],argTypes:=#[ts,ts]}) (hop2:o2.op=.mapUpdate tm (.tmp xm) (.tmp xk) (.tmp d)) (hr1:Region.ready .any ops listed=[i1]) (hr2:Region.ready .any ops (listed.setIfInBounds i1 true)=[i2]) (hr3:Region.ready .any ops ((listed.setIfInBounds i1 true).setIfInBounds i2 true)=[])
  (hxm:a.eval (.tmp xm)=.map (some b)) (hxk:a.eval (.tmp xk)=.int kd k) (hxv:a.eval (.tmp xv)=v) (hxt:a.eval (.tmp t)=.map (some b)) (hdm:d≠xm) (hdk:d≠xk) (hdt:d≠t) (hdn:d < st.nt)
  (hy:rowsOf st (opd st (.tmp xy))=some [f x]) (hsz:l0.length+1≤268435456) {st':St} (W:Weak (st.put d .undef) st'):
  wpAnyH P .any ops (fun e1 a w=>e1=.normal∧HI K0 kd f e z t b (L++[(k,l0++[x])]) st' a w) (SeeS K) 2 listed a w:=by
 obtain⟨v',w1,r1,s1,w2,r2,s2,fin⟩:=H.stepN R hK hK0 hB h6 hu hk hz hus hzs hzl hpos hby hfl hfz k hk0 hown0 hvb hap hy (R.opd (.tmp xy)) hsz o1.type
 have hS1:SeeS K w1:=fun g hg=>(s1 g (hg.okc hK R)).trans (hg.heap hK R)
 have hS2:SeeS K w2:=fun g hg=>(s2 g (hg.okc hK R)).trans (hg.heap hK R)
 refine wpAnyH_all hr1 (by simp) fun i hi=>?_
 rw[List.mem_singleton.1 hi]
 unfold wpOp
 simp only[ho1]
 rw[show Region.wanted o1 (yielded ops a.tmps)=true by simp[Region.wanted,hg1],if_pos rfl]
 refine .inl ?_
 unfold Oper.wp
 rw[show (execOp a.eval o1).run P w=.ok (.value v') w1 by
  simp[execOp,hop1,resolve,invoke,builtin,hxv,r1]]
 refine⟨hS1,?_⟩
 rw[hd1]
 have hput:∀s,d≠s→(a.put (some d) v').eval (.tmp s)=a.eval (.tmp s):=fun s hs=>eval_put_other (by simpa using hs)
 refine wpAnyH_all hr2 (by simp) fun i hi=>?_
 rw[List.mem_singleton.1 hi]
 unfold wpOp
 simp only[ho2]
 rw[show Region.wanted o2 (yielded ops (a.put (some d) v').tmps)=true by simp[Region.wanted,hg2],if_pos rfl]
 refine .inl ?_
 unfold Oper.wp
 rw[show (execOp (a.put (some d) v').eval o2).run P w1=.ok .skip w2 by
  have hvd:(a.put (some d) v').eval (.tmp d)=v':=eval_put_eq (by rw[R.nt];exact hdn)
  simp[execOp,hop2,hput xm hdm,hput xk hdk,hvd,hxm,hxk,r2]]
 refine⟨hS2,?_⟩
 rw[hd2]
 have Rp:Rel K (st.put d .undef) (a.put (some d) v') w p:=R.put .undef hdn
 obtain⟨K',p',es',clock',u1,u2,u3,u4,u5,u6⟩:=fin _ _ _ Rp W
 exact wpAnyH_done hr3 ⟨rfl,K',p',es',clock',u1,u4,u5,u3,u6,by
  show((a.put (some d) v').put none undef).eval (.tmp t)=_
  rw[eval_put_other (by simp),hput t hdt];exact hxt⟩ _
theorem HI.wplQ {t:Nat} (h:HI K0 kd f e z t b L st a w) {ops:Array Oper} {l:List Oper} {G:St→Prop} {F:Exit→Act→World→Prop} (hT:∀K:Ctx P,TOps P K ops l st (fun e s=>e=.normal∧G s)) (hd:∀o∈l,o.dst≠some t) (H:∀s a w,G s→HI K0 kd f e z t b L s a w→F .normal a w):wpList P ops F l a w:=by
 obtain⟨K,p,es,clock,h1,h2,h3,R,h5,h6⟩:=h
 refine wpl_mono (fun e a w hh=>?_) _ _ _ (wpl_frame _ _ _ hd h6 (hT K a w p R))
 obtain⟨⟨s,p',R',he,hq⟩,hv⟩:=hh
 subst he
 exact H s a w hq ⟨K,p',es,clock,h1,h2,h3,R',h5.keep h1 R R',hv rfl⟩
theorem HI.int {t:Nat} (h:HI K0 kd f e z t b L st a w) {s:Nat} {k:IntKind} {n:Int} (hs:st.look s=.d (.int k n)):a.eval (.tmp s)=.int k n:=by
 obtain⟨K,p,es,clock,h1,h2,h3,R,h5,h6⟩:=h
 exact wp_int R hs
theorem HI.to {t t':Nat} (h:HI K0 kd f e z t b L st a w) (h':a.eval (.tmp t')=.map (some b)):HI K0 kd f e z t' b L st a w:=by
 obtain⟨K,p,es,clock,h1,h2,h3,R,h5,h6⟩:=h
 exact⟨K,p,es,clock,h1,h2,h3,R,h5,h'⟩
theorem HI.put0l {t:Nat} (h:HI K0 kd f e z t b ([]:List (Int×List α)) st a w) (hK0:K0.ios=[]) {o:Oper} {rest:List Oper} {ops:Array Oper} {F:Exit→Act→World→Prop} {tm kt et:TypeId} {xm xk:Nat} {y:Operand} {k:Int} (hg:o.guard=none) (hd:o.dst=none) (ho:o.op=.insert tm (.tmp xm) (.tmp xk) y)
  (hu:P.underlying tm=some (.map kt et)) (hk:P.underlying kt=some (.int kd)) (hz:∀w,(zeroValue et).run P w=.ok (.slice none 0 0) w) (hxm:a.eval (.tmp xm)=.map (some b)) (hxk:a.eval (.tmp xk)=.int kd k) (hy:a.eval y=.slice none 0 0) {st':St} (W:Weak st st')
  (H:∀a' w,a'=a.put none undef→HI K0 kd f e z t b [(k,([]:List α))] st' a' w→wpList P ops F rest a' w):wpList P ops F (o::rest) a w:=by
 obtain⟨K,p,es,clock,h1,h2,h3,R,h5,h6⟩:=h
 obtain⟨w2,es',clock',r1,r2,r3,r4,r5⟩:=h5.put0 (P:=P) hu hk hz k
 refine run_skip hg (w':=w2) (by simp[execOp,ho,hxm,hxk,hy,r1]) ?_
 rw[hd]
 obtain⟨K',p',t1,t2,t3,t4,t5,t6,t7,t8,t9⟩:=hw_turn R R h1 W (w2:=w2) (by omega) r4 (fun g hg hh=>r2 g fun e=>by subst e;exact hh h5.hidb) hK0 h2 h3
 exact H _ _ rfl ⟨K',p',es',clock',t1,t4,t5,t3,r5.mono t6 (fun _ _=>rfl),h6⟩
theorem HI.fin {t:Nat} {w0:World} (h:HI K0 kd f e z t b L st a w) (hK0:K0.ios=[]) (hKv:K0.ivs=[]) (hw0:K0.w0=w0):a.defers=[]∧∃es clock,HMap w (fun g=>w0.heap.size≤g∧g < w.heap.size) kd f e z b L es clock∧Frm [] [] w0 w:=by
 subst hw0
 obtain⟨K,p,es,clock,h1,h2,h3,R,h5,h6⟩:=h
 have R0:=h2.rel _ _ _ _ R
 refine⟨R.dfr,es,clock,h5.mono (fun g hg=>⟨?_,Nat.lt_of_lt_of_le hg.1.lt R.size⟩) (fun _ _=>rfl),⟨R0.size,R0.os,R0.tape,R0.dr,R0.output,fun b hb _ _=>R0.old b hb fun q=>?_⟩⟩
 ·rcases hg.2 with q |q
  ·exact q
  ·rw[hKv] at q;cases q
 ·rcases q with q |q
  ·rw[hK0] at q;cases q
  ·rw[hKv] at q;cases q
end
end Go.Vl
