/- A hidden table: an element's place, a load of one cell, a row more, a cell turned; the region that draws its order. Conditions: none. -/
import Derived.Test.YtbnfogbfphakmaaGreatDoorVmHt
import Derived.Laws.MakeOwn
set_option linter.unusedSimpArgs false
set_option linter.unusedVariables false
namespace Go.Vl
open Go Go.RowKit
section
variable {P:Program} {K K0:Ctx P} {st:St} {a:Act} {w w':World} {p:Pl} {e0 e1:TypeId} {n G:Nat} {gs:List Nat} {T:List (List Bool)} {t:Nat} {v:Value}
theorem Jv {t e:TypeId} (hs:P.underlying t=some (.slice e)) (hz:Ad P e=some 1) {k:IntKind} {g n c i:Nat} (hi:i < n):(Instr.indexAt t (.slice (some ⟨g,0,none⟩) n c) (.int k (i:Int))).run P w=.ok (.pointer (some ⟨g,i,none⟩)) w:=by
 have h1:(i:Int) < (n:Int):=by omega
 have h2:¬n≤i:=by omega
 simp[Instr.indexAt,run_underlying hs,asIntOf,hi,h2,AU hz,Ah]
theorem V8 {t:TypeId} (hu:(P.underlying t).isSome=true) (ha:Ao P t=false) {g i:Nat} {cur:Array Value} {ty:TypeId} {v:Value} (hw:w.heap[g]? =some (.cells cur ty (0,0))) (hc:cur[i]? =some v):(Instr.loadAt t (.pointer (some ⟨g,i,none⟩))).run P w=.ok v w:=by
 have h4:w.cell? ⟨g,i,none⟩=some v:=by simp only[World.cell?,hw];exact hc
 have hag:=Be hu w
 rw[ha] at hag
 simp[Instr.loadAt,Instr.sureAddr,loadVar,hag,h4]
theorem V9 (p:Pl) {o:Oper} {t1 t2:TypeId} {x y:Operand} {k:IntKind} {n m:Int} (ho:o.op=.binOp .eql t1 x y t2) (hu:P.underlying t1=some (.int k)) (hx:a.eval x=.int k n) (hy:a.eval y=.int k m) (w':World):(execOp a.eval o).run P w'=.ok (.value (.bool (n==m))) w':=by
 obtain⟨r,h1,h2⟩:=EV (P:=P) (w:=w') (ok:=fun _=>False) (p:=p) (op:=.eql) (t:=t1) (x:=.d (.int k n)) (y:=.d (.int k m)) (z:=.d (.bool (n==m))) (by simp[Mw,Dz]) (.d .int) (.d .int) x y
 cases h2 with |d h2=>cases h2 with |bool=>
 have hg:(eqGuard .eql t1 x y (Value.int k n) (Value.int k m)).run P w'=.ok () w':=by simp[eqGuard,run_underlying hu]
 simp only[Sem.run_bind,hg,Result.andThen_ok] at h1
 simp[execOp,ho,hx,hy,hg,h1]
theorem Pv {n:Nat}:madeCells (Value.bool false).cells (n * 1)=Bm (List.replicate n false):=by
 unfold madeCells Bm
 apply Array.ext
 ·simp
 ·intro i h1 h2
  simp[Value.cells,Nat.mod_one]
theorem HT.val (h:HT K0 e0 e1 n t G v gs T st a w):a.eval (.tmp t)=v:=by
 obtain⟨K,p,h1,h2,h3,R,h5,h6⟩:=h
 exact h6
theorem HT.nt (h:HT K0 e0 e1 n t G v gs T st a w):a.tmps.size=st.nt:=by
 obtain⟨K,p,h1,h2,h3,R,h5,h6⟩:=h
 exact R.nt
theorem HT.put (h:HT K0 e0 e1 n t G v gs T st a w) {d:Nat} {x:AV} {u:Value} (hx:∀(K:Ctx P) (p:Pl),RA w (okc K w p) p x u) (hd:d < st.nt) (hdt:d≠t):HT K0 e0 e1 n t G v gs T (st.put d x) (a.put (some d) u) w:=by
 obtain⟨K,p,h1,h2,h3,R,h5,h6⟩:=h
 exact⟨K,p,h1,h2,h3,R.put (hx K p) hd,h5,(eval_put_ne (by simpa using hdt)).trans h6⟩
theorem HT.grow (hK:K.ios=[]) (hK0:K0.ios=[]) (hB:FM K0 K) (h6:∀k,K.w0.heap.size≤k∨k∈K.ivs→K0.w0.heap.size≤k∨k∈K0.ivs) (R:Rel K st a w p) (H:D7 w (Hf K0 K) e0 e1 n G gs T) (hT:T.length < n) (hn:n≤1000000)
  {ts tt:TypeId} (hus:P.underlying ts=some (.slice e1)) (hut:P.underlying tt=some (.slice e0)) (hzt:Ad P e0=some 1) (hzs:Ad P ts=some 1) {i:TypeInfo} (hi:P.info? e1=some i) (hz:i.zero=some (.bool false)) (hs1:i.size=1) (hb1:i.bytes=1)
  {ops:Array Oper} {F:Exit→Act→World→Prop} {o1 o2 o3:Oper} {d1 d2 x xi xn t c:Nat} (g1:o1.guard=none) (g2:o2.guard=none) (g3:o3.guard=none) (q1:o1.dst=some d1) (q2:o2.dst=some d2) (q3:o3.dst=none)
  (ho1:o1.op=.makeSlice ts (.tmp xn) (.tmp xn)) (ho2:o2.op=.indexAddr tt (.tmp x) (.tmp xi)) (ho3:o3.op=.store ts (.tmp d2) (.tmp d1))
  (hx:a.eval (.tmp x)=.slice (some ⟨G,0,none⟩) n c) (hxi:a.eval (.tmp xi)=.int .i64 (T.length:Int)) (hxn:a.eval (.tmp xn)=.int .i64 (n:Int)) (ht:a.eval (.tmp t)=v)
  (h1x:d1≠x) (h1i:d1≠xi) (h12:d1≠d2) (h1t:d1≠t) (h2t:d2≠t) (hd1:d1 < st.nt) (hd2:d2 < st.nt) {st':St} (W:D1 ((st.put d1 .undef).put d2 .undef) st')
  (HF:∀gs a w,HT K0 e0 e1 n t G v gs (T++[List.replicate n false]) st' a w→F .normal a w):wpList P ops F [o1,o2,o3] a w:=by
 have hr1:(Instr.makeSlice ts (.int .i64 (n:Int)) (.int .i64 (n:Int))).run P w=.ok (.slice (some ⟨w.heap.size,0,none⟩) n n) (w.alloc (.cells (Bm (List.replicate n false)) e1)):=by
  have:=run_make (P:=P) w ts e1 i (.bool false) hus hi hz .i64 .i64 (n:Int) (n:Int) (by omega) (by omega) (by rw[hb1];omega) (by omega)
  rw[hs1,Int.toNat_natCast,Pv] at this
  exact this
 refine Ck g1 (v:=.slice (some ⟨w.heap.size,0,none⟩) n n) (w':=w.alloc (.cells (Bm (List.replicate n false)) e1)) (by simp[execOp,ho1,hxn,hr1]) ?_
 rw[q1]
 have R1:=R.put (d:=d1) (x:=.undef) (v:=.slice (some ⟨w.heap.size,0,none⟩) n n) .undef hd1
 have e1x:(a.put (some d1) (.slice (some ⟨w.heap.size,0,none⟩) n n)).eval (.tmp x)=_:=(eval_put_ne (by simpa using h1x)).trans hx
 have e1i:(a.put (some d1) (.slice (some ⟨w.heap.size,0,none⟩) n n)).eval (.tmp xi)=_:=(eval_put_ne (by simpa using h1i)).trans hxi
 have e1t:(a.put (some d1) (.slice (some ⟨w.heap.size,0,none⟩) n n)).eval (.tmp t)=_:=(eval_put_ne (by simpa using h1t)).trans ht
 have e11:(a.put (some d1) (.slice (some ⟨w.heap.size,0,none⟩) n n)).eval (.tmp d1)=.slice (some ⟨w.heap.size,0,none⟩) n n:=BR (by rw[R.nt];exact hd1)
 generalize a.put (some d1) (.slice (some ⟨w.heap.size,0,none⟩) n n)=a1 at *
 refine Ck g2 (v:=.pointer (some ⟨G,T.length,none⟩)) (w':=w.alloc (.cells (Bm (List.replicate n false)) e1)) (by simp[execOp,ho2,e1x,e1i,Jv hut hzt hT]) ?_
 rw[q2]
 have R2:=R1.put (d:=d2) (x:=.undef) (v:=.pointer (some ⟨G,T.length,none⟩)) .undef (by simpa[St.put] using hd2)
 have e2t:(a1.put (some d2) (.pointer (some ⟨G,T.length,none⟩))).eval (.tmp t)=_:=(eval_put_ne (by simpa using h2t)).trans e1t
 have e21:(a1.put (some d2) (.pointer (some ⟨G,T.length,none⟩))).eval (.tmp d1)=_:=(eval_put_ne (by simpa using h12.symm)).trans e11
 have e22:(a1.put (some d2) (.pointer (some ⟨G,T.length,none⟩))).eval (.tmp d2)=.pointer (some ⟨G,T.length,none⟩):=BR (by rw[R1.nt];simpa[St.put] using hd2)
 generalize a1.put (some d2) (.pointer (some ⟨G,T.length,none⟩))=a2 at *
 obtain⟨cur,c1,c2,c3⟩:=H.outer
 have hGlt:=H.ltG
 have hG1:(w.alloc (.cells (Bm (List.replicate n false)) e1)).heap[G]? =some (.cells cur e0 (0,0)):=(heap_alloc_old w _ hGlt).trans c1
 have hst:=Ju (P:=P) (t:=ts) (u:=.slice (some ⟨w.heap.size,0,none⟩) n n) hG1 (off:=T.length) (by omega) hzs rfl rfl
 refine SP g3 (w':=(w.alloc (.cells (Bm (List.replicate n false)) e1)).setRow G (cur.setIfInBounds T.length (.slice (some ⟨w.heap.size,0,none⟩) n n))) (by simp[execOp,ho3,e21,e22,hst]) ?_
 rw[q3]
 have hsz:((w.alloc (.cells (Bm (List.replicate n false)) e1)).setRow G (cur.setIfInBounds T.length (.slice (some ⟨w.heap.size,0,none⟩) n n))).heap.size=w.heap.size+1:=by
  rw[setRow_size];unfold World.alloc;simp
 obtain⟨K',p',t1,t2,t3,t4,t5,t6,t7,t8,t9⟩:=Lc (st':=st') R R2 hK W (w2:=(w.alloc (.cells (Bm (List.replicate n false)) e1)).setRow G (cur.setIfInBounds T.length (.slice (some ⟨w.heap.size,0,none⟩) n n))) (by omega) ⟨rfl,rfl,rfl⟩ (fun g hg hh=>by
  rw[setRow_other _ _ (fun e=>by subst e;exact hh H.hidG),heap_alloc_old w _ hg]) hK0 hB h6
 refine HF (gs++[w.heap.size]) _ _ ⟨K',p',t1,t4,t5,t3,H.push hT rfl hG1 rfl t6 (t7 _ (Nat.le_refl _) (by omega)),?_⟩
 exact(eval_put_ne (by simp)).trans e2t
theorem HT.draw (h:HT K0 e0 e1 n t G v gs T st a w) {st':St} (W:D1 st st') (hK0:K0.ios=[]) (hm:P.follows .mixedOrders=true) {id:Nat} {ops:Array Oper} {F:Exit→Act→World→Prop}
  (H:∀(K:Ctx P) (p:Pl) (w:World),K.ios=[]→FM K0 K→(∀k,K.w0.heap.size≤k∨k∈K.ivs→K0.w0.heap.size≤k∨k∈K0.ivs)→Rel K st' a w p→D7 w (Hf K0 K) e0 e1 n G gs T→a.eval (.tmp t)=v→(∀g,okc K w p g→Mn K g)→
   wpAnyH P .any ops F (KJ K) ops.size (Array.replicate ops.size false) a w):(Code.region id ops true).wp P F a w:=by
 obtain⟨K,p,h1,h2,h3,R,h5,h6⟩:=h
 have R1:Rel K st a ({ w with drawn:=w.drawn+1 }:World) p:=R.drew
 obtain⟨K',p',t1,t2,t3,t4,t5,t6,t7,t8,t9⟩:=Lc (w2:=({ w with drawn:=w.drawn+1 }:World)) R1 R1 h1 W (Nat.le_refl _) ⟨rfl,rfl,rfl⟩ (fun _ _ _=>rfl) hK0 h2 h3
 exact wp_region_held hm (H K' p' _ t1 t4 t5 t3 (h5.mono (fun g hg=>⟨t6 g hg,rfl⟩)) h6 fun g hg=>(t8 g (t9 g hg)).1)
theorem Pw (hK:K.ios=[]) (hK0:K0.ios=[]) (hB:FM K0 K) (h6:∀k,K.w0.heap.size≤k∨k∈K.ivs→K0.w0.heap.size≤k∨k∈K0.ivs) (R:Rel K st a w p) (H:D7 w (Hf K0 K) e0 e1 n G gs T) {i j:Nat} {r:List Bool} {b:Bool} (hr:T[i]? =some r) (hj:j < n)
  {ts tt tb:TypeId} (hus:P.underlying ts=some (.slice e1)) (hut:P.underlying tt=some (.slice e0)) (hz0:Ad P e0=some 1) (hz1:Ad P e1=some 1) (hzb:Ad P tb=some 1) (hag:Ao P ts=false)
  {ops:Array Oper} {listed:Array Bool} {i1 i2 i3 i4 d1 d2 d3 x xi xj xb t c:Nat} {o1 o2 o3 o4:Oper} (ho1:ops[i1]? =some o1) (ho2:ops[i2]? =some o2) (ho3:ops[i3]? =some o3) (ho4:ops[i4]? =some o4) (g1:o1.guard=none) (g2:o2.guard=none) (g3:o3.guard=none) (g4:o4.guard=none)
  (q1:o1.dst=some d1) (q2:o2.dst=some d2) (q3:o3.dst=some d3) (q4:o4.dst=none)
  (p1:o1.op=.indexAddr tt (.tmp x) (.tmp xi)) (p2:o2.op=.load ts (.tmp d1)) (p3:o3.op=.indexAddr ts (.tmp d2) (.tmp xj)) (p4:o4.op=.store tb (.tmp d3) (.tmp xb))
  (r1:Region.ready .any ops listed=[i1]) (r2:Region.ready .any ops (listed.setIfInBounds i1 true)=[i2]) (r3:Region.ready .any ops ((listed.setIfInBounds i1 true).setIfInBounds i2 true)=[i3]) (r4:Region.ready .any ops (((listed.setIfInBounds i1 true).setIfInBounds i2 true).setIfInBounds i3 true)=[i4]) (r5:Region.ready .any ops ((((listed.setIfInBounds i1 true).setIfInBounds i2 true).setIfInBounds i3 true).setIfInBounds i4 true)=[])
  (hx:a.eval (.tmp x)=.slice (some ⟨G,0,none⟩) n c) (hxi:a.eval (.tmp xi)=.int .i64 (i:Int)) (hxj:a.eval (.tmp xj)=.int .i64 (j:Int)) (hxb:a.eval (.tmp xb)=.bool b) (ht:a.eval (.tmp t)=v)
  (k1:d1≠xj) (k2:d1≠xb) (k3:d1≠t) (k4:d2≠xj) (k5:d2≠xb) (k6:d2≠t) (k7:d3≠xb) (k8:d3≠t) (hd1:d1 < st.nt) (hd2:d2 < st.nt) (hd3:d3 < st.nt) {st':St} (W:D1 (((st.put d1 .undef).put d2 .undef).put d3 .undef) st'):
  wpAnyH P .any ops (fun e a w=>e=.normal∧HT K0 e0 e1 n t G v gs (T.set i (r.set j b)) st' a w) (KJ K) 4 listed a w:=by
 have hin:i < T.length:=(List.getElem?_eq_some_iff.1 hr).1
 obtain⟨g,hg⟩:∃g,gs[i]? =some g:=⟨_,List.getElem?_eq_getElem (by have:=H.len;omega)⟩
 obtain⟨cur,c1,c2,c3⟩:=H.outer
 obtain⟨n1,n2,n3⟩:=H.inner i g r hg hr
 have hS:=KJ.of hK R
 refine wpAnyH_all r1 (by simp) fun q hq=>?_
 rw[List.mem_singleton.1 hq]
 refine Jr (v:=.pointer (some ⟨G,i,none⟩)) (w':=w) ho1 g1 (by simp[execOp,p1,hx,hxi,Jv hut hz0 (Nat.lt_of_lt_of_le hin H.le)]) ⟨hS,?_⟩
 rw[q1]
 have R1:=R.put (d:=d1) (x:=.undef) (v:=.pointer (some ⟨G,i,none⟩)) .undef hd1
 have b1:(a.put (some d1) (.pointer (some ⟨G,i,none⟩))).eval (.tmp d1)=.pointer (some ⟨G,i,none⟩):=BR (by rw[R.nt];exact hd1)
 have bj:(a.put (some d1) (.pointer (some ⟨G,i,none⟩))).eval (.tmp xj)=_:=(eval_put_ne (by simpa using k1)).trans hxj
 have bb:(a.put (some d1) (.pointer (some ⟨G,i,none⟩))).eval (.tmp xb)=_:=(eval_put_ne (by simpa using k2)).trans hxb
 have bt:(a.put (some d1) (.pointer (some ⟨G,i,none⟩))).eval (.tmp t)=_:=(eval_put_ne (by simpa using k3)).trans ht
 generalize a.put (some d1) (.pointer (some ⟨G,i,none⟩))=a1 at *
 refine wpAnyH_all r2 (by simp) fun q hq=>?_
 rw[List.mem_singleton.1 hq]
 refine Jr (v:=.slice (some ⟨g,0,none⟩) n n) (w':=w) ho2 g2 (by simp[execOp,p2,b1,V8 (P:=P) (t:=ts) (by rw[hus];rfl) hag c1 (c3 i g hg)]) ⟨hS,?_⟩
 rw[q2]
 have R2:=R1.put (d:=d2) (x:=.undef) (v:=.slice (some ⟨g,0,none⟩) n n) .undef (by simpa[St.put] using hd2)
 have c2':(a1.put (some d2) (.slice (some ⟨g,0,none⟩) n n)).eval (.tmp d2)=.slice (some ⟨g,0,none⟩) n n:=BR (by rw[R1.nt];simpa[St.put] using hd2)
 have cj:(a1.put (some d2) (.slice (some ⟨g,0,none⟩) n n)).eval (.tmp xj)=_:=(eval_put_ne (by simpa using k4)).trans bj
 have cb:(a1.put (some d2) (.slice (some ⟨g,0,none⟩) n n)).eval (.tmp xb)=_:=(eval_put_ne (by simpa using k5)).trans bb
 have ct:(a1.put (some d2) (.slice (some ⟨g,0,none⟩) n n)).eval (.tmp t)=_:=(eval_put_ne (by simpa using k6)).trans bt
 generalize a1.put (some d2) (.slice (some ⟨g,0,none⟩) n n)=a2 at *
 refine wpAnyH_all r3 (by simp) fun q hq=>?_
 rw[List.mem_singleton.1 hq]
 refine Jr (v:=.pointer (some ⟨g,j,none⟩)) (w':=w) ho3 g3 (by simp[execOp,p3,c2',cj,Jv hus hz1 hj]) ⟨hS,?_⟩
 rw[q3]
 have R3:=R2.put (d:=d3) (x:=.undef) (v:=.pointer (some ⟨g,j,none⟩)) .undef (by simpa[St.put] using hd3)
 have f3:(a2.put (some d3) (.pointer (some ⟨g,j,none⟩))).eval (.tmp d3)=.pointer (some ⟨g,j,none⟩):=BR (by rw[R2.nt];simpa[St.put] using hd3)
 have fb:(a2.put (some d3) (.pointer (some ⟨g,j,none⟩))).eval (.tmp xb)=_:=(eval_put_ne (by simpa using k7)).trans cb
 have ft:(a2.put (some d3) (.pointer (some ⟨g,j,none⟩))).eval (.tmp t)=_:=(eval_put_ne (by simpa using k8)).trans ct
 generalize a2.put (some d3) (.pointer (some ⟨g,j,none⟩))=a3 at *
 refine wpAnyH_all r4 (by simp) fun q hq=>?_
 rw[List.mem_singleton.1 hq]
 have hst:=Ju (P:=P) (t:=tb) (u:=.bool b) n2 (off:=j) (by unfold Bm;simp;omega) hzb rfl rfl
 have hbv:(Bm r).setIfInBounds j (.bool b)=Bm (r.set j b):=by
  unfold Bm
  apply Array.ext'
  simp
 rw[hbv] at hst
 have hne:∀k,¬Hf K0 K k→(w.setRow g (Bm (r.set j b))).heap[k]? =w.heap[k]? :=fun k hk=>setRow_other _ _ fun e=>by subst e;exact hk n1
 unfold wpOp
 simp only[ho4]
 rw[show Region.wanted o4 (yielded ops a3.tmps)=true by simp[Region.wanted,g4],if_pos rfl]
 refine .inl ?_
 unfold Oper.wp
 rw[show (execOp a3.eval o4).run P w=.ok .skip (w.setRow g (Bm (r.set j b))) by simp[execOp,p4,f3,fb,hst]]
 refine⟨fun k hk=>?_,?_⟩
 ·rw[hne k fun h=>h.1.nok (p:=p) (w:=w) (hk.okc hK R)]
  exact hS k hk
 obtain⟨K',p',t1,t2,t3,t4,t5,t6,t7,t8,t9⟩:=Lc (st':=st') R R3 hK W (w2:=w.setRow g (Bm (r.set j b))) (by rw[setRow_size];exact Nat.le_refl _) ⟨rfl,rfl,rfl⟩ (fun k _ hk=>hne k hk) hK0 hB h6
 refine wpAnyH_done r5 ⟨rfl,K',p',t1,t4,t5,?_,H.set hg hr t6,?_⟩ _
 ·rw[q4];exact t3
 ·rw[q4];exact(eval_put_ne (by simp)).trans ft
end
end Go.Vl
