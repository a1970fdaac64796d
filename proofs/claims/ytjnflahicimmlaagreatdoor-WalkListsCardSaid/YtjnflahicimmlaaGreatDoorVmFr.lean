/- The value logic: at the kit's wp, a region by its rules, with what it does not write; entries of a map that lies in frozen memory turned in their place. Conditions: none. -/
import Derived.Test.YtjnflahicimmlaaGreatDoorVmCc
set_option linter.unusedSimpArgs false
set_option linter.unusedVariables false
namespace Go.Vl
open Go Go.RowKit
section
variable {P:Program} {K:Ctx P} {st:St} {a:Act} {w:World} {p:Pl}
theorem aX {d:Option Nat} {t:Nat} {u:Value} (h:d≠some t):(a.put d u).eval (.tmp t)=a.eval (.tmp t):=by
 cases d with
 |none=>rfl
 |some k=>
  have hk:k≠t:=λe=>h (by rw[e])
  simp[Act.put,Act.eval,gu hk]
theorem dm {t:Nat} {u:Value} (h:t < a.tmps.size):(a.put (some t) u).eval (.tmp t)=u:=by
 simp[Act.put,Act.eval,h]
theorem yG {ops:Array Oper} {F:Exit→Act→World→Prop} {t:Nat} {v:Value}:∀(l:List Oper) (a:Act) (w:World),(∀o∈l,o.dst≠some t)→a.eval (.tmp t)=v→wpList P ops F l a w→wpList P ops (λe a w=>F e a w∧(e=.normal→a.eval (.tmp t)=v)) l a w:=by
 intro l
 induction l with
 |nil=>exact λa w _ hv h=>⟨h,λ_=>hv⟩
 |cons o l ih=>
  intro a w hd hv hh;have MS:=hd o (by simp);have Ff:∀o∈l,o.dst≠some t:=λo h=>hd o (by simp[h])
  have hp:∀u,(a.put o.dst u).eval (.tmp t)=v:=λu=>(aX MS).trans hv
  unfold wpList at hh ⊢;split
  ·rename_i hw
   rw[ai hw] at hh;rcases hh with hh |⟨h1,a0,w0,q⟩
   ·left
    unfold Oper.wp at hh ⊢;generalize (execOp a.eval o).run P w=r at hh ⊢;cases r with
    |ok n w'=>
     cases n <;> simp only[Oper.upon] at hh ⊢
     case value u=>exact ih _ _ Ff (hp _) hh
     case skip=>exact ih _ _ Ff (hp _) hh
     case defer d=>exact ih _ _ Ff ((aX MS).trans hv) hh
     case enter f args=>
      refine qE hh λe F3 he=>?_
      cases e with
      |returned u=>exact ih _ _ Ff (hp _) he
      |panicked c=>exact⟨he,λe=>by cases e⟩
      |outgrown=>obtain⟨a0,w0,q⟩:=he;exact⟨a0,w0,q,λe=>by cases e⟩
     case row row args=>exact Rows.mono hh λu F3 he=>ih _ _ Ff (hp _) he
    |halt x w'=>
     cases x <;> simp only[Oper.upon] at hh ⊢
     case panic u=>exact⟨hh,λe=>by cases e⟩
   ·exact .inr ⟨h1,a0,w0,q,λe=>by cases e⟩
  ·rename_i hw
   rw[ah hw] at hh;exact ih _ _ Ff (hp _) hh
def xz (st1:St):Exit→St→Prop:=λe s=>e=.normal∧s=st1
theorem wq {ops:Array Oper} {l:List Oper} {t:Nat} {v:Value} {st1:St} {F:Exit→Act→World→Prop} (hT:fc P K ops l st (xz st1)) (hd:∀o∈l,o.dst≠some t) (R:Rel K st a w p) (hv:a.eval (.tmp t)=v)
  (H:∀a w p,Rel K st1 a w p→a.eval (.tmp t)=v→F .normal a w):wpList P ops F l a w:=
 xE (λe a w h=>by
  obtain⟨⟨s,p,R,rfl,rfl⟩,h2⟩:=h;exact H a w p R (h2 rfl)) _ _ _ (yG _ _ _ hd hv (hT a w p R))
theorem xF {id:Nat} {l:List Oper} {y:Code} {t:Nat} {v:Value} {st1:St} {F:Exit→Act→World→Prop} (hT:fc P K l.toArray l st (xz st1)) (hd:∀o∈l,o.dst≠some t) (R:Rel K st a w p) (hv:a.eval (.tmp t)=v)
  (H:∀a w p,Rel K st1 a w p→a.eval (.tmp t)=v→y.wp P F a w):(Code.seq (.region id l.toArray false) y).wp P F a w:=
 eU (eW (wq hT hd R hv H))
theorem uA {t:Nat} {b:Bool} (R:Rel K st a w p) (h:st.look t=.d (.bool b)):a.eval (.tmp t)=.bool b:=by
 have:=R.ca (.tmp t);have ho:ca st (.tmp t)=.d (.bool b):=h;rw[ho] at this;generalize a.eval (.tmp t)=v at this;cases this with |d h=>cases h;rfl
theorem eR {id:Nat} {N:Act→World→Prop} {Q:Exit→Act→World→Prop} (h:Q (.exit id) a w):Exit.then N Q (.exit id) a w:=h
theorem ot {id:Nat} {Q:Exit→Act→World→Prop} (h:Q .normal a w):Exit.inBlock id Q (.exit id) a w:=by
 unfold Exit.inBlock;simp only[eM];exact h
theorem lC {id:Nat} {Q:Exit→Act→World→Prop} (h:Q .normal a w):Exit.inBlock id Q .normal a w:=h
theorem dB {N:Act→World→Prop} {Q:Exit→Act→World→Prop} (h:N a w):Exit.then N Q .normal a w:=h
inductive qA:D→Prop
 |int {k:IntKind} {n:Int}:qA (.int k n)
 |bool {b:Bool}:qA (.bool b)
 |str {s:ByteArray}:qA (.str s)
 |ve:qA .ve
 |slice {rows:List (List D)} (h:rows=[]∨rows.flatten≠[]) (hr:∀(j:Nat) (d:D),rows.flatten[j]? =some d→qA d):qA (.slice rows)
theorem RD.set {w w':World} {ok:Nat→Prop} {b:Nat} {es:Array MapEntry} {clock:Nat} (hb:w.heap[b]? =some (.map es clock)) (iA:∀k,k≠b→w'.heap[k]? =w.heap[k]?) {x:D} {v:Value} (h:RD w ok x v):qA x→RD w' ok x v:=by
 induction h with
 |int=>exact λ_=>.int
 |bool=>exact λ_=>.bool
 |str=>exact λ_=>.str
 |ve=>exact λ_=>.ve
 |pQ=>exact λ_=>.pQ
 |@slice rows a c z vs hz gD hc eY _ ih=>
  intro hp;cases hp with
  |slice h1 h2=>
   rcases h1 with rfl |h1
   ·exact .pQ
   ·have PR:a.block≠b:=λe=>by
     have rW:0 < rows.flatten.length:=List.length_pos_iff.2 h1;have:=eY 0 rW;rw[show a.add 0=a from rfl] at this;unfold World.cell? at this;rw[e,hb] at this;cases this
    exact .slice z vs hz gD hc (λj hj=>(gF (by rw[block_add];exact iA _ PR)).trans (eY j hj)) λj d hd=>ih j d hd (h2 j d hd)
 |mp=>exact λhp=>by cases hp
theorem fg.set {w w':World} {ok:Nat→Prop} {b:Nat} {es:Array MapEntry} {clock:Nat} (hb:w.heap[b]? =some (.map es clock)) (iA:∀k,k≠b→w'.heap[k]? =w.heap[k]?) {ag:Bool} {ds:List D} {v:Value} (h:fg w ok ag ds v) (hp:∀d∈ds,qA d):fg w' ok ag ds v:=by
 unfold fg at h ⊢;split at h
 ·rename_i ha
  rw[ai ha];obtain⟨cs,h1,h2,h3⟩:=h;exact⟨cs,h1,h2,λi d u hd hu=>(h3 i d u hd hu).set hb iA (hp d (bm hd))⟩
 ·rename_i ha
  rw[ah ha];obtain⟨d,h1,h2⟩:=h;exact⟨d,h1,h2.set hb iA (hp d (by rw[h1];simp))⟩
theorem Rz {w w':World} {ok:Nat→Prop} {b:Nat} {es:Array MapEntry} {clock:Nat} (hb:w.heap[b]? =some (.map es clock)) (iA:∀k,k≠b→w'.heap[k]? =w.heap[k]?) (f g:VS→Bool) (k:VS→Nat) (s:VS) {r:List D} {u v:Value} (hp:∀d∈r,qA d) (h:fg w ok (f s) (r.take (k s)) u∧fg w ok (g s) (r.drop (k s)) v):fg w' ok (f s) (r.take (k s)) u∧fg w' ok (g s) (r.drop (k s)) v:=
 ⟨fg.set hb iA h.1 λd hd=>hp d (eT hd),fg.set hb iA h.2 λd hd=>hp d (mE hd)⟩
theorem jd.set {w w':World} {ok:Nat→Prop} {b:Nat} {KY:Array MapEntry} {ZE:Nat} (hb:w.heap[b]? =some (.map KY ZE)) (iA:∀k,k≠b→w'.heap[k]? =w.heap[k]?) {s:VS} {es:Array MapEntry} {clock:Nat} (hp:∀r∈s.rows,∀d∈r,qA d) (h:jd w ok s es clock):jd w' ok s es clock:=
 {size:=h.size
  row:=λj r e hr he=>by
   exact Rz hb iA VS.ka VS.va VS.kz s (hp r (bm hr)) (h.row j r e hr he)
  born:=h.born
  nodup:=h.nodup }
theorem U9 {nt:Nat} {env:List (Nat×AV)} {w':World} {b:Nat} (R:Rel K { nt:=nt,env:=env,box:=[],vec:=[]} a w p) (qw:∀s y,get env s=some y→(∃x,y=.d (.bool x))∨∃r,y=.iter r) (hb:K.w0.heap.size≤b∨K.io b) (hs:w'.heap.size=w.heap.size) (ho:w'.os=w.os∧w'.tape=w.tape∧w'.output=w.output) (iA:∀k,k≠b→w'.heap[k]? =w.heap[k]?):
  Rel K { nt:=nt,env:=env,box:=[],vec:=[]} a w' p where
 lb:=R.lb
 lv:=R.lv
 pj:=R.pj
 nt:=R.nt
 pK:=R.pK
 oB:=R.oB
 size:=by rw[hs];exact R.size
 os:=ho.1.trans R.os
 tape:=ho.2.1.trans R.tape
 dr:=aM _
 output:=ho.2.2.trans R.output
 old:=λk h1 h2=>(iA k (λe=>by
  subst e;rcases hb with h |h
  ·omega
  ·exact h2 h)).trans (R.old k h1 h2)
 env:=λs y h=>by
  have:=R.env s y h;generalize a.tmps.getD s undef=u at this ⊢;rcases qw s y h with ⟨x,rfl⟩ |⟨r,rfl⟩
  ·cases this with |d h=>cases h;exact .d .bool
  ·cases this;exact .iter
 box:=λn cs h=>by simp[get] at h
 vec:=λn s h=>by simp[get] at h
 oF:=R.oF
 my:=R.my
 mX:=R.mX
theorem Rel.Ql (R:Rel K st a w p) {t:Nat} {x:AV} (hx:RA w (dx K w p) p x (a.tmps.getD t undef)):Rel K (st.put t x) a w p where
 lb:=R.lb
 lv:=R.lv
 pj:=R.pj
 nt:=R.nt
 pK:=R.pK
 oB:=R.oB
 size:=R.size
 os:=R.os
 tape:=R.tape
 dr:=R.dr
 output:=R.output
 old:=R.old
 env:=λs y h=>by
  simp only[St.put,get] at h;split at h
  ·rename_i e;subst e;cases h;exact hx
  ·exact R.env s y h
 box:=R.box
 vec:=R.vec
 oF:=R.oF
 my:=R.my
 mX:=R.mX
theorem Lg {ok:Nat→Prop} {B b:Nat} {ty:TypeId} {fz:Nat×Nat} {e z:Nat} {rows:List (List D)} (hB:w.heap[B]? =some (.cells #[.map (some b)] ty fz)) (gD:ok B) (hm:RD w ok (.mp e z rows) (.map (some b))):RA w ok p (.cN [.mp e z rows] 0) (.pointer (some ⟨B,0,none⟩)):=by
 have h:=RA.cN (p:=p) (w:=w) (ok:=ok) (row:=[.mp e z rows]) (o:=0) (a:=⟨B,0,none⟩) (λ_=>.map (some b)) gD (λj hj=>by
  have:j=0:=by simpa using hj
  subst this;show w.cell? ⟨B,0,none⟩=_;unfold World.cell?;rw[hB];rfl) (λj x hx=>by
  cases j with
  |zero=>simp at hx;subst hx;exact hm
  |succ j=>simp at hx)
 exact h
theorem ct {ops:Array Oper}:fc P K ops [] st (xz st):=ar ⟨rfl,rfl⟩
theorem QL {ops:Array Oper} {l:List Oper} {t t':Nat} {v v':Value} {st1:St} {F:Exit→Act→World→Prop} (hT:fc P K ops l st (xz st1)) (hd:∀o∈l,o.dst≠some t) (IN:∀o∈l,o.dst≠some t') (R:Rel K st a w p) (hv:a.eval (.tmp t)=v) (lE:a.eval (.tmp t')=v')
  (H:∀a w p,Rel K st1 a w p→a.eval (.tmp t)=v→a.eval (.tmp t')=v'→F .normal a w):wpList P ops F l a w:=
 xE (λe a w h=>by
  obtain⟨⟨⟨s,p,R,rfl,rfl⟩,h2⟩,h3⟩:=h;exact H a w p R (h2 rfl) (h3 rfl)) _ _ _ (yG _ _ _ IN lE (yG _ _ _ hd hv (hT a w p R)))
def Kept {P:Program} (K:Ctx P) (w w':World) (p p':Pl):Prop:=∀b,dx K w p b→w'.heap[b]? =w.heap[b]?∧dx K w' p' b
theorem Kept.trans {w1 w2 w3:World} {p1 p2 p3:Pl} (h:Kept K w1 w2 p1 p2) (h':Kept K w2 w3 p2 p3):Kept K w1 w3 p1 p3:=λb hb=>⟨(h' b (h b hb).2).1.trans (h b hb).1,(h' b (h b hb).2).2⟩
theorem Kept.Vy {w':World} {p':Pl} (h:Kept K w w' p p') {s:VS} {es:Array MapEntry} {clock:Nat} (hm:jd w (dx K w p) s es clock):jd w' (dx K w' p') s es clock:=hm.mono (λq hq=>cT (h _ hq).1) λk hk=>(h k hk).2
theorem AA {ops:Array Oper} {l:List Oper} {t:Nat} {v:Value} {st1:St} {F:Exit→Act→World→Prop} (hK:K.lx=[]) (hT:∀K':Ctx P,fc P K' ops l st (xz st1)) (hd:∀o∈l,o.dst≠some t) (R:Rel K st a w p) (hv:a.eval (.tmp t)=v)
  (H:∀a w' p',Rel K st1 a w' p'→Kept K w w' p p'→a.eval (.tmp t)=v→F .normal a w'):wpList P ops F l a w:=by
 obtain⟨K',_,R',back⟩:=R.Cn hK;exact wq (hT K') hd R' hv λa w' p' R2 hv=>H a w' p' (back _ _ _ _ R2).1 (back _ _ _ _ R2).2 hv
theorem BI {ops:Array Oper} {l:List Oper} {t t':Nat} {v v':Value} {st1:St} {F:Exit→Act→World→Prop} (hK:K.lx=[]) (hT:∀K':Ctx P,fc P K' ops l st (xz st1)) (hd:∀o∈l,o.dst≠some t) (IN:∀o∈l,o.dst≠some t') (R:Rel K st a w p) (hv:a.eval (.tmp t)=v) (lE:a.eval (.tmp t')=v')
  (H:∀a w' p',Rel K st1 a w' p'→Kept K w w' p p'→a.eval (.tmp t)=v→a.eval (.tmp t')=v'→F .normal a w'):wpList P ops F l a w:=by
 obtain⟨K',_,R',back⟩:=R.Cn hK;exact QL (hT K') hd IN R' hv lE λa w' p' R2 hv=>H a w' p' (back _ _ _ _ R2).1 (back _ _ _ _ R2).2 hv
theorem AB {id:Nat} {l:List Oper} {y:Code} {t:Nat} {v:Value} {st1:St} {F:Exit→Act→World→Prop} (hK:K.lx=[]) (hT:∀K':Ctx P,fc P K' l.toArray l st (xz st1)) (hd:∀o∈l,o.dst≠some t) (R:Rel K st a w p) (hv:a.eval (.tmp t)=v)
  (H:∀a w' p',Rel K st1 a w' p'→Kept K w w' p p'→a.eval (.tmp t)=v→y.wp P F a w'):(Code.seq (.region id l.toArray false) y).wp P F a w:=
 eU (eW (AA hK hT hd R hv H))
theorem Rel.oK (R:Rel K st a w p) {cM:St} (W:lZ st cM):∃p',Rel K cM a w p'∧∀b,dx K w p b→dx K w p' b:=by
 refine⟨_,R.qR W,λb h=>⟨h.1,h.2.1,λn hn=>h.2.2.1 n ?_,λn hn=>h.2.2.2 n ?_⟩⟩
 ·obtain⟨cs',Cl⟩:=aY.1 hn
  obtain⟨cs,je,_⟩:=mQ W.box Cl;exact(R.vg n).2 (by simp[St.lb,je])
 ·obtain⟨q,hq⟩:=aY.1 hn
  exact(R.sT n).2 (by simp[St.lv,mP W.vec hq])
theorem Rel.Lv (R:Rel K st a w p) (o:Obj):Rel K st a (w.alloc o) p∧(∀k,dx K w p k→dx K (w.alloc o) p k)∧(∀k,k < w.heap.size→(w.alloc o).heap[k]? =w.heap[k]?)∧(w.alloc o).heap[w.heap.size]? =some o∧dx K (w.alloc o) p w.heap.size:=by
 have gS:=R.size;have PH:∀q:Addr,q.block < w.heap.size→si (w.alloc o) q=si w q:=λq hq=>ud w _ q hq
 have hold:∀k,k < w.heap.size→(w.alloc o).heap[k]? =w.heap[k]? :=λk hk=>mc w _ hk
 have FU:(w.alloc o).heap.size=w.heap.size+1:=by unfold World.alloc;simp
 have gD:∀k,dx K w p k→dx K (w.alloc o) p k:=λk hk=>xZ (by omega) hk
 exact⟨R.evo ⟨by omega,rfl,rfl,rfl,λk h1 _=>hold k (by omega),λq hq=>PH q hq.1,gD,λ_ _ h=>⟨h,rfl⟩,λ_ _ h=>⟨h,rfl⟩,aM _⟩ (λn hn=>hold _ (R.blt hn)) (λn g hn hg=>hold _ (R.yI hn hg).2),gD,hold,gE w _,
  ⟨by omega,.inr (.inl (by omega)),λn hn e=>by have:=R.blt hn;omega,λn hn e=>by have:=(R.yI hn e).2;omega⟩⟩
theorem Jt {o:Oper} {ops:Array Oper} {rest:List Oper} {Q:Exit→Act→World→Prop} (hg:o.guard=none) (t:TypeId) (x:Operand) (sB:o.op=.load t x) (g:Nat) (v:Value) (ty:TypeId) (fz:Nat×Nat) (hx:a.eval x=.pointer (some ⟨g,0,none⟩)) (hu:(P.underlying t).isSome=true) (XF:gO P t=false)
  (hw:w.heap[g]? =some (.cells #[v] ty fz)) (hK:wpList P ops Q rest (a.put o.dst v) w):wpList P ops Q (o::rest) a w:=by
 refine jw hg (v:=v) (w':=w) ?_ hK;have hc:w.cell? ⟨g,0,none⟩=some v:=by
  unfold World.cell?;rw[hw];rfl
 simp[execOp,sB,hx,Instr.loadAt,Instr.sureAddr,loadVar,pr hu,XF,Result.andThen,hc]
theorem TO {l l':List MapEntry} (h:l'.map (·.born)=l.map (·.born)) (seen:Array Nat):(l'.filter λe=>!seen.contains e.born).length=(l.filter λe=>!seen.contains e.born).length:=by
 have k:∀l:List MapEntry,(l.filter λe=>!seen.contains e.born).length=((l.map (·.born)).filter λn=>!seen.contains n).length:=λl=>by
  rw[List.filter_map,bq];rfl
 rw[k,k,h]
attribute [local irreducible] VS.kz VS.va VS.ka LC WH WG bL
theorem ON {o:Oper} {ops:Array Oper} {rest:List Oper} {Q:Exit→Act→World→Prop} {ok:Nat→Prop} {s:VS} {t kt et:TypeId} {x k y:Operand} {kav yav:AV} {kd vd q:List D} {i b clock:Nat} {es:Array MapEntry}
  (hg:o.guard=none) (ho:o.op=.mapUpdate t x k y) (hd:o.dst=none) (hu:P.underlying t=some (.map kt et)) (sC:xl P kt s.ka kav=true) (hM:jd w ok s es clock) (hx:a.eval x=.map (some b)) (hb:w.heap[b]? =some (.map es clock))
  (hk:RA w ok p kav (a.eval k)) (hy:RA w ok p yav (a.eval y)) (VU:mG s.ka kav=some kd) (zx:mG s.va yav=some vd) (Jj:kd.length=s.kz) (hf:lW P kt s.ka s.kz kav s.rows=some (some (i,q)))
  (hK:∀es':Array MapEntry,es'.toList.map (·.born)=es.toList.map (·.born)→jd w ok { s with rows:=s.rows.set i (kd++vd)} es' clock→wpList P ops Q rest (a.put none undef) { w with heap:=w.heap.setIfInBounds b (.map es' clock)}):wpList P ops Q (o::rest) a w:=by
 have tv:=mj sC hk false;obtain⟨r,f1,f2⟩:=lk sC hk hM.key.1 hM.key.2 hf;obtain⟨e,row,g1,g2,g3,g4,g5⟩:=f2;subst g5;have PS:es[i]? =some e:=by rw[← bo];exact g1
 have ym:=EX sC g4 hk (hM.zd g2 PS).1;have gT:(Instr.mapUpdate t (.map (some b)) (a.eval k) (a.eval y)).run P w=.ok () { w with heap:=w.heap.setIfInBounds b (.map (es.modify i λe=>{ e with key:=a.eval k,val:=a.eval y }) clock)}:=by
  simp[Instr.mapUpdate,aJ hu,Result.andThen,cI hb,tv,f1,gQ _ hb,Instr.keyThatStays,PS,ym]
 refine D9 hg (w':={ w with heap:=w.heap.setIfInBounds b (.map (es.modify i λe=>{ e with key:=a.eval k,val:=a.eval y }) clock)}) (by simp[execOp,ho,hx,gT]) ?_;rw[hd];refine hK _ ?_ (Kj (s':={ s with rows:=s.rows.set i (kd++vd)}) hM rfl rfl Jj (uC VU hk) (uC zx hy));apply eH;intro j;simp only[aA,bo,dJ];by_cases rY:i=j
 ·subst rY
  cases he:es[i]? with
  |none=>simp
  |some e=>simp
 ·simp[rY]
theorem YA {w:World} {ok:Nat→Prop} {p:Pl} {sM:VS} {es:Array MapEntry} {clock:Nat} (h:jd w ok sM es clock) {j:Nat} {row:List D} {e:MapEntry} {kA vA:AV} (h1:sM.rows[j]? =some row) (h2:es[j]? =some e) (hk:ml sM.ka (row.take sM.kz)=some kA) (hv:ml sM.va (row.drop sM.kz)=some vA):RA w ok p kA e.key∧RA w ok p vA e.val:=by
 obtain⟨r1,r2⟩:=h.zd h1 h2;exact⟨qX hk r1,qX hv r2⟩
end
end Go.Vl
