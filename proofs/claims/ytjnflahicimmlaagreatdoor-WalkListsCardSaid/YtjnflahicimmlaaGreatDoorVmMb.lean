/- The value logic, part 9b: maps: keys, entries, and the operations on them. Conditions: none. -/
import Derived.Test.YtjnflahicimmlaaGreatDoorVmMa
import Derived.MapKept
import Derived.WideKeyRuns
import Derived.Deep.LoopGhost
set_option linter.unusedSimpArgs false
set_option linter.unusedVariables false
namespace Go.Vl
open Go Go.RowKit
section
variable {P:Program} {K:Ctx P} {st:St} {a:Act} {w:World} {p:Pl} {ok:Nat→Prop}
theorem yi {x:AV} (h:E3 x=true):∃(k:IntKind) (n:Int),x=.d (.int k n):=by
 cases x with
 |d d=>cases d <;> simp[E3] at h;exact⟨_,_,rfl⟩
 |_=>simp[E3] at h
theorem Rx {e:TypeId} {k:IntKind} (hu:P.underlying e=some (.int k)) {cs:Array Value} {o:Nat} {z:Value} (hz:cs[o]? =some z):(part e cs o).run P w=.ok z w:=by
 simp[part,isAgg,aJ hu,hz]
theorem mj {kt:TypeId} {ka:Bool} {k:AV} {v:Value} (h:xl P kt ka k=true) (hr:RA w ok p k v) (e:Bool):(Instr.checkKey e 10000 kt v).run P w=.ok () w:=by
 unfold xl at h;split at h
 ·split at h
  case h_2=>cases h
  rename_i n el l hu;simp only[aR,bg,bE] at h;obtain⟨⟨⟨h1,h2⟩,h3⟩,h4⟩:=h;split at h3
  case h_2=>cases h3
  rename_i kk hue;cases hr with
  |agg hl hx h1=>
   rename_i cs;have hi:∃i,P.info? el=some i∧i.size=1:=by
    unfold fh at h2;cases hi:P.info? el with
    |none=>simp[hi] at h2
    |some i=>exact⟨i,rfl,by simpa[hi] using h2⟩
   obtain⟨i,hi,gS⟩:=hi;rw[show (10000:Nat)=9999+1 from rfl,Instr.checkKey];simp only[bk,aJ hu,aU];simp only[Std.Legacy.Range.forIn_eq_forIn_range',Std.Legacy.Range.size,Nat.sub_zero,Nat.add_one_sub_one,Nat.div_one];have V0:P.cellsOf el=1:=by simp[Program.cellsOf,hi,gS]
   have each:∀j∈List.range' 0 n,∃z:Value,cs[j * P.cellsOf el]? =some z∧∃(k0:IntKind) (m:Int),z=Value.int k0 m:=λj hj=>by
    have wm:j < n:=by simpa using hj
    rw[V0,Nat.mul_one];have hjc:j < cs.size:=by omega
    obtain⟨k0,m,e0⟩:=yi (h4 l[j] (bC (by omega)));have:=hx j l[j] cs[j] (ae (by omega)) (by simp[hjc]);rw[e0] at this;refine⟨cs[j],by simp[hjc],k0,m,?_⟩;generalize cs[j]=u at this;cases this with |d hd=>cases hd;rfl
   generalize List.range' 0 n=is at each
   induction is with
   |nil=>simp
   |cons j is ih=>
    obtain⟨z,hz,k0,m,rfl⟩:=each j (by simp);have p1:=Rx (w:=w) hue hz;have p2:(Instr.checkKey e 9999 el (.int k0 m)).run P w=.ok () w:=by
     rw[show (9999:Nat)=9998+1 from rfl,Instr.checkKey];simp only[bk,aJ hue,aU]
     rfl
    simp only[List.forIn_cons,bk,run_sizeOf w hi,aU,p1,p2,cV];exact ih (λy hy=>each y (by simp[hy]))
 ·split at h
  ·rename_i k0 k1 n hu
   cases hr with |d hd=>cases hd with |int=>
   rw[show (10000:Nat)=9999+1 from rfl,Instr.checkKey];simp only[bk,aJ hu,aU];rfl
  ·rename_i s hu
   cases hr with |d hd=>cases hd with |str=>
   rw[show (10000:Nat)=9999+1 from rfl,Instr.checkKey];simp only[bk,aJ hu,aU];rfl
  ·rename_i b hu
   cases hr with |d hd=>cases hd with |bool=>
   rw[show (10000:Nat)=9999+1 from rfl,Instr.checkKey];simp only[bk,aJ hu,aU];rfl
  ·cases h
theorem RC {ds:List D} {v:Value} (h:fg w ok true ds v):RA w ok p (.agg (ds.map .d)) v:=by
 unfold fg at h;rw[ai rfl] at h;obtain⟨cs,rfl,h1,h2⟩:=h;have key:∀(i:Nat) (v:Value),cs[i]? =some v→∃d,ds[i]? =some d∧RD w ok d v:=λi v hv=>by
  have hi:i < cs.size:=(aL.1 hv).1;have hd:ds[i]? =some (ds[i]'(by omega)):=ae (by omega);exact⟨_,hd,h2 i _ v hd hv⟩
 refine .agg (by simpa using h1) (λi a v ha hv=>?_) λi v hv=>?_
 ·obtain⟨d,hd,hr⟩:=key i v hv
  simp only[aA,hd,cr,ba] at ha;subst ha;exact .d hr
 ·obtain⟨d,_,hr⟩:=key i v hv
  exact hr.one
theorem PW {t:TypeId} {l l':List AV} {r:Bool} (h:Tu P t l l'=some r) {u v:Value} (hu:RA w ok p (.agg l) u) (hv:RA w ok p (.agg l') v):(Op.equal t u v).run P w=.ok r w:=by
 cases hu with
 |agg hl hx hx1=>
  rename_i xs;cases hv with
  |agg hl' hy oC=>
   rename_i ys;have CV:∀(i:Nat) (a:AV),l[i]? =some a→∃v,xs[0+i]? =some v∧RA w ok p a v:=λi a ha=>by
    have hi:i < xs.size:=by have:=(aj.1 ha).1;omega
    exact⟨xs[i],by simp[hi],hx i a _ ha (by simp[hi])⟩
   have YT:∀(i:Nat) (a:AV),l'[i]? =some a→∃v,ys[0+i]? =some v∧RA w ok p a v:=λi a ha=>by
    have hi:i < ys.size:=by have:=(aj.1 ha).1;omega
    exact⟨ys[i],by simp[hi],hy i a _ ha (by simp[hi])⟩
   unfold Tu at h;split at h
   ·cases h
   split at h
   ·rename_i fs hs
    split at h
    ·cases h
    rename_i hp;have Xx:P.fieldsOf t=fs:=by simp[Program.fieldsOf,hs]
    have:=run_equalIn_struct (P:=P) w 9999 t xs ys (by rw[Xx];exact hs) (by simpa using hp);rw[Xx] at this;exact this.trans (C3 9997 fs.toList 0 l l' r h CV YT)
   ·rename_i n e hs
    split at h
    case isFalse=>cases h
    rename_i hh;obtain⟨hz,hn⟩:=hh;have hi:∃i,P.info? e=some i:=by
     unfold fh at hz;cases hi:P.info? e with
     |none=>simp[hi] at hz
     |some i=>exact⟨i,rfl⟩
    obtain⟨i,hi⟩:=hi;have hc:P.cellsOf e=1:=by simp[fh,hi] at hz;simp[Program.cellsOf,hi,hz]
    have:=run_equalIn_array (P:=P) w 9999 xs ys hs hi;rw[hc,List.range_eq_range',←hn] at this;exact this.trans (Fx 9998 l l' 0 r h CV YT)
   ·cases h
theorem Mc {kt:TypeId} {kd:TypeDesc} (hu:P.underlying kt=some kd) {k:AV} {d:D} {b:Bool} (h:nT P kt k (.d d)=some b) {v u:Value} (hv:RA w ok p k v) (hd:RD w ok d u):Instr.sameNow kd v u=some b:=by
 unfold nT at h;rw[hu] at h;split at h
 ·rename_i q0 q a q' b' e1 e2
  split at h
  case isFalse=>cases h
  rename_i hk;cases h;cases e1;cases e2;subst hk;cases hv with |d hv=>cases hv with |int=>cases hd with |int=>simp[Instr.sameNow]
 ·rename_i a b' e1 e2
  cases h;cases e1;cases e2;cases hv with |d hv=>cases hv with |bool=>cases hd with |bool=>rfl
 ·rename_i a b' e1 e2
  cases h;cases e1;cases e2;cases hv with |d hv=>cases hv with |str=>cases hd with |str=>simp[Instr.sameNow,beq_toListBytes]
 ·cases h
def CE (P:Program) (kt:TypeId) (ka:Bool) (kz:Nat) (k:AV) (rows:List (List D)) (es:List MapEntry) (i:Nat) (o:Option (Nat×List D)) (r:Option (Nat×Value)):Prop:=
 match o with
 |none=>r=none
 |some q=>∃(e:MapEntry) (row:List D),es[q.1]? =some e∧rows[q.1]? =some row∧q.2=row.drop kz∧Dt P kt ka k (row.take kz)=some true∧r=some (i+q.1,e.val)
theorem CE.cons {kt:TypeId} {ka:Bool} {kz:Nat} {k:AV} {rows:List (List D)} {es:List MapEntry} {i:Nat} {o:Option (Nat×List D)} {r:Option (Nat×Value)} (h:CE P kt ka kz k rows es (i+1) o r) (row:List D) (e:MapEntry):CE P kt ka kz k (row::rows) (e::es) i (o.map λq=>(q.1+1,q.2)) r:=by
 cases o with
 |none=>exact h
 |some q=>
  obtain⟨e',zd,h1,h2,h3,h4,h5⟩:=h;exact⟨e',zd,by simpa using h1,by simpa using h2,h3,h4,by rw[h5];congr 2;simp only;omega⟩
theorem lk {kt:TypeId} {ka:Bool} {kz:Nat} {k:AV} {v:Value} (sC:xl P kt ka k=true) (hv:RA w ok p k v) {rows:List (List D)} {es:List MapEntry} (hl:es.length=rows.length)
  (hr:∀(j:Nat) (row:List D) (e:MapEntry),rows[j]? =some row→es[j]? =some e→fg w ok ka (row.take kz) e.key) {o:Option (Nat×List D)} (h:lW P kt ka kz k rows=some o):
  ∃r,(Instr.findKey kt v es).run P w=.ok r w∧CE P kt ka kz k rows es 0 o r:=by
 cases ka with
 |true=>
  have abQ:(match P.underlying kt with |some (.array _ _) |some (.struct _)=>true |_=>false)=true:=by
   unfold xl at sC;rw[ai rfl] at sC;split at sC
   ·rename_i n e l hu;rw[hu]
   ·cases sC
  rw[run_findKey_eq w abQ];have key:∀(rows:List (List D)) (es:List MapEntry) (i:Nat) (o:Option (Nat×List D)),es.length=rows.length→(∀(j:Nat) (row:List D) (e:MapEntry),rows[j]? =some row→es[j]? =some e→fg w ok true (row.take kz) e.key)→lW P kt true kz k rows=some o→
    ∃r,(Instr.findAsking kt v es i).run P w=.ok r w∧CE P kt true kz k rows es i o r:=λrows=>by
   induction rows with
   |nil=>
    intro es i o hl _ h;have:es=[]:=aI (by simpa using hl);subst this;simp only[lW,ba] at h;subst h;exact⟨none,by simp[Instr.findAsking],rfl⟩
   |cons row rows ih=>
    intro es i o hl hr h;cases es with
    |nil=>simp at hl
    |cons e es=>
     simp only[lW] at h;cases hb:Dt P kt true k (row.take kz) with
     |none=>simp[hb] at h
     |some b=>
      simp only[hb,aa] at h;have hk:=RC (p:=p) (hr 0 row e rfl rfl);have he:(Op.equal kt v e.key).run P w=.ok b w:=by
       have pS:=hb;unfold Dt at pS;rw[ai rfl] at pS;cases k with
       |agg l=>exact PW pS hv hk
       |_=>simp at pS
      cases b with
      |true=>
       rw[ai rfl] at h;cases h;exact⟨some (i,e.val),by simp[Instr.findAsking,he,Result.andThen],e,row,rfl,rfl,rfl,hb,rfl⟩
      |false=>
       rw[ah (by decide)] at h;cases ho:lW P kt true kz k rows with
       |none=>simp[ho] at h
       |some o'=>
        simp only[ho,cr,ba] at h;subst h;obtain⟨r,h1,h2⟩:=ih es (i+1) o' (by simpa using hl) (λj zd e' h1 h2=>hr (j+1) zd e' (by simpa using h1) (by simpa using h2)) ho;exact⟨r,by simp[Instr.findAsking,he,Result.andThen,h1],h2.cons row e⟩
  exact key rows es 0 o hl hr h
 |false=>
  obtain⟨kd,hu⟩:∃kd,P.underlying kt=some kd:=by
   unfold xl at sC;rw[ah (by decide)] at sC;split at sC
   ·rename_i hu;exact⟨_,hu⟩
   ·rename_i hu;exact⟨_,hu⟩
   ·rename_i hu;exact⟨_,hu⟩
   ·cases sC
  have key:∀(rows:List (List D)) (es:List MapEntry) (i:Nat) (o:Option (Nat×List D)),es.length=rows.length→(∀(j:Nat) (row:List D) (e:MapEntry),rows[j]? =some row→es[j]? =some e→fg w ok false (row.take kz) e.key)→lW P kt false kz k rows=some o→
    ∃r,Instr.findNow kd v es i=some r∧CE P kt false kz k rows es i o r:=λrows=>by
   induction rows with
   |nil=>
    intro es i o hl _ h;have:es=[]:=aI (by simpa using hl);subst this;simp only[lW,ba] at h;subst h;exact⟨none,rfl,rfl⟩
   |cons row rows ih=>
    intro es i o hl hr h;cases es with
    |nil=>simp at hl
    |cons e es=>
     simp only[lW] at h;cases hb:Dt P kt false k (row.take kz) with
     |none=>simp[hb] at h
     |some b=>
      simp only[hb,aa] at h;have hk:=hr 0 row e rfl rfl;have he:Instr.sameNow kd v e.key=some b:=by
       have pS:=hb;unfold Dt at pS;rw[ah (by decide)] at pS;unfold fg at hk;rw[ah (by decide)] at hk;obtain⟨d,hd,rD⟩:=hk;rw[hd] at pS;exact Mc hu pS hv rD
      cases b with
      |true=>
       rw[ai rfl] at h;cases h;exact⟨some (i,e.val),by simp[Instr.findNow,he],e,row,rfl,rfl,rfl,hb,rfl⟩
      |false=>
       rw[ah (by decide)] at h;cases ho:lW P kt false kz k rows with
       |none=>simp[ho] at h
       |some o'=>
        simp only[ho,cr,ba] at h;subst h;obtain⟨r,h1,h2⟩:=ih es (i+1) o' (by simpa using hl) (λj zd e' h1 h2=>hr (j+1) zd e' (by simpa using h1) (by simpa using h2)) ho;exact⟨r,by simp[Instr.findNow,he,h1],h2.cons row e⟩
  obtain⟨r,h1,h2⟩:=key rows es 0 o hl hr h;exact⟨r,MapKept.run_findKey hu h1,h2⟩
theorem HA {e:TypeId}:∀(l:List AV) (ds:List D),(∀x∈l,E3 x=true)→Cq P e l (ds.map .d)=some true→l=ds.map .d
 |[],[],_,_=>rfl
 |[],d::ds,_,h=>by simp[Cq] at h
 |x::l,[],_,h=>by simp[Cq] at h
 |x::l,d::ds,hi,h=>by
  simp only[aW,Cq] at h;cases hb:nT P e x (.d d) with
  |none=>simp[hb] at h
  |some b=>
   cases hr:Cq P e l (ds.map .d) with
   |none=>simp[hb,hr] at h
   |some r=>
    simp only[hb,hr,aa,cr,ba,aR] at h;obtain⟨rfl,rfl⟩:=h;have ih:=HA l ds (λx hx=>hi x (cW _ hx)) hr;obtain⟨k,n,rfl⟩:=yi (hi x (iC ..));unfold nT at hb;split at hb
    ·rename_i k0 k1 a k2 b e1 e2 e3
     split at hb
     case isFalse=>cases hb
     rename_i hk;simp only[AV.d.injEq,D.int.injEq] at e2 e3;obtain⟨rfl,rfl⟩:=e2;simp only[ba,ew] at hb;rw[aW,ih,e3,hk,hb]
    ·rename_i e2 _;cases e2
    ·rename_i e2 _;cases e2
    ·cases hb
theorem EX {kt:TypeId} {ka:Bool} {k:AV} {ds:List D} (sC:xl P kt ka k=true) (h:Dt P kt ka k ds=some true) {v u:Value} (hv:RA w ok p k v) (hu:fg w ok ka ds u):Instr.sameBits 10000 u v=true:=by
 cases ka with
 |true=>
  unfold xl at sC;rw[ai rfl] at sC;unfold Dt at h;rw[ai rfl] at h;split at sC
  case h_2=>cases sC
  rename_i n el l ML;simp only[aR,bg,bE] at sC;obtain⟨⟨⟨h1,h2⟩,h3⟩,h4⟩:=sC;simp only at h;unfold Tu at h;split at h
  ·cases h
  rw[ML] at h;simp only[h2,h1,oH,eM] at h;have hl:=HA l ds h4 h;unfold fg at hu;rw[ai rfl] at hu;obtain⟨cs,rfl,c1,c2⟩:=hu;cases hv with
  |agg e1 e2 e3=>
   rename_i cs2;have hll:l.length=ds.length:=by rw[hl];simp
   have gS:cs.size=cs2.size:=by omega
   rw[show (10000:Nat)=9999+1 from rfl];simp only[Instr.sameBits,gS,beq_self_eq_true,kY,bE]
   rintro⟨a,b⟩ hm
   obtain⟨i,hi,e⟩:=cu hm;simp only[List.length_zip,kE] at hi;rw[List.getElem_zip,jx] at e;obtain⟨rfl,rfl⟩:=e;have hi1:i < cs.size:=by omega
   have Xv:i < cs2.size:=by omega
   have ph:i < l.length:=by omega
   have hid:i < ds.length:=by omega
   obtain⟨k0,m,e0⟩:=yi (h4 l[i] (bC ph));have ed:l[i]=.d ds[i]:=by simp[hl]
   have r1:=e2 i l[i] cs2[i] (ae ph) (by simp[Xv]);have r2:=c2 i ds[i] cs[i] (ae hid) (by simp[hi1]);rw[ed] at e0 r1;simp only[AV.d.injEq] at e0;rw[e0] at r1 r2;simp only[Array.getElem_toList];generalize cs[i]=x at r2 ⊢;generalize cs2[i]=y at r1 ⊢;cases r2;cases r1 with |d r1=>cases r1;simp[Instr.sameBits]
 |false=>
  unfold Dt at h;rw[ah (by decide)] at h;unfold fg at hu;rw[ah (by decide)] at hu;obtain⟨d,rfl,rD⟩:=hu;simp only at h;unfold nT at h;split at h
  ·rename_i q0 q a q' b' e1 e2 e3
   split at h
   case isFalse=>cases h
   rename_i hk;simp only[ba,ew] at h;cases e3;subst hk h;cases hv with |d hv=>cases hv with |int=>cases rD with |int=>simp[Instr.sameBits]
  ·rename_i a b' e1 e2 e3
   simp only[ba,ew] at h;cases e3;subst h;cases hv with |d hv=>cases hv with |bool=>cases rD with |bool=>simp[Instr.sameBits]
  ·rename_i e1 e2 e3
   simp only[ba] at h;cases e3;rw[← beq_toListBytes] at h;have:=(MapKept.bytes_beq _ _).1 h;subst this;cases hv with |d hv=>cases hv with |str=>cases rD with |str=>exact h
  ·cases h
theorem qX {ag:Bool} {ds:List D} {x:AV} (h:ml ag ds=some x) {v:Value} (hv:fg w ok ag ds v):RA w ok p x v:=by
 unfold ml at h;cases ag with
 |true=>
  rw[ai rfl] at h;cases h;exact RC hv
 |false=>
  rw[ah (by decide)] at h;unfold fg at hv;rw[ah (by decide)] at hv;obtain⟨d,rfl,hd⟩:=hv;cases h;exact .d hd
theorem uC {ag:Bool} {x:AV} {ds:List D} (h:mG ag x=some ds) {v:Value} (hv:RA w ok p x v):fg w ok ag ds v:=by
 unfold mG at h;unfold fg;cases ag with
 |true=>
  rw[ai rfl] at h ⊢;split at h
  case h_2=>cases h
  obtain⟨t1,t2⟩:=vD h;cases hv with
  |agg e1 e2 e3=>
   refine⟨_,rfl,by omega,λi d u hd hu=>?_⟩;obtain⟨y,hy,YK⟩:=t2 i d hd;exact BL YK (e2 i y u hy hu)
 |false=>
  rw[ah (by decide)] at h ⊢;have:∃d,x.Qt=some d∧ds=[d]:=by
   split at h
   ·cases h
   ·cases h
   ·cases hd:x.Qt with
    |none=>simp[hd] at h
    |some d=>simp only[hd,cr,ba] at h;exact⟨d,rfl,h.symm⟩
  obtain⟨d,h1,h2⟩:=this;exact⟨d,h2,BL h1 hv⟩
theorem Jq {t:TypeId} {x:AV} (h:zeroV P t=some x):∃z,(zeroValue t).run P w=.ok z w∧RA w ok p x z:=by
 unfold zeroV at h;cases hi:P.info? t with
 |none=>simp[hi] at h
 |some i=>
  cases hz:i.zero with
  |none=>simp[hi,hz] at h
  |some z=>
   simp only[hi,hz,aa,cr,ba] at h;subst h;exact⟨z,by simp[zeroValue,typeInfo,hi,hz],(EG _ _ _ z).vp⟩
theorem Iq (R:Rel K st a w p) {n:Nat} {s s':VS} (hn:get st.vec n=some s) (hM:s.rC=true) (he:s'.e=s.e) {b:Nat} {es es':Array MapEntry} {clock Al:Nat} (hv:p.rw n=.map (some b)) (hb:w.heap[b]? =some (.map es clock))
  (hz:∀r∈s'.rows,r.length=s'.z) (hm:jd w (dx K w p) s' es' Al):
  Rel K { st with vec:=(n,s')::st.vec } a { w with heap:=w.heap.setIfInBounds b (.map es' Al)} p:=by
 have iN:b < w.heap.size:=(aL.1 hb).1;refine R.aaS hn (g:=b) (by rw[hv];rfl) ⟨rfl,rfl,rfl,by simp,λk hk iA=>?_⟩ (aM _) hz λnf h1 h2=>?_
 ·have:¬b=k:=λe=>iA (by rw[e])
  simp[eK,this]
 ·refine .ofM (by unfold VS.rC at hM ⊢;rw[he];exact hM) ⟨b,es',Al,hv,by simp[iN],hm.mono h1 h2⟩
theorem DJ (R:Rel K st a w p) {x:Operand} {n:Nat} {s:VS} (hx:ca st x=.vec n) (hn:get st.vec n=some s) (hM:s.rC=true):∃(b:Nat) (es:Array MapEntry) (clock:Nat),a.eval x=.map (some b)∧p.rw n=.map (some b)∧w.heap[b]? =some (.map es clock)∧jd w (dx K w p) s es clock:=by
 have h1:=R.ca x;rw[hx] at h1;obtain⟨sJ,hz,_⟩:=R.vec n s hn;obtain⟨b,es,clock,e1,e2,e3⟩:=sJ.map hM;refine⟨b,es,clock,?_,e1,e2,e3⟩;generalize a.eval x=v at h1;cases h1;exact e1
theorem jd.key {s:VS} {es:Array MapEntry} {clock:Nat} (h:jd w ok s es clock):es.toList.length=s.rows.length∧∀(j:Nat) (row:List D) (e:MapEntry),s.rows[j]? =some row→es.toList[j]? =some e→fg w ok s.ka (row.take s.kz) e.key:=
 ⟨by simpa using h.size,λj row e h1 h2=>(h.row j row e h1 (by simpa using h2)).1⟩
attribute [local irreducible] VS.kz VS.va VS.ka
theorem Ry (f g:VS→Bool) (k:VS→Nat) (s:VS) {r:List D} {u v:Value} (h:fg w ok (f s) (r.take (k s)) u∧fg w ok (g s) (r.drop (k s)) v):fg w ok (g s) (r.drop (k s)) v:=h.2
theorem jd.val {s:VS} {es:Array MapEntry} {clock:Nat} (h:jd w ok s es clock) {j:Nat} {row:List D} {e:MapEntry} (h1:s.rows[j]? =some row) (h2:es.toList[j]? =some e):fg w ok s.va (row.drop s.kz) e.val:=by
 have h2':es[j]? =some e:=by rw[← bo];exact h2
 exact Ry VS.ka VS.va VS.kz s (h.row j row e h1 h2')
theorem Hj (R:Rel K st a w p) {o:Oper} {t kt et:TypeId} {x k:Operand} {px:Bool} {v:AV} {s:VS} {b:Nat} {es:Array MapEntry} {clock:Nat} (ho:o.op=.lookup t x k px) (hu:P.underlying t=some (.map kt et)) (sC:xl P kt s.ka (ca st k)=true)
  (e1:a.eval x=.map (some b)) (e3:w.heap[b]? =some (.map es clock)) (e4:jd w (dx K w p) s es clock) (hl:((lW P kt s.ka s.kz (ca st k) s.rows).bind λo=>vH P et s.va px o)=some v) {cM:St} (h:Es st o.dst v=some cM):Stepped P K cM o a w:=by
 cases hf:lW P kt s.ka s.kz (ca st k) s.rows with
 |none=>simp[hf] at hl
 |some q=>
  simp only[hf,aa,vH] at hl;have tv:=mj sC (R.ca k) es.isEmpty;obtain⟨r,f1,f2⟩:=lk sC (R.ca k) e4.key.1 e4.key.2 hf;have key:∃u,(Instr.lookup t (.map (some b)) (a.eval k) px).run P w=.ok u w∧RA w (dx K w p) p v u:=by
   cases q with
   |none=>
    have hr:r=none:=f2;subst hr;cases hz:zeroV P et with
    |none=>simp[hz] at hl
    |some z=>
     simp only[hz,cr,ba,Option.isSome_none] at hl;obtain⟨u,z1,z2⟩:=Jq (w:=w) (ok:=dx K w p) (p:=p) hz;subst hl;cases px with
     |true=>
      refine⟨.tuple #[u,.bool false],?_,.ia rfl λi a v ha hv=>?_⟩
      ·simp[Instr.lookup,aJ hu,Result.andThen,cI e3,tv,f1,z1]
      ·match i with
       |0=>simp at ha hv;subst ha hv;exact z2
       |1=>simp at ha hv;subst ha hv;exact .d .bool
       |n+2=>simp at ha
     |false=>
      exact⟨u,by simp[Instr.lookup,aJ hu,Result.andThen,cI e3,tv,f1,z1],z2⟩
   |some q=>
    obtain⟨e,row,g1,g2,g3,g4,g5⟩:=f2;subst g5;have hp:=e4.val g2 g1;cases hz:ml s.va q.2 with
    |none=>simp[hz] at hl
    |some z=>
     simp only[hz,cr,ba,se] at hl;rw[g3] at hz;have z2:=qX (p:=p) hz hp;subst hl;cases px with
     |true=>
      refine⟨.tuple #[e.val,.bool true],?_,.ia rfl λi a v ha hv=>?_⟩
      ·simp[Instr.lookup,aJ hu,Result.andThen,cI e3,tv,f1]
      ·match i with
       |0=>simp at ha hv;subst ha hv;exact z2
       |1=>simp at ha hv;subst ha hv;exact .d .bool
       |n+2=>simp at ha
     |false=>
      exact⟨e.val,by simp[Instr.lookup,aJ hu,Result.andThen,cI e3,tv,f1],z2⟩
  obtain⟨u,k1,k2⟩:=key;exact⟨w,p,.inl ⟨u,by simp[execOp,ho,e1,k1],R.BX k2 h⟩⟩
theorem MD (R:Rel K st a w p) {o:Oper} {t:TypeId} {x k:Operand} {px:Bool} (ho:o.op=.lookup t x k px) {cM:St} (h:((rT P st t (ca st x) (ca st k) px).bind λv=>Es st o.dst v)=some cM):Stepped P K cM o a w:=by
 cases hl:rT P st t (ca st x) (ca st k) px with
 |none=>simp[hl] at h
 |some v=>
  simp only[hl,aa] at h;unfold rT at hl;split at hl
  case h_3=>cases hl
  ·rename_i kt et n hu hx
   cases hn:get st.vec n with
   |none=>simp[hn] at hl
   |some s=>
    simp only[hn,aa] at hl;split at hl
    case isFalse=>cases hl
    rename_i hc;obtain⟨hM,sC⟩:=hc;obtain⟨b,es,clock,e1,e2,e3,e4⟩:=DJ R hx hn hM;exact Hj R ho hu sC e1 e3 e4 hl h
  ·rename_i kt et e z rows hu hx
   split at hl
   case isFalse=>cases hl
   rename_i sC;have h1:=R.ca x;rw[hx] at h1;generalize hv:a.eval x=u at h1;cases h1 with
   |d h1=>
    obtain⟨b,es,clock,rfl,e3,_,_,e4⟩:=h1.zR;exact Hj R ho hu sC hv e3 e4 hl h
theorem VS.same {s s':VS} (h:s'.e=s.e):s'.ka=s.ka∧s'.va=s.va∧s'.kz=s.kz∧s'.rC=s.rC:=by
 unfold VS.ka VS.va VS.kz VS.rC;rw[h];exact⟨rfl,rfl,rfl,rfl⟩
theorem jd.zd {s:VS} {es:Array MapEntry} {clock:Nat} (h:jd w ok s es clock) {j:Nat} {row:List D} {e:MapEntry} (h1:s.rows[j]? =some row) (h2:es[j]? =some e):fg w ok s.ka (row.take s.kz) e.key∧fg w ok s.va (row.drop s.kz) e.val:=h.row j row e h1 h2
theorem Kj {s s':VS} {es:Array MapEntry} {clock:Nat} (h:jd w ok s es clock) {i:Nat} {kd vd:List D} {kv vv:Value} (he:s'.e=s.e) (hr:s'.rows=s.rows.set i (kd++vd)) (Jj:kd.length=s.kz) (hk:fg w ok s.ka kd kv) (hv:fg w ok s.va vd vv):
  jd w ok s' (es.modify i λe=>{ e with key:=kv,val:=vv }) clock:=by
 obtain⟨a1,a2,a3,_⟩:=VS.same he;have pN:(es.modify i λe=>{ e with key:=kv,val:=vv }).toList.map (·.born)=es.toList.map (·.born):=by
  apply eH;intro j;simp only[aA,bo,dJ];by_cases rY:i=j
  ·subst rY
   cases he:es[i]? with
   |none=>simp
   |some e=>simp
  ·simp[rY]
 refine⟨by rw[Array.size_modify,h.size,hr,jf],λj row e h1 h2=>?_,λx hx=>?_,by rw[pN];exact h.nodup⟩
 ·rw[a1,a2,a3]
  rw[hr,iV] at h1;rw[dJ] at h2;by_cases rY:i=j
  ·rw[ai rY] at h1 h2
   split at h1
   case isFalse=>cases h1
   cases h1;cases hej:es[j]? with
   |none=>rw[hej] at h2;cases h2
   |some e0=>
    rw[hej] at h2;cases h2;rw[← Jj,List.take_left',List.drop_left'] <;> first |exact⟨hk,hv⟩ |rfl
  ·rw[ah rY] at h1 h2
   exact h.zd h1 h2
 ·have:x.born∈(es.modify i λe=>{ e with key:=kv,val:=vv }).toList.map (·.born):=aG.2 ⟨x,hx,rfl⟩
  rw[pN] at this;obtain⟨y,hy,e⟩:=aG.1 this;rw[← e];exact h.born y hy
theorem Pv {s s':VS} {es:Array MapEntry} {clock:Nat} (h:jd w ok s es clock) {kd vd:List D} {kv vv:Value} (he:s'.e=s.e) (hr:s'.rows=s.rows++[kd++vd]) (Jj:kd.length=s.kz) (hk:fg w ok s.ka kd kv) (hv:fg w ok s.va vd vv):
  jd w ok s' (es.push { key:=kv,val:=vv,born:=clock }) (clock+1):=by
 obtain⟨a1,a2,a3,_⟩:=VS.same he;have hs:=h.size;refine⟨by rw[Array.size_push,hr,bF,hs];rfl,λj row e h1 h2=>?_,λx hx=>?_,?_⟩
 ·rw[a1,a2,a3]
  rw[hr] at h1;rw[Array.getElem?_push] at h2;by_cases hj:j < s.rows.length
  ·rw[ek hj] at h1
   rw[ah (by omega)] at h2;exact h.zd h1 h2
  ·rw[fF (by omega)] at h1
   by_cases IL:j=s.rows.length
   ·subst IL
    rw[ai (by omega)] at h2;simp only[Nat.sub_self,aS,ba] at h1;cases h2;subst h1;rw[← Jj,List.take_left',List.drop_left'] <;> first |exact⟨hk,hv⟩ |rfl
   ·rw[fy (by simp;omega)] at h1;cases h1
 ·simp only[Array.toList_push,aQ,aD] at hx
  rcases hx with hx |rfl
  ·exact Nat.lt_succ_of_lt (h.born x hx)
  ·exact Nat.lt_succ_self _
 ·simp only[Array.toList_push,bV,aW,cO]
  refine dh.2 ⟨h.nodup,by simp,?_⟩;intro a ha b hb;simp only[aD] at hb;subst hb;obtain⟨x,hx,rfl⟩:=aG.1 ha;exact Nat.ne_of_lt (h.born x hx)
theorem ET {s s':VS} {es:Array MapEntry} {clock:Nat} (h:jd w ok s es clock) {i:Nat} (hi:i < s.rows.length) (he:s'.e=s.e) (hr:s'.rows=s.rows.eraseIdx i):jd w ok s' (es.eraseIdxIfInBounds i) clock:=by
 obtain⟨a1,a2,a3,_⟩:=VS.same he;have hs:=h.size;have xC:i < es.size:=by omega
 have e1:es.eraseIdxIfInBounds i=es.eraseIdx i xC:=by unfold Array.eraseIdxIfInBounds;rw[dif_pos xC]
 rw[e1];have xo:(es.eraseIdx i xC).toList.Sublist es.toList:=by rw[Array.toList_eraseIdx];exact uj _ _
 refine⟨by rw[Array.size_eraseIdx,hr,List.length_eraseIdx,ai hi,hs],λj row e h1 h2=>?_,λx hx=>h.born x (xo.subset hx),(xo.map _).nodup h.nodup⟩;rw[a1,a2,a3];rw[hr,List.getElem?_eraseIdx] at h1;rw[← bo,Array.toList_eraseIdx,List.getElem?_eraseIdx] at h2;split at h1
 ·rename_i hj
  rw[ai hj,bo] at h2;exact h.zd h1 h2
 ·rename_i hj
  rw[ah hj,bo] at h2;exact h.zd h1 h2
theorem GI (R:Rel K st a w p) {o:Oper} {t:TypeId} {x k y:Operand} (ho:o.op=.mapUpdate t x k y∨o.op=.insert t x k y) (hd:o.dst=none) {cM:St} (h:QW P st t (ca st x) (ca st k) (ca st y)=some cM):Stepped P K cM o a w:=by
 unfold QW at h;split at h
 case h_2=>cases h
 rename_i kt et n hu hx;cases hn:get st.vec n with
 |none=>simp[hn] at h
 |some s=>
  simp only[hn,aa] at h;split at h
  case isFalse=>cases h
  rename_i hc;obtain⟨hM,sC⟩:=hc;obtain⟨b,es,clock,e1,e2,e3,e4⟩:=DJ R hx hn hM;cases VU:mG s.ka (ca st k) with
  |none=>simp[VU] at h
  |some kd=>
   cases zx:mG s.va (ca st y) with
   |none=>simp[VU,zx] at h
   |some vd=>
    simp only[VU,zx,aa] at h;split at h
    case isFalse=>cases h
    rename_i hz;obtain⟨Jj,hvz⟩:=hz;cases hf:lW P kt s.ka s.kz (ca st k) s.rows with
    |none=>simp[hf] at h
    |some q=>
     simp only[hf,aa,ba] at h;subst h;have tv:=mj sC (R.ca k) false;obtain⟨r,f1,f2⟩:=lk sC (R.ca k) e4.key.1 e4.key.2 hf;have pk:=uC VU (R.ca k);have pv:=uC zx (R.ca y);have hzr:∀row∈s.rows,row.length=s.z:=(R.vec n s hn).hz;cases q with
     |none=>
      have hr:r=none:=f2;subst hr;have gT:(Instr.mapUpdate t (.map (some b)) (a.eval k) (a.eval y)).run P w=.ok () { w with heap:=w.heap.setIfInBounds b (.map (es.push { key:=a.eval k,val:=a.eval y,born:=clock }) (clock+1))}:=by
       simp[Instr.mapUpdate,aJ hu,Result.andThen,cI e3,tv,f1,gQ _ e3]
      have R':=Iq (s':={ s with rows:=s.rows++[kd++vd]}) R hn hM rfl e2 e3 (λrow hr=>by
       rcases aQ.1 hr with hr |hr
       ·exact hzr row hr
       ·rw[aD] at hr;subst hr;rw[bF,Jj];exact hvz) (Pv (s':={ s with rows:=s.rows++[kd++vd]}) e4 rfl rfl Jj pk pv)
      refine⟨_,p,.inr ⟨?_,by rw[hd];exact R'⟩⟩;rcases ho with ho |ho <;> simp[execOp,ho,e1,gT]
     |some q=>
      obtain⟨e,row,g1,g2,g3,g4,g5⟩:=f2;subst g5;have PS:es[q.1]? =some e:=by rw[← bo];exact g1
      have ym:=EX sC g4 (R.ca k) (e4.zd g2 PS).1;have gT:(Instr.mapUpdate t (.map (some b)) (a.eval k) (a.eval y)).run P w=.ok () { w with heap:=w.heap.setIfInBounds b (.map (es.modify q.1 λe=>{ e with key:=a.eval k,val:=a.eval y }) clock)}:=by
       simp[Instr.mapUpdate,aJ hu,Result.andThen,cI e3,tv,f1,gQ _ e3,Instr.keyThatStays,PS,ym]
      have R':=Iq (s':={ s with rows:=s.rows.set q.1 (kd++vd)}) R hn hM rfl e2 e3 (λrow hr=>by
       rcases List.mem_or_eq_of_mem_set hr with hr |hr
       ·exact hzr row hr
       ·subst hr;rw[bF,Jj];exact hvz) (Kj (s':={ s with rows:=s.rows.set q.1 (kd++vd)}) e4 rfl rfl Jj pk pv)
      refine⟨_,p,.inr ⟨?_,by rw[hd];exact R'⟩⟩;rcases ho with ho |ho <;> simp[execOp,ho,e1,gT]
theorem P2 (R:Rel K st a w p) {o:Oper} {x y:Operand} {t t':TypeId} (ho:o.op=.call { callee:=.builtin .delete,args:=#[x,y],argTypes:=#[t,t']}) {cM:St} (h:((TE P st t (ca st x) (ca st y)).bind λs1=>Es s1 o.dst (.ia []))=some cM):Stepped P K cM o a w:=by
 cases FU:TE P st t (ca st x) (ca st y) with
 |none=>simp[FU] at h
 |some s1=>
  simp only[FU,aa] at h;unfold TE at FU;split at FU
  case h_2=>cases FU
  rename_i kt et n hu hx;cases hn:get st.vec n with
  |none=>simp[hn] at FU
  |some s=>
   simp only[hn,aa] at FU;split at FU
   case isFalse=>cases FU
   rename_i hc;obtain⟨hM,sC⟩:=hc;obtain⟨b,es,clock,e1,e2,e3,e4⟩:=DJ R hx hn hM;cases hf:lW P kt s.ka s.kz (ca st y) s.rows with
   |none=>simp[hf] at FU
   |some q=>
    simp only[hf,aa,ba] at FU;subst FU;have tv:=mj sC (R.ca y) es.isEmpty;obtain⟨r,f1,f2⟩:=lk sC (R.ca y) e4.key.1 e4.key.2 hf;have hzr:∀row∈s.rows,row.length=s.z:=(R.vec n s hn).hz;cases q with
    |none=>
     have hr:r=none:=f2;subst hr;have gT:(Builtin.delete_ #[t,t'] o.type #[.map (some b),a.eval y]).run P w=.ok (.tuple #[]) { w with heap:=w.heap.setIfInBounds b (.map es clock)}:=by
      simp[Builtin.delete_,aJ hu,Result.andThen,cI e3,tv,f1,gQ _ e3]
     have R':=Iq (s':={ s with rows:=s.rows }) R hn hM rfl e2 e3 hzr e4;exact⟨_,p,.inl ⟨.tuple #[],by simp[execOp,ho,resolve,invoke,builtin,e1,gT],R'.BX (.ia rfl λi a v ha _=>by simp at ha) h⟩⟩
    |some q=>
     obtain⟨e,row,g1,g2,g3,g4,g5⟩:=f2;subst g5;have gT:(Builtin.delete_ #[t,t'] o.type #[.map (some b),a.eval y]).run P w=.ok (.tuple #[]) { w with heap:=w.heap.setIfInBounds b (.map (es.eraseIdxIfInBounds q.1) clock)}:=by
      simp[Builtin.delete_,aJ hu,Result.andThen,cI e3,tv,f1,gQ _ e3]
     have R':=Iq (s':={ s with rows:=s.rows.eraseIdx q.1 }) R hn hM rfl e2 e3 (λrow hr=>hzr row ((uj _ _).subset hr)) (ET (s':={ s with rows:=s.rows.eraseIdx q.1 }) e4 (aj.1 g2).1 rfl rfl);exact⟨_,p,.inl ⟨.tuple #[],by simp[execOp,ho,resolve,invoke,builtin,e1,gT],R'.BX (.ia rfl λi a v ha _=>by simp at ha) h⟩⟩
theorem Km (R:Rel K st a w p) {o:Oper} {x:Operand} {t kt et:TypeId} {n:Nat} {b:Nat} {es:Array MapEntry} {clock:Nat} (ho:o.op=.call { callee:=.builtin .len,args:=#[x],argTypes:=#[t]}) (hu:P.underlying t=some (.map kt et)) (e1:a.eval x=.map (some b)) (e3:w.heap[b]? =some (.map es clock)) (e4:es.size=n)
  {cM:St} (h:Es st o.dst (.d (.int .i64 n))=some cM):Stepped P K cM o a w:=by
 have gT:(Builtin.len_ #[t] o.type #[.map (some b)]).run P w=.ok (goInt es.size) w:=by
  simp[Builtin.len_,aJ hu,Result.andThen,cI e3]
 refine⟨w,p,.inl ⟨goInt es.size,by simp[execOp,ho,resolve,invoke,builtin,e1,gT],R.BX ?_ h⟩⟩;rw[e4];exact .d .int
theorem MF (R:Rel K st a w p) {o:Oper} {x:Operand} {t:TypeId} (ho:o.op=.call { callee:=.builtin .len,args:=#[x],argTypes:=#[t]}) {cM:St} {n:Int} (hl:VB P st t (ca st x)=some n) (h:Es st o.dst (.d (.int .i64 n))=some cM):Stepped P K cM o a w:=by
 unfold VB at hl;split at hl
 case h_3=>cases hl
 ·rename_i kt et m hu hx
  cases hn:get st.vec m with
  |none=>simp[hn] at hl
  |some s=>
   simp only[hn,aa] at hl;split at hl
   case isFalse=>cases hl
   rename_i hM;obtain⟨b,es,clock,e1,e2,e3,e4⟩:=DJ R hx hn hM;cases hl;exact Km R ho hu e1 e3 e4.size h
 ·rename_i kt et e z rows hu hx
  cases hl;have h1:=R.ca x;rw[hx] at h1;generalize hv:a.eval x=u at h1;cases h1 with
  |d h1=>
   obtain⟨b,es,clock,rfl,e3,_,_,e4⟩:=h1.zR;exact Km R ho hu hv e3 e4.size h
theorem Se (t kz:Nat) (ka va:Bool) (z:Nat) (rows:List (List D)):VS.rC ⟨bL t kz ka va,z,rows⟩=true:=by
 unfold VS.rC bL;exact fD (Nat.le_add_right _ _)
theorem Sb (R:Rel K st a w p) {o:Oper} {t:TypeId} {r:Option Operand} (ho:o.op=.makeMap t r) {d:Nat} (hd:o.dst=some d) {cM:St} (h:Vx P st d t (r.map (ca st))=some cM):Stepped P K cM o a w:=by
 unfold Vx at h;split at h
 case h_2=>cases h
 rename_i kt et hu;cases hk:fh P kt with
 |none=>simp[hk] at h
 |some kz=>
  cases hv:fh P et with
  |none=>simp[hk,hv] at h
  |some vz=>
   simp only[hk,hv,aa] at h;split at h
   case isFalse=>cases h
   rename_i hh;obtain⟨h1,nW,h3⟩:=hh;cases zx:get st.vec d with
   |some _=>simp[zx] at h
   |none=>
    simp only[zx,ba] at h;subst h;have gT:(Instr.makeMap t (r.map a.eval)).run P w=.ok (.map (some w.heap.size)) (w.alloc (.map #[] 0)):=by
     cases r with
     |none=>rfl
     |some x=>
      simp only[cr] at h3 ⊢;have h3:(pA (ca st x)).isSome=true:=h3;obtain⟨n,hn⟩:=aY.1 h3;obtain⟨kk,e⟩:=pL hn (R.ca x);rw[e];simp[Instr.makeMap,aJ hu,Result.andThen,newObj,asInt]
      rfl
    have Jn:=MapKept.heap_alloc w (.map #[] 0);have hgr:w.grownBy (w.alloc (.map #[] 0)) none:=⟨rfl,rfl,rfl,(by show w.heap.size≤(w.heap.push _).size;rw[Array.size_push];exact Nat.le_succ _),λk hk _=>Jn.2 k hk⟩;have R':=R.NU (d:=d) (v':=.map (some w.heap.size)) (w':=w.alloc (.map #[] 0)) (s:=⟨bL t kz (gO P kt) (gO P et),kz+vz,[]⟩) zx hgr (aM 0)
     (λnf _ _=>.ofM (Se _ _ _ _ _ _) ⟨_,#[],0,rfl,Jn.1,⟨rfl,λj row e h1 _=>(by have h1:([]:List (List D))[j]? =some row:=h1;rw[List.getElem?_nil] at h1;cases h1),λe he=>(fE he).elim,dL⟩⟩) (λr hr=>(fE hr).elim) (.inr rfl)
    refine⟨_,_,.inl ⟨_,?_,by rw[hd];exact R'.put (RA.qS (Or.inl rfl) (fO _ _ _)) nW⟩⟩;simp[execOp,ho,gT]
end
end Go.Vl
namespace Go.Vl
open Go Go.RowKit
section
variable {P:Program} {K:Ctx P} {st:St} {a:Act} {w:World} {p:Pl}
theorem zb {t ty e:TypeId} {zs:List AV} (hu:P.underlying t=some (.slice e)) (hz:fZ P e=some zs) (rW:0 < zs.length) (Fh:wV P e=true) (R:Rel K st a w p)
  {v:Value} {xs:List (List D)} {xv:List Value} (eC:w.ownsRow 0 e zs.length v xs.length xv) {y:AV} {ys:List (List D)} (hy:rowsOf st y=some ys) {u:Value} (PC:RA w (dx K w p) p y u) (Jg:∀r∈ys,r.length=zs.length)
  (gS:xs.length+ys.length≤268435456) (N5:∀r∈xs,r.length=zs.length) (Du:∀(j:Nat) (d:D) (v:Value),xs.flatten[j]? =some d→xv[j]? =some v→RD w (dx K w p) d v):
  ∃v' w' Jr,(Builtin.append_ #[t,t] ty #[v,u]).run P w=.ok v' w'∧w'.ownsRow 0 e zs.length v' (xs++ys).length Jr∧w.grownBy w' v.fN∧(v'.fN=v.fN∨v'.fN=some w.heap.size)∧
   ∀(j:Nat) (d:D) (v:Value),(xs++ys).flatten[j]? =some d→Jr[j]? =some v→RD w (dx K w p) d v:=by
 obtain⟨i,zv,hi,hv,hs,Aw,h1⟩:=nk hz;have BF:zs.length=i.size:=by rw[Aw];simp[hs]
 have Xc:fh P e=some i.size:=by simp[fh,hi]
 obtain⟨b,c,rfl,hc⟩:=yM R hy PC;have Fg:i.bytes≤65536:=by simpa[wV,hi] using Fh
 rcases hc with rfl |⟨ad,z',news,rfl,hl,Jf,eY,vj,rD⟩
 ·-- nothing is adq
  have hle:∃b0 c0,v=.slice b0 xs.length c0∧xs.length≤c0:=by
   rcases eC.2 with ⟨h0,h2⟩ |⟨g,cap,cur,h0,_,_,h2,_⟩
   ·exact⟨none,0,by rw[h0,h2],by omega⟩
   ·exact⟨_,_,h0,h2⟩
  obtain⟨b0,c0,rfl,hle⟩:=hle;exact⟨_,w,xv,Da hu Xc b0 b xs.length c0 c hle w,by simpa using eC,sN w _,.inl rfl,by simpa using Du⟩
 ·by_cases YS:ys=[]
  ·subst YS
   have hle:∃b0 c0,v=.slice b0 xs.length c0∧xs.length≤c0:=by
    rcases eC.2 with ⟨h0,h2⟩ |⟨g,cap,cur,h0,_,_,h2,_⟩
    ·exact⟨none,0,by rw[h0,h2],by omega⟩
    ·exact⟨_,_,h0,h2⟩
   obtain⟨b0,c0,rfl,hle⟩:=hle;exact⟨_,w,xv,Da hu Xc b0 (some ad) xs.length c0 c hle w,by simpa using eC,sN w _,.inl rfl,by simpa using Du⟩
  ·obtain⟨r,hr⟩:=gP _ YS
   have Uk:z'=i.size:=(Jf r hr).symm.trans ((Jg r hr).trans BF);subst Uk;rw[BF] at eC;have hb:(xs.length+ys.length) * i.bytes≤268435456 * 65536:=Nat.mul_le_mul gS Fg;obtain⟨v',w',gT,nS,hg,_,sJ⟩:=run_append_own_at (P:=P) w 0 t ty e i zv i.size i.bytes hu hi hv rfl rfl hs (by omega) v xs.length xv eC ad ys.length c news hl eY vj (by simp only[maxLen];omega) (by omega) (cE _);refine⟨v',w',xv++news,gT,by rw[BF,bF];exact nS,by rw[AS eC];exact hg,by rw[AS eC,AS nS];exact sJ,λj d u hd E8=>?_⟩;have Zg:xs.flatten.length=xs.length * i.size:=by rw[← BF];exact ir N5
   have abP:xv.length=xs.length * i.size:=eC.1;rw[kC,cX] at hd;rw[cX] at E8;split at hd
   ·rw[ai (by omega)] at E8;exact Du j d u hd E8
   ·rw[ah (by omega)] at E8;exact rD _ d u hd (by rw[Zg,←abP];exact E8)
theorem TY {t ty e:TypeId} {zs:List AV} (hu:P.underlying t=some (.slice e)) (hz:fZ P e=some zs) (rW:0 < zs.length) (Fh:wV P e=true) (R:Rel K st a w p)
  {v:Value} {xs:List (List D)} (hx:RA w (dx K w p) p (.full xs) v) {y:AV} {ys:List (List D)} (hy:rowsOf st y=some ys) {u:Value} (PC:RA w (dx K w p) p y u) (Jg:∀r∈ys,r.length=zs.length)
  (gS:xs.length+ys.length≤268435456) (N5:∀r∈xs,r.length=zs.length) (hm:0 < ys.length):
  ∃v' w' Jr,(Builtin.append_ #[t,t] ty #[v,u]).run P w=.ok v' w'∧w'.ownsRow 0 e zs.length v' (xs++ys).length Jr∧w.grownBy w' none∧(v'.fN=none∨v'.fN=some w.heap.size)∧
   ∀(j:Nat) (d:D) (v:Value),(xs++ys).flatten[j]? =some d→Jr[j]? =some v→RD w (dx K w p) d v:=by
 cases hx with |full hd=>
 rename_i b0;by_cases Jl:b0=none
 ·subst Jl
  have hx0:xs=[]:=by cases hd;rfl
  subst hx0;obtain⟨v',w',Jr,h1,h2,h3,h4,h5⟩:=zb (ty:=ty) hu hz rW Fh R (v:=.slice none 0 0) (xs:=[]) (xv:=[]) (mT w _ _ _) hy PC Jg gS N5 (λj d v h=>by simp at h);exact⟨v',w',Jr,h1,h2,h3,h4,h5⟩
 ·obtain⟨bb,rfl⟩:=Option.ne_none_iff_exists'.1 Jl
  obtain⟨i,zv,hi,hv,hs,Aw,h1⟩:=nk hz;have BF:zs.length=i.size:=by rw[Aw];simp[hs]
  obtain⟨b,c,rfl,hc⟩:=yM R hy PC;have Fg:i.bytes≤65536:=by simpa[wV,hi] using Fh
  rcases hc with rfl |⟨ad,z',news,rfl,hl,Jf,eY,vj,rD⟩
  ·simp at hm
  ·have YS:ys≠[]:=λe=>by subst e;simp at hm
   obtain⟨r,hr⟩:=gP _ YS;have Uk:z'=i.size:=(Jf r hr).symm.trans ((Jg r hr).trans BF);subst Uk;have hb:(xs.length+ys.length) * i.bytes≤268435456 * 65536:=Nat.mul_le_mul gS Fg
   -- WI old cells
   have holds:∃olds:List Value,olds.length=xs.length * i.size∧(∀(j:Nat) (u:Value),olds[j]? =some u→w.cell? (bb.add j)=some u)∧∀(j:Nat) (d:D) (u:Value),xs.flatten[j]? =some d→olds[j]? =some u→RD w (dx K w p) d u:=by
    obtain⟨b',c',he,wP⟩:=yM R (x:=.d (.slice xs)) (rows:=xs) rfl (.d hd);injection he with iq xt Uw
    subst iq;rcases wP with rfl |⟨ad',z'',olds,h1,h2,h3,h4,_,h5⟩
    ·exact⟨[],by simp,λj u hj=>by simp at hj,λj d u hj=>by simp at hj⟩
    ·cases h1
     by_cases hx0:xs=[]
     ·subst hx0;exact⟨[],by simp,λj u hj=>by simp at hj,λj d u hj=>by simp at hj⟩
     ·obtain⟨r',LH⟩:=gP _ hx0
      have:z''=i.size:=(h3 r' LH).symm.trans ((N5 r' LH).trans BF);subst this;exact⟨olds,h2,h4,h5⟩
   obtain⟨olds,Uq,FW,Y5⟩:=holds;have gT:=run_append_grow (P:=P) w t ty e i zv hu hi hv bb xs.length xs.length olds Uq FW ad ys.length c news hl eY (by omega) (by omega) (growslice_fits (by omega) (by omega));have Of:=grownCap_ge w (xs.length+ys.length) xs.length e;have hcm:grownCap w (xs.length+ys.length) xs.length e≤maxLen:=grownCap_le_maxLen w _ _ e (by simp only[maxLen];omega);have hlen:(olds++news).length=(xs.length+ys.length) * i.size:=by rw[bF,Uq,hl,dQ]
   refine⟨_,_,olds++news,gT,?_,⟨rfl,rfl,rfl,by simp,λk hk _=>Below.heap_alloc w.drew _ k hk⟩,.inr rfl,λj d u Jk E8=>?_⟩
   ·rw[BF,bF]
    refine⟨hlen,.inr ⟨w.heap.size,_,_,rfl,cE _,gE w.drew _,Of,hcm,?_,?_⟩⟩
    ·simp only[Array.size_append,mD,size_zeroCells,hs,Uq,hl,←dQ]
     congr 1
     omega
    ·simp only[kD,eX]
     rw[← eX,←hlen];exact List.take_left
   ·have Zg:xs.flatten.length=xs.length * i.size:=by rw[← BF];exact ir N5
    rw[kC,cX] at Jk;rw[cX] at E8;split at Jk
    ·rw[ai (by omega)] at E8;exact Y5 j d u Jk E8
    ·rw[ah (by omega)] at E8;exact rD _ d u Jk (by rw[Zg,←Uq];exact E8)
theorem Qj (R:Rel K st a w p) {o:Oper} {x y:Operand} {t t':TypeId} (ho:o.op=.call { callee:=.builtin .append,args:=#[x,y],argTypes:=#[t,t']}) {d:Nat} (hd:o.dst=some d) {cM:St}
  (h:zl P st d t t' (ca st x) (ca st y)=some cM):Stepped P K cM o a w:=by
 unfold zl at h;split at h
 case isFalse=>cases h
 rename_i hh;obtain⟨rfl,nW⟩:=hh;split at h
 case h_2=>cases h
 rename_i e hu;cases hz:fZ P e with
 |none=>simp[hz] at h
 |some zs=>
  simp only[hz,aa] at h;cases hy:rowsOf st (ca st y) with
  |none=>simp[hy] at h
  |some ys=>
   simp only[hy,aa] at h;split at h
   case isFalse=>cases h
   rename_i hh;obtain⟨rW,Fh,PQ,Jg⟩:=hh;have PC:=R.ca y;have xn:=R.ca x;have fin:∀{v':Value} {w':World} {p':Pl} {st1:St},(Builtin.append_ #[t,t] o.type #[a.eval x,a.eval y]).run P w=.ok v' w'→Rel K st1 a w' p'→p'.lv d→p'.rw d=v'→st1.nt=st.nt→st1.put d (.vec d)=cM→Stepped P K cM o a w:=by
    intro v' w' p' st1 gT R' h1 h2 h3 h4;refine⟨w',p',.inl ⟨v',?_,by rw[hd,←h4];exact R'.put (RA.qS h1 h2) (by rw[h3];exact nW)⟩⟩;simp[execOp,ho,resolve,invoke,builtin,gT]
   split at h
   ·rename_i hx
    rw[hx] at xn;split at h
    case isFalse=>cases h
    rename_i gS;generalize Jm:a.eval x=ax at *;cases xn with |dK=>
    cases zx:get st.vec d with
    |some _=>simp[zx] at h
    |none=>
     simp only[zx] at h;cases h;obtain⟨v',w',Jr,h1,h2,h3,h4,h5⟩:=zb (ty:=o.type) hu hz rW Fh R (v:=.slice none 0 0) (xs:=[]) (xv:=[]) (mT w _ _ _) hy PC Jg (by simpa using gS) (λr hr=>by simp at hr) (λj d v h=>by simp at h);exact fin h1 (R.B7 (s:=⟨e,zs.length,ys⟩) (pz PQ) zx h3 (cE _) h2 Jg h5 h4) (Or.inl rfl) (fO _ _ _) rfl rfl
   ·rename_i n z' lo k hx
    rw[hx] at xn;split at h
    case isFalse=>cases h
    rename_i hlz;obtain⟨rfl,rfl⟩:=hlz;cases hs:get st.vec n with
    |none=>simp[hs] at h
    |some s=>
     simp only[hs,aa] at h;split at h
     case isFalse=>cases h
     rename_i hh;obtain⟨rfl,vi,MM,gS,Jk⟩:=hh;cases h;have hM:s.rC=false:=pz PQ;obtain⟨sJ,N5,_⟩:=R.vec n s hs;obtain⟨xv,eC,Du⟩:=sJ.row hM;rw[vi] at eC;have abO:∀r∈s.rows.take k,r.length=zs.length:=λr hr=>(N5 r (eT hr)).trans vi
     have hmul:k * zs.length≤s.rows.length * zs.length:=dy _ MM;have abP:xv.length=s.rows.length * zs.length:=eC.1;have Y8:(s.rows.take k).length=k:=by simp;omega
     have dN:p.lv n∧w.ownsRow 0 s.e zs.length (a.eval x) (s.rows.take k).length (xv.take (k * zs.length))∧(a.eval x).fN=(p.rw n).fN:=by
      rw[Y8];generalize a.eval x=ax at xn;cases xn with
      |cut hn hv ho hle=>
       rename_i o' g c len;have Bb:=ho.2 rfl;subst Bb;refine⟨hn,⟨by simp;omega,?_⟩,by rw[hv];rfl⟩;rw[hv] at eC;rcases eC.2 with ⟨h0,_⟩ |⟨g',cap,cur,h0,uP,hg,pO,FX,Uz,Uy⟩
       ·cases h0
       injection h0 with Ae XG V3
       injection Ae with Ae
       injection Ae with Ae
       subst Ae;subst XG;subst V3;refine .inr ⟨g,c,cur,by simp,uP,hg,by omega,FX,Uz,?_⟩;rw[← Uy,List.take_take,oI hmul]
      |oG hn hv=>exact⟨hn,⟨by simp,.inl ⟨rfl,rfl⟩⟩,by rw[hv]⟩
     obtain⟨hn,SM,acU⟩:=dN;obtain⟨v',w',Jr,h1,h2,h3,h4,h5⟩:=zb (ty:=o.type) hu hz rW Fh R SM hy PC Jg (by rw[Y8];exact gS) abO (λj d v hd hv=>by
      rw[vT (λr hr=>(N5 r hr).trans vi),bS] at hd;rw[bS] at hv;split at hd
      ·rename_i hj;rw[ai hj] at hv;exact Du j d v hd hv
      ·cases hd)
     have Tg:get (del st.vec n) d=none:=by
      rw[iG];split
      ·rfl
      ·rename_i e
       rcases Jk with rfl |h0
       ·exact absurd rfl e
       ·simpa using h0
     rw[acU] at h3 h4;have R':=R.L7 (n:=n) (d:=d) (s:={ s with rows:=s.rows.take k++ys }) (pz PQ) Tg h3 (cE _) (.inr ⟨hn,rfl⟩) (by show w'.ownsRow _ s.e s.z v' _ Jr;rw[vi];exact h2)
      (λr hr=>by rcases aQ.1 hr with h |h;exact(abO r h).trans vi.symm;exact(Jg r h).trans vi.symm) h5 (by
       rcases h4 with h4 |h4
       ·exact .inr (.inl ⟨hn,h4⟩)
       ·exact .inr (.inr h4))
     exact fin h1 R' (Or.inl rfl) (fO _ _ _) rfl rfl
   ·rename_i n hx
    rw[hx] at xn;cases hs:get st.vec n with
    |none=>simp[hs] at h
    |some s=>
     simp only[hs,aa] at h;split at h
     case isFalse=>cases h
     rename_i hh;obtain⟨rfl,vi,gS,Jk⟩:=hh;cases h;have hM:s.rC=false:=pz PQ;obtain⟨sJ,N5,_⟩:=R.vec n s hs;obtain⟨xv,eC,Du⟩:=sJ.row hM;generalize Jm:a.eval x=ax at *;cases xn with |vec hn=>
     rw[vi] at eC;obtain⟨v',w',Jr,h1,h2,h3,h4,h5⟩:=zb (ty:=o.type) hu hz rW Fh R eC hy PC Jg gS (λr hr=>by rw[← vi];exact N5 r hr) Du;have Tg:get (del st.vec n) d=none:=by
      rw[iG];split
      ·rfl
      ·rename_i e
       rcases Jk with rfl |h0
       ·exact absurd rfl e
       ·simpa using h0
     have R':=R.L7 (n:=n) (d:=d) (s:={ s with rows:=s.rows++ys }) (pz PQ) Tg h3 (cE _) (.inr ⟨hn,rfl⟩) (by show w'.ownsRow _ s.e s.z v' _ Jr;rw[vi];exact h2)
      (λr hr=>by rcases aQ.1 hr with h |h;exact N5 r h;exact(Jg r h).trans vi.symm) h5 (by
       rcases h4 with h4 |h4
       ·exact .inr (.inl ⟨hn,h4⟩)
       ·exact .inr (.inr h4))
     exact fin h1 R' (Or.inl rfl) (fO _ _ _) rfl rfl
   ·rename_i xs hx
    rw[hx] at xn;split at h
    case isFalse=>cases h
    rename_i hh;obtain⟨gS,hm,N5⟩:=hh;generalize Jm:a.eval x=ax at *;cases zx:get st.vec d with
    |some _=>simp[zx] at h
    |none=>
     simp only[zx] at h;cases h;obtain⟨v',w',Jr,h1,h2,h3,h4,h5⟩:=TY (ty:=o.type) hu hz rW Fh R xn hy PC Jg gS N5 hm;exact fin h1 (R.B7 (s:=⟨e,zs.length,xs++ys⟩) (pz PQ) zx h3 (cE _) h2 (λr hr=>by rcases aQ.1 hr with h |h;exact N5 r h;exact Jg r h) h5 h4) (Or.inl rfl) (fO _ _ _) rfl rfl
   ·cases h
theorem tF (R:Rel K st a w p) {o:Oper} {cM:St} (h:step P st o=some cM):Stepped P K cM o a w:=by
 unfold step at h;split at h
 ·rename_i t ho
  cases hd:o.dst with
  |none=>simp[hd] at h
  |some d=>
   simp only[hd,aa] at h;cases hz:fZ P t with
   |none=>simp[hz] at h
   |some z=>simp only[hz,aa] at h;exact GB R ho hd hz h
 ·rename_i t x ho
  cases hd:o.dst with
  |none=>simp[hd] at h
  |some d=>
   simp only[hd,aa] at h;cases hl:gq (ca st x) with
   |none=>simp[hl] at h
   |some l=>simp only[hl,aa] at h;exact Lu R ho hd hl h
 ·rename_i t n parts ho
  cases hd:o.dst with
  |none=>simp[hd] at h
  |some d=>simp only[hd,aa] at h;exact Bq R ho hd h
 ·rename_i t x y ho
  cases hd:o.dst with
  |none=>simp only[hd] at h;exact JB R ho hd h
  |some d=>simp[hd] at h
 ·rename_i c ho
  obtain⟨callee,⟨args⟩,⟨tys⟩⟩:=c;dsimp only at h;split at h
  ·rename_i x y t t'
   cases hd:o.dst with
   |none=>simp[hd] at h
   |some d=>simp only[hd,aa] at h;exact Qj R ho hd h
  ·exact M6 R ho h
  ·exact P2 R ho h
  ·rename_i x t
   split at h
   ·rename_i n hl;exact MF R ho hl h
   ·exact zF R h
  ·exact zF R h
 ·rename_i t l c ho
  cases hd:o.dst with
  |none=>simp[hd] at h
  |some d=>simp only[hd,aa] at h;exact Ps R ho hd h
 ·rename_i t r ho
  cases hd:o.dst with
  |none=>simp[hd] at h
  |some d=>simp only[hd,aa] at h;exact Sb R ho hd h
 ·rename_i t x k px ho
  exact MD R ho h
 ·rename_i t x k y ho
  cases hd:o.dst with
  |none=>simp only[hd] at h;exact GI R (.inl ho) hd h
  |some d=>simp[hd] at h
 ·rename_i t x k y ho
  cases hd:o.dst with
  |none=>simp only[hd] at h;exact GI R (.inr ho) hd h
  |some d=>simp[hd] at h
 ·exact zF R h
end
end Go.Vl
namespace Go.Vl
open Go Go.RowKit
def pW (ops:Array Oper) (st:St) (o:Oper):Option Bool:=
 match o.guard with
 |none=>some true
 |some (j,want)=>match (ops[j]?).bind (·.dst) with
  |some t=>match st.look t with
   | .d (.bool b)=>some (b==want)
   | .ia []=>some false
   |_=>none
  |none=>none
def runs (P:Program) (ops:Array Oper):List Oper→St→Option St
 |[],st=>some st
 |o::l,st=>match pW ops st o with
  |some true=>(step P st o).bind (runs P ops l)
  |some false=>match o.dst with
   |some d=>if d < st.nt then runs P ops l (st.put d (.ia [])) else none
   |none=>runs P ops l st
  |none=>none
def wZ (P:Program) (ops:Array Oper):List Oper→St→Option St
 |[],st=>some st
 |o::l,st=>match pW ops st o with
  |some true=>(sP P st o).bind (wZ P ops l)
  |some false=>match o.dst with
   |some d=>if d < st.nt then wZ P ops l (st.put d (.ia [])) else none
   |none=>wZ P ops l st
  |none=>none
def FZ {P:Program} (K:Ctx P) (Q:Exit→St→Prop) (e:Exit) (a:Act) (w:World):Prop:=∃st p,Rel K st a w p∧Q e st
def fc (P:Program) (K:Ctx P) (ops:Array Oper) (l:List Oper) (st:St) (Q:Exit→St→Prop):Prop:=∀a w p,Rel K st a w p→wpList P ops (FZ K Q) l a w
def Tr (P:Program) (K:Ctx P) (c:Code) (st:St) (Q:Exit→St→Prop):Prop:=∀a w p,Rel K st a w p→c.wp P (FZ K Q) a w
section
variable {P:Program} {K:Ctx P} {st:St} {a:Act} {w:World} {p:Pl} {ops:Array Oper} {Q:Exit→St→Prop}
theorem fH (R:Rel K st a w p) {o:Oper} {b:Bool} (h:pW ops st o=some b):Region.wanted o (yielded ops a.tmps)=b:=by
 unfold pW at h;unfold Region.wanted;split at h
 ·rename_i hg;simp only[hg];simpa using h
 ·rename_i j want hg
  simp only[hg];split at h
  ·rename_i t ht
   split at h
   ·rename_i b' hl
    cases h;have:=R.ca (.tmp t);simp only[Vl.ca,hl,Act.eval] at this;have hv:a.tmps[t]? =some (.bool b'):=by
     cases hq:a.tmps[t]? with
     |none=>
      simp only[gh,hq,ni] at this;cases this with |d hd=>cases hd
     |some v=>
      simp only[gh,hq,cg] at this;cases this with |d hd=>cases hd with |bool=>rfl
    simp only[yielded,ht,aa,hv];cases b' <;> cases want <;> rfl
   ·rename_i hl
    cases h;have:=R.ca (.tmp t);simp only[Vl.ca,hl,Act.eval] at this;have hv:yielded ops a.tmps j=none:=by
     simp only[yielded,ht,aa];cases hq:a.tmps[t]? with
     |none=>rfl
     |some v=>
      simp only[gh,hq,cg] at this;cases this;rfl
    rw[hv];rfl
   ·cases h
  ·cases h
theorem JI (R:Rel K st a w p) {o:Oper} {l:List Oper} {cM:St} {f:List Oper→St→Option St} (h:(match o.dst with |some d=>if d < st.nt then f l (st.put d (.ia [])) else none |none=>f l st)=some cM):
  ∃st1,Rel K st1 (a.put o.dst undef) w p∧f l st1=some cM:=by
 cases hd:o.dst with
 |none=>simp only[hd] at h;exact⟨st,by simpa[Act.put] using R,h⟩
 |some d=>
  simp only[hd] at h;split at h
  ·exact⟨_,R.put (RA.ia (l:=[]) (cs:=#[]) rfl (λi a v ha=>by simp at ha)) ‹_›,h⟩
  ·cases h
theorem ar (h:Q .normal st):fc P K ops [] st Q:=λ_ _ p R=>⟨st,p,R,h⟩
theorem vC {l:List Oper} (k:Nat):∀{st st1:St},runs P ops (l.take k) st=some st1→fc P K ops (l.drop k) st1 Q→fc P K ops l st Q:=by
 induction k generalizing l with
 |zero=>intro st st1 h H;simp[runs] at h;subst h;simpa using H
 |succ k ih=>
  intro st st1 h H;cases l with
  |nil=>simp[runs] at h;subst h;simpa using H
  |cons o l=>
   simp only[List.take_succ_cons,runs,List.drop_succ_cons] at h H;intro a w p R;unfold wpList;cases hg:pW ops st o with
   |none=>simp[hg] at h
   |some b=>
    rw[fH R hg];simp only[hg] at h;cases b with
    |true=>
     simp only at h;cases hs:step P st o with
     |none=>simp[hs] at h
     |some st2=>
      simp only[hs,aa] at h;rw[ai rfl];refine .inl ?_;obtain⟨w',p',⟨v,hr,R'⟩ |⟨hr,R'⟩⟩:=tF R hs
      ·unfold Oper.wp;rw[hr];exact ih h H _ _ _ R'
      ·unfold Oper.wp;rw[hr];exact ih h H _ _ _ R'
    |false=>
     simp only[bz,cS];obtain⟨st2,R2,h2⟩:=JI (f:=runs P ops) R h;exact ih h2 H _ _ _ R2
theorem uD:∀{l:List Oper} {st st1:St} {a:Act},Rel K st a w p→wZ P ops l st=some st1→wpStill P ops w (λa'=>Rel K st1 a' w p) l a
 |[],st,st1,a,R,h=>by simp[wZ] at h;subst h;exact R
 |o::l,st,st1,a,R,h=>by
  simp only[wZ] at h;unfold wpStill;cases hg:pW ops st o with
  |none=>simp[hg] at h
  |some b=>
   rw[fH R hg];simp only[hg] at h;cases b with
   |true=>
    simp only at h;cases hs:sP P st o with
    |none=>simp[hs] at h
    |some st2=>
     simp only[hs,aa] at h;rw[ai rfl];unfold sP at hs;cases hv:gI P st o with
     |none=>simp[hv] at hs
     |some x=>
      simp only[hv,aa] at hs;obtain⟨v,h1,h2⟩:=rI R hv;unfold Oper.still;rw[h1];exact⟨rfl,uD (R.BX h2 hs) h⟩
   |false=>
    simp only[bz,cS];obtain⟨st2,R2,h2⟩:=JI (f:=wZ P ops) R h;exact uD R2 h2
theorem yK {id:Nat} {l:List Oper} (h:fc P K l.toArray l st Q):Tr P K (.region id l.toArray false) st Q:=λa w p R=>eW (h a w p R)
theorem Jy {id:Nat} {l:List Oper} {st1:St} (hm:P.follows .mixedOrders=true) (hB:Region.lexB .any l.toArray=true) (h:wZ P l.toArray l st=some st1) (hq:Q .normal st1):Tr P K (.region id l.toArray true) st Q:=by
 intro a w p R;refine wp_region_still_lit hm hB ?_;refine sO ?_ _ _ (uD R.drew h);exact λa' R'=>⟨st1,p,R',hq⟩
where
 sO {ops:Array Oper} {w:World} {Q Q':Act→Prop} (h:∀a,Q a→Q' a):∀(l:List Oper) (a:Act),wpStill P ops w Q l a→wpStill P ops w Q' l a
  |[],a,hh=>h a hh
  |o::l,a,hh=>by
   unfold wpStill at hh ⊢;split
   ·rename_i hw;rw[ai hw] at hh;exact Oper.still_mono (λa=>sO h l a) hh
   ·rename_i hw;rw[ah hw] at hh;exact sO h l _ hh
theorem UY {id:Nat} {l:List Oper} {st1:St} (n:Nat) (hm:P.follows .mixedOrders=true) (hB:Region.lexTailB .any l.toArray n=true) (h:wZ P l.toArray (l.take n) st=some st1) (hq:fc P K l.toArray (l.drop n) st1 Q):
  Tr P K (.region id l.toArray true) st Q:=by
 intro a w p R;refine wp_region_still_tail n hm hB ?_;exact Jy.sO (P:=P) (λa' R'=>hq a' _ p R') _ _ (uD R.drew h)
def sF (H:St→Prop) (Q:Exit→St→Prop):Exit→St→Prop
 | .normal,s=>H s
 |e,s=>Q e s
def yz (id:Nat) (Q:Exit→St→Prop):Exit→St→Prop
 | .exit Uj,s=>if Uj=id then Q .normal s else Q (.exit Uj) s
 |e,s=>Q e s
theorem Nx {c:Code} {Q':Exit→St→Prop} (h:Tr P K c st Q) (hq:∀e s,Q e s→Q' e s):Tr P K c st Q':=λa w p R=>hU (h a w p R) λe a w ⟨s,p,R,q⟩=>⟨s,p,R,hq e s q⟩
theorem aF {x y:Code} (h:Tr P K x st (sF (λs=>Tr P K y s Q) Q)):Tr P K (.seq x y) st Q:=λa w p R=>
 eU (hU (h a w p R) λe a' w' ⟨s,p',R',q⟩=>by
  cases e with
  |normal=>exact q a' w' p' R'
  |_=>exact⟨s,p',R',q⟩)
theorem aN (h:Q .normal st):Tr P K .skip st Q:=λ_ _ p R=>oJ ⟨st,p,R,h⟩
theorem fo (h:Q .ret st):Tr P K .ret st Q:=λ_ _ p R=>wp_ret ⟨st,p,R,h⟩
theorem fM (h:Q .ret st:=by exact ⟨[],by simp,rfl,by simp⟩):Tr P K .ret st Q:=fo h
theorem bZ {id:Nat} (h:Q (.exit id) st):Tr P K (.exit id) st Q:=λ_ _ p R=>qQ ⟨st,p,R,h⟩
theorem aO {id:Nat} {c:Code} (h:Tr P K c st (yz id Q)):Tr P K (.block id c) st Q:=λa w p R=>
 gn (hU (h a w p R) λe a' w' ⟨s,p',R',q⟩=>by
  cases e with
  |exit Uj=>
   unfold yz at q;unfold Exit.inBlock;by_cases e:Uj=id
   ·simp only[e,eM] at q ⊢;exact⟨s,p',R',q⟩
   ·simp only[e,cS] at q ⊢;exact⟨s,p',R',q⟩
  |_=>exact⟨s,p',R',q⟩)
theorem cF {c:Operand} {x y:Code} {b:Bool} (hc:ca st c=.d (.bool b)) (ht:b=true→Tr P K x st Q) (hf:b=false→Tr P K y st Q):Tr P K (.cond c x y) st Q:=λa w p R=>by
 have:=R.ca c;rw[hc] at this;generalize hv:a.eval c=v at this;cases this with |d hd=>cases hd with |bool=>
 exact dz hv (λh=>ht h a w p R) (λh=>hf h a w p R)
theorem gJ {c:Operand} {x y:Code} (b:Bool) (ht:b=true→Tr P K x st Q) (hf:b=false→Tr P K y st Q) (hc:ca st c=.d (.bool b):=by simp):Tr P K (.cond c x y) st Q:=cF hc ht hf
theorem H3 {c:Code} {st1:St} (W:lZ st st1) (h:Tr P K c st1 Q):Tr P K c st Q:=λa w _ R=>h a w _ (R.qR W)
theorem X3 {c:Code} (n:Nat) (h:Tr P K c (st.sY n) Q):Tr P K c st Q:=λa w _ R=>by obtain⟨p',R',_⟩:=R.sY n;exact h a w p' R'
theorem tD {l:List Oper} (n:Nat) (h:fc P K ops l (st.sY n) Q):fc P K ops l st Q:=λa w _ R=>by obtain⟨p',R',_⟩:=R.sY n;exact h a w p' R'
theorem Rel.own (R:Rel K st a w p) {t n:Nat} (ht:st.look t=.dK) (hn:get st.vec n=none) (e:TypeId) (z:Nat) (he:e < 1000000:=by decide):∃p',Rel K ({ st with vec:=(n,⟨e,z,[]⟩)::st.vec }.put t (.vec n)) a w p':=by
 have hx:=R.ca (.tmp t);simp only[Vl.ca,ht,Act.eval] at hx;have iN:t < st.nt:=by
  rw[← R.nt];rcases iU t a.tmps.size with h |h
  ·exact h
  ·simp only[gh,tj h,ni] at hx
   cases hx
 have R':=R.B7 (d:=n) (w':=w) (v':=.slice none 0 0) (s:=⟨e,z,[]⟩) (xs:=[]) (pz he) hn (sN w _) (aM _) (mT w _ _ _) (λr hr=>by simp at hr) (λj x v h=>by simp at h) (.inl rfl);have hv:a.tmps.getD t undef=.slice none 0 0:=by
  generalize a.tmps.getD t undef=v at hx;cases hx;rfl
 have hp:a.put (some t) (.slice none 0 0)=a:=by
  have hs:t < a.tmps.size:=by rw[R.nt];exact iN
  cases a with
  |mk tmps defers=>
   simp only[Act.put,Act.mk.injEq,kB];apply sw
   ·simp
   ·intro i h1 h2
    rw[Array.getElem_setIfInBounds];split
    ·rename_i e;subst e
     simp only[gh,bp h2,cg] at hv;exact hv.symm
    ·rfl
 have R2:=R'.put (d:=t) (RA.qS (n:=n) (Or.inl rfl) (fO _ _ _)) iN;rw[hp] at R2;exact⟨_,R2⟩
end
end Go.Vl
namespace Go.Vl
open Go Go.RowKit
def dM (io:List Nat) (iv:List Value):Pl:=⟨λn=>(io[n - 1000000]?).getD 0,λn=>(iv[n - 2000000]?).getD undef,λn=>1000000≤n∧n - 1000000 < io.length,λn=>2000000≤n∧n - 2000000 < iv.length⟩
theorem E4 {io:List Nat} {iv:List Value} {i:Nat}:(dM io iv).lb (sq i)↔i < io.length:=by simp[dM,sq]
theorem E5 {io:List Nat} {iv:List Value} {i b:Nat} (h:io[i]? =some b):(dM io iv).bx (sq i)=b:=by simp[dM,sq,h]
theorem Kx {io:List Nat} {iv:List Value} {i:Nat}:(dM io iv).lv (wa i)↔i < iv.length:=by simp[dM,wa]
theorem Kw {io:List Nat} {iv:List Value} {i:Nat} {v:Value} (h:iv[i]? =some v):(dM io iv).rw (wa i)=v:=by simp[dM,wa,h]
structure adu (w:World) (ok:Nat→Prop) (io:List Nat) (iv:List Value) (b:Nat) (cs:List AV):Prop where
 at_:∃(vs:Array Value) (ty:TypeId),w.heap[b]? =some (.cells vs ty (0,0))∧vs.size=cs.length∧
  (∀(i:Nat) (c:AV) (v:Value),cs[i]? =some c→vs[i]? =some v→RA w ok (dM io iv) c v)∧∀(i:Nat) (v:Value),vs[i]? =some v→v.oneCell'=true
structure adr (w:World) (ok:Nat→Prop) (v:Value) (s:VS):Prop where
 at_:qK w ok s v
 hz:∀r∈s.rows,r.length=s.z
structure qP (w:World) (ok:Nat→Prop) (io:List Nat) (iv:List Value) (bx:List (List AV)) (vx:List VS):Prop where
 len:io.length=bx.length
 nodup:io.Nodup
 px:∀b,ok b→b < w.heap.size∧b∉io∧∀v∈iv,v.fN≠some b
 at_:∀(i b:Nat) (cs:List AV),io[i]? =some b→bx[i]? =some cs→adu w ok io iv b cs
 xj:iv.length=vx.length
 X1:∀(i:Nat) (v:Value) (s:VS),iv[i]? =some v→vx[i]? =some s→adr w ok v s
 OR:∀(i j:Nat) (v u:Value),iv[i]? =some v→iv[j]? =some u→i≠j→v.fN=none∨v.fN≠u.fN
 WE:∀v∈iv,∀b∈io,v.fN≠some b
structure T7 (io:List Nat) (iv:List Value) (w w':World):Prop where
 size:w.heap.size≤w'.heap.size
 os:w'.os=w.os
 tape:w'.tape=w.tape
 dr:vV w≤vV w'
 output:w'.output=w.output
 block:∀b,b < w.heap.size→b∉io→(∀v∈iv,v.fN≠some b)→w'.heap[b]? =w.heap[b]?
def Av (ok:Nat→Prop) (iv iv':List Value) (w w':World) (b:Nat):Prop:=(ok b∨w.heap.size≤b∨∃v∈iv,v.fN=some b)∧b < w'.heap.size∧∀u∈iv',u.fN≠some b
def nV (P:Program) (f:FuncId) (bx:List (List AV)) (vx:List VS) (args:List AV) (res:AV) (bx':List (List AV)) (vx':List VS):Prop:=
 ∀(w:World) (ok:Nat→Prop) (io:List Nat) (iv:List Value) (vs:Array Value),qP w ok io iv bx vx→vs.size=args.length→(∀(i:Nat) (x:AV) (v:Value),args[i]? =some x→vs[i]? =some v→RA w ok (dM io iv) x v)→mB P w ok→
  Calls P f vs w λe w'=>∃v iv',e=.returned v∧RA w' (Av ok iv iv' w w') (dM io iv') res v∧qP w' (Av ok iv iv' w w') io iv' bx' vx'∧(∀u∈iv',∀g,u.fN=some g→w.heap.size≤g∨∃v∈iv,v.fN=some g)∧T7 io iv w w'
def dY (P:Program) (f:FuncId) (bx:List (List AV)) (args:List AV) (res:AV) (bx':List (List AV)):Prop:=nV P f bx [] args res bx' []
mutual
def AV.fin:AV→AV
 | .dK=>.d (.slice [])
 | .full rows=>.d (.slice rows)
 | .agg l=>.agg (AV.Cp l)
 | .ia l=>.ia (AV.Cp l)
 |x=>x
def AV.Cp:List AV→List AV
 |[]=>[]
 |x::l=>AV.fin x::AV.Cp l
end
theorem rE:∀l:List AV,AV.Cp l=l.map AV.fin
 |[]=>rfl
 |x::l=>by simp[AV.Cp,rE l]
theorem RA.fin {w:World} {ok:Nat→Prop} {p:Pl} {x:AV} {v:Value} (h:RA w ok p x v):RA w ok p x.fin v:=by
 induction h with
 |undef=>simp only[AV.fin];exact .undef
 |d h=>simp only[AV.fin];exact .d h
 |dK=>simp only[AV.fin];exact .d .pQ
 |full h=>simp only[AV.fin];exact .d h
 |agg hl _ h1 ih=>
  simp only[AV.fin,rE];refine .agg (by simpa using hl) (λi a v ha lE=>?_) h1;simp only[aA,aP] at ha;obtain⟨q,hq,rfl⟩:=ha;exact ih i q v hq lE
 |ia hl _ ih=>
  simp only[AV.fin,rE];refine .ia (by simpa using hl) (λi a v ha lE=>?_);simp only[aA,aP] at ha;obtain⟨q,hq,rfl⟩:=ha;exact ih i q v hq lE
 |ptr hm=>simp only[AV.fin];exact .ptr hm
 |cN vs h1 h2 h3=>simp only[AV.fin];exact .cN vs h1 h2 h3
 |vec hm=>simp only[AV.fin];exact .vec hm
 |iR h1 h2=>simp only[AV.fin];exact .iR h1 h2
 |cut h1 h2 h3 h4=>simp only[AV.fin];exact .cut h1 h2 h3 h4
 |oG h1 h2=>simp only[AV.fin];exact .oG h1 h2
 |pR=>simp only[AV.fin];exact .pR
 |iter=>simp only[AV.fin];exact .iter
 |fn hl h=>simp only[AV.fin];exact .fn hl h
def O7 (P:Program) (st:St):ResultVar→Option AV
 | .tmp t=>some (st.look t)
 | .cell a t=>sH P st t (st.look a)
def uG (P:Program) (st:St):List ResultVar→Option (List AV)
 |[]=>some []
 |r::l=>(O7 P st r).bind λx=>(uG P st l).map λxs=>x::xs
def CP:List AV→AV
 |[x]=>x
 |l=>.ia l
def DL (n:Nat):Bool:=decide (1000000≤n)
def xu (st:St):List Nat→St
 |[]=>st
 |n::l=>xu (st.sY n) l
def Bv (st:St):Nat→List (List AV)→Prop
 |_,[]=>True
 |i,cs::l=>(∃rF,get st.box (sq i)=some rF∧AV.Cp rF=cs∧AV.we DL (λ_=>false) cs=true)∧Bv st (i+1) l
def idxOf (σ:List Nat) (n:Nat):Option Nat:=
 match σ with
 |[]=>none
 |m::l=>if m=n then some 0 else(idxOf l n).map (·+1)
theorem rb:∀{σ:List Nat} {n i:Nat},idxOf σ n=some i→σ[i]? =some n
 |[],_,_,h=>by simp[idxOf] at h
 |m::l,n,i,h=>by
  simp only[idxOf] at h;split at h
  ·cases h;subst_vars;rfl
  ·cases hq:idxOf l n with
   |none=>simp[hq] at h
   |some j=>simp[hq] at h;subst h;simpa using rb hq
theorem zV:∀{σ:List Nat} {n:Nat},idxOf σ n=none↔n∉σ
 |[],n=>by simp[idxOf]
 |m::l,n=>by
  simp only[idxOf];by_cases h:m=n
  ·simp[h]
  ·rw[ah h,Option.map_eq_none_iff,zV];simp[eN h]
theorem Kz {σ:List Nat} (h:σ.Nodup) {n i:Nat} (hi:σ[i]? =some n):idxOf σ n=some i:=by
 cases hq:idxOf σ n with
 |none=>exact absurd (bm hi) (zV.1 hq)
 |some j=>
  have hj:=rb hq;have ph:=(aj.1 hi).1;rw[(pn ph h).1 (hi.trans hj.symm)]
mutual
def AV.oO (τ:List Nat):AV→AV
 | .vec n=>match idxOf τ n with |some i=>.vec (wa i) |none=>.undef
 | .iR _ _ _ _=>.undef
 | .cut _ _ _ _=>.undef
 | .agg l=>.agg (AV.tN τ l)
 | .ia l=>.ia (AV.tN τ l)
 | .fn f l=>.fn f (AV.tN τ l)
 |x=>x
def AV.tN (τ:List Nat):List AV→List AV
 |[]=>[]
 |x::l=>AV.oO τ x::AV.tN τ l
end
theorem nL (τ:List Nat):∀l:List AV,AV.tN τ l=l.map (AV.oO τ)
 |[]=>rfl
 |x::l=>by simp[AV.tN,nL τ l]
def tx (st:St) (τ:List Nat):Nat→List (List AV)→Prop
 |_,[]=>True
 |i,cs::l=>(∃rF,get st.box (sq i)=some rF∧AV.tN τ (AV.Cp rF)=cs∧AV.we DL (λ_=>true) cs=true)∧tx st τ (i+1) l
def sQ (st:St):List Nat→List VS→Prop
 |[],[]=>True
 |n::τ,s::vx=>get st.vec n=some s∧sQ st τ vx
 |_,_=>False
def Fin (P:Program) (rs:List ResultVar) (res:AV) (bx':List (List AV)) (st:St):Prop:=
 ∃ns,(uG P (xu st ns) rs).map (λl=>(CP l).fin)=some res∧res.wf DL (λ_=>false)=true∧Bv (xu st ns) 0 bx'
def Ua (P:Program) (rs:List ResultVar) (res:AV) (bx':List (List AV)) (vx':List VS) (st:St):Prop:=
 ∃ns τ,(uG P (xu st ns) rs).map (λl=>(CP l).fin.oO τ)=some res∧res.wf DL (λ_=>true)=true∧tx (xu st ns) τ 0 bx'∧sQ (xu st ns) τ vx'∧τ.Nodup
def OJ (P:Program) (rs:List ResultVar) (res:AV) (bx':List (List AV)) (vx':List VS):Exit→St→Prop
 | .normal,st=>Ua P rs res bx' vx' st
 | .ret,st=>Ua P rs res bx' vx' st
 |_,_=>False
def Ub (P:Program) (rs:List ResultVar) (res:AV) (bx':List (List AV)):Exit→St→Prop
 | .normal,st=>Fin P rs res bx' st
 | .ret,st=>Fin P rs res bx' st
 |_,_=>False
def kS {α:Type}:Nat→List α→List (Nat×α)
 |_,[]=>[]
 |i,x::l=>(i,x)::kS (i+1) l
theorem gb {α:Type}:∀(l:List α) (i t:Nat),get (kS i l) t=if i≤t then l[t - i]? else none
 |[],i,t=>by simp[kS,get]
 |x::l,i,t=>by
  simp only[kS,get,gb l (i+1) t];by_cases h1:i=t
  ·subst h1;simp
  ·rw[ah h1]
   by_cases h2:i≤t
   ·rw[ai h2,ai (by omega),show t - i=(t - (i+1))+1 by omega];simp
   ·rw[ah h2,ah (by omega)]
def I0 (nt:Nat) (args:List AV) (bx:List (List AV)):St:={ nt:=nt,env:=kS 0 args,box:=kS 1000000 bx,vec:=[]}
def gk (nt:Nat) (args:List AV) (bx:List (List AV)) (vx:List VS):St:={ nt:=nt,env:=kS 0 args,box:=kS 1000000 bx,vec:=kS 2000000 vx }
section
variable {P:Program} {K:Ctx P} {st:St} {a:Act} {w:World} {p:Pl}
theorem Rel.xu (ns:List Nat):∀{st:St} {p:Pl},Rel K st a w p→∃p',Rel K (xu st ns) a w p':=by
 induction ns with
 |nil=>exact λR=>⟨_,R⟩
 |cons n l ih=>intro st p R;obtain⟨p',R',_⟩:=R.sY n;exact ih R'
def U7 (tmps:Array Value):ResultVar→Sem Value
 | .tmp t=>pure (tmps.getD t undef)
 | .cell q t=>do loadVar t (← asAddr (tmps.getD q undef))
theorem Mj (R:Rel K st a w p) {r:ResultVar} {x:AV} (hr:O7 P st r=some x):∃v,(U7 a.tmps r).run P w=.ok v w∧RA w (dx K w p) p x v:=by
 cases r with
 |tmp t=>simp[O7] at hr;subst hr;exact⟨_,rfl,R.ca (.tmp t)⟩
 |cell q t=>
  simp only[O7] at hr;have hq:=R.ca (.tmp q);simp only[Vl.ca,Act.eval] at hq;generalize hu:a.tmps.getD q undef=u at hq;generalize st.look q=y at hq hr;obtain⟨v,g1,g2⟩:=yg R hr hq;have afO:∃b,u=.pointer (some b):=by
   cases hq <;> first |exact⟨_,rfl⟩ |(simp [sH] at hr)
  obtain⟨b,rfl⟩:=afO;refine⟨v,?_,g2⟩;simp only[U7,hu];simpa[Instr.loadAt,Instr.sureAddr,asAddr] using g1
theorem CL (R:Rel K st a w p):∀{rs:List ResultVar} {xs:List AV},uG P st rs=some xs→
  ∃vs:List Value,(rs.mapM (U7 a.tmps)).run P w=.ok vs w∧vs.length=xs.length∧
   ∀(i:Nat) (x:AV) (v:Value),xs[i]? =some x→vs[i]? =some v→RA w (dx K w p) p x v
 |[],xs,h=>by simp[uG] at h;subst h;exact⟨[],by simp,rfl,λi x v hx=>by simp at hx⟩
 |r::rs,xs,h=>by
  simp only[uG] at h;cases hr:O7 P st r with
  |none=>simp[hr] at h
  |some x=>
   cases hl:uG P st rs with
   |none=>simp[hr,hl] at h
   |some xs'=>
    simp[hr,hl] at h;subst h;obtain⟨vs,h1,h2,h3⟩:=CL R hl;obtain⟨v,g1,g2⟩:=Mj R hr;refine⟨v::vs,?_,by simp[h2],λi y u hy hu=>?_⟩
    ·rw[List.mapM_cons]
     simp only[bk,g1,aU,h1,cV]
    ·cases i with
     |zero=>simp at hy hu;subst hy;subst hu;exact g2
     |succ i=>exact h3 i y u (by simpa using hy) (by simpa using hu)
theorem Mi (fn:Func) (tmps:Array Value):results fn tmps=(do let vs ←fn.results.mapM (U7 tmps);pure (if h:vs.size=1 then vs[0] else .tuple vs)):=by
 unfold results
 congr 1
theorem xP (R:Rel K st a w p) {fn:Func} {xs:List AV} (h:uG P st fn.results.toList=some xs):∃v,(results fn a.tmps).run P w=.ok v w∧RA w (dx K w p) p (CP xs) v:=by
 obtain⟨vs,h1,h2,h3⟩:=CL R h;refine⟨if h:vs.toArray.size=1 then vs.toArray[0] else .tuple vs.toArray,?_,?_⟩
 ·rw[Mi,Array.mapM_eq_mapM_toList]
  simp[h1]
 ·match xs,vs,h2 with
  |[],[],_=>simp[CP];exact .ia rfl (λi a v ha=>by simp at ha)
  |[x],[v],_=>simp[CP];exact h3 0 x v rfl rfl
  |x::y::xs,v::u::vs,h2=>
   simp only[CP];rw[dif_neg (by simp)];exact .ia (by simpa using h2) (λi a v ha hv=>h3 i a v ha (by simpa using hv))
theorem rG {τ:List Nat}:∀{bx:List (List AV)} {i0:Nat},tx st τ i0 bx→∀{i:Nat} {cs:List AV},bx[i]? =some cs→∃rF,get st.box (sq (i0+i))=some rF∧AV.tN τ (AV.Cp rF)=cs∧AV.we DL (λ_=>true) cs=true
 |[],_,_,i,cs,h=>by simp at h
 |c::bx,i0,hb,i,cs,h=>by
  cases i with
  |zero=>simp at h;subst h;exact hb.1
  |succ i=>have:=rG hb.2 (i:=i) (by simpa using h);rwa [show i0+1+i=i0+(i+1) by omega] at this
theorem rJ:∀{τ:List Nat} {vx:List VS},sQ st τ vx→τ.length=vx.length∧∀{i n:Nat} {s:VS},τ[i]? =some n→vx[i]? =some s→get st.vec n=some s
 |[],[],_=>⟨rfl,λh=>by simp at h⟩
 |n::τ,s::vx,h=>by
  obtain⟨h1,h2⟩:=rJ h.2;refine⟨by simp[h1],λ{i m s'} hm hs=>?_⟩;cases i with
  |zero=>simp at hm hs;subst hm;subst hs;exact h.1
  |succ i=>exact h2 (by simpa using hm) (by simpa using hs)
 |[],_::_,h=>h.elim
 |_::_,[],h=>h.elim
theorem RA.Ys {ok nf:Nat→Prop} {io:List Nat} {p:Pl} {τ:List Nat} (ho:∀b,ok b→nf b) (hb:∀n,1000000≤n→p.lb n→(dM io (τ.map p.rw)).lb n∧(dM io (τ.map p.rw)).bx n=p.bx n) {x:AV} {v:Value} (h:RA w ok p x v):
  (x.oO τ).wf DL (λ_=>true)=true→RA w nf (dM io (τ.map p.rw)) (x.oO τ) v:=by
 induction h with
 |undef=>intro _;simp only[AV.oO];exact .undef
 |d h=>intro _;simp only[AV.oO];exact .d (h.mono (λ_ _=>rfl) ho)
 |dK=>intro _;simp only[AV.oO];exact .dK
 |full h=>intro _;simp only[AV.oO];exact .full (h.mono (λ_ _=>rfl) ho)
 |agg hl _ h1 ih=>
  intro hw;simp only[AV.oO,nL,AV.wf] at hw ⊢;refine .agg (by simpa using hl) (λi a v ha lE=>?_) h1;have hwa:=AV.pY hw ha;simp only[aA,aP] at ha;obtain⟨q,hq,rfl⟩:=ha;exact ih i q v hq lE hwa
 |ia hl _ ih=>
  intro hw;simp only[AV.oO,nL,AV.wf] at hw ⊢;refine .ia (by simpa using hl) (λi a v ha lE=>?_);have hwa:=AV.pY hw ha;simp only[aA,aP] at ha;obtain⟨q,hq,rfl⟩:=ha;exact ih i q v hq lE hwa
 |ptr hn=>
  intro hw;simp only[AV.oO,AV.wf,DL,bg] at hw ⊢;obtain⟨h1,h2⟩:=hb _ hw hn;rw[← h2];exact .ptr h1
 |cN vs gD eY h=>intro _;simp only[AV.oO];exact .cN vs (ho _ gD) eY (λj x hx=>(h j x hx).mono (λ_ _=>rfl) ho)
 |vec hn=>
  rename_i n;intro _;simp only[AV.oO];cases hi:idxOf τ n with
  |none=>exact .undef
  |some i=>
   have h1:=rb hi;have h2:(τ.map p.rw)[i]? =some (p.rw n):=by simp[h1]
   exact RA.qS (Kx.2 (aj.1 h2).1) (Kw h2)
 |iR hn hv=>intro _;simp only[AV.oO];exact .undef
 |cut _ _ _ _=>intro _;simp only[AV.oO];exact .undef
 |oG _ _=>intro _;simp only[AV.oO];exact .undef
 |pR=>intro _;simp only[AV.oO];exact .pR
 |iter=>intro _;simp only[AV.oO];exact .iter
 |fn hl _ ih=>
  intro hw;simp only[AV.oO,nL,AV.wf] at hw ⊢;refine .fn (by simpa using hl) (λi a v ha lE=>?_);have hwa:=AV.pY hw ha;simp only[aA,aP] at ha;obtain⟨q,hq,rfl⟩:=ha;exact ih i q v hq lE hwa
theorem Om {f:FuncId} {fn:Func} {c:Code} {nt:Nat} {rs:List ResultVar} {bx:List (List AV)} {vx:List VS} {args:List AV} {res:AV} {bx':List (List AV)} {vx':List VS} (hf:P.funcs[f]? =some fn) (hb:fn.body=some c) (zX:fn.ntmps=nt) (KF:fn.results.toList=rs)
  (Xn:args.length≤nt) (SU:nt≤1000000) (LI:bx.length=bx'.length) (h:∀K:Ctx P,K.lx.length=bx.length→Tr P K c (gk nt args bx vx) (OJ P rs res bx' vx')):nV P f bx vx args res bx' vx':=by
 intro w ok io iv vs dN zw eZ xh
 let K:Ctx P:=⟨w,ok,io,iv.filterMap Value.fN,λb i x h=>⟨⟨(dN.px b (xh b i x h).1).1,(xh b i x h).1,(dN.px b (xh b i x h).1).2.1,λhm=>by obtain⟨v,hv,e⟩:=lz.1 hm;exact(dN.px b (xh b i x h).1).2.2 v hv e⟩,(xh b i x h).2⟩⟩
 have Be:∀b,b∈K.qO↔∃v∈iv,v.fN=some b:=λb=>lz
 refine calls_of_wp hf hb ?_;have KI:∀b,ok b→dx K w (dM io iv) b:=λb pS=>⟨(dN.px b pS).1,.inl pS,λn hn e=>by
  obtain⟨h1,h2⟩:=hn;have:(dM io iv).bx n∈io:=by simp[dM,ae h2]
  exact(dN.px b pS).2.1 (e▸this),λn hn=>by
  obtain⟨h1,h2⟩:=hn;have:(dM io iv).rw n∈iv:=by simp[dM,ae h2]
  exact(dN.px b pS).2.2 _ this⟩
 have tV:∀{x:AV} {v:Value},RA w ok (dM io iv) x v→RA w (dx K w (dM io iv)) (dM io iv) x v:=λh=>h.mono (λ_ _=>rfl) KI (λ_ h=>⟨h,rfl⟩) (λ_ h=>⟨h,rfl⟩)
 have Xw:∀{α:Type} (base:Nat) (l:List α) (n:Nat) (x:α),get (kS base l) n=some x→base≤n∧l[n - base]? =some x:=λbase l n x hg=>by
  rw[gb] at hg;split at hg
  ·exact⟨‹_›,hg⟩
  ·cases hg
 have R:Rel K (gk nt args bx vx) { tmps:=vs++Array.replicate (fn.ntmps - vs.size) undef,defers:=[]} w (dM io iv):={
  lb:=by
   funext n
   simp only[dM,St.lb,gk,gb,gV,dN.len];by_cases h:1000000≤n
   ·simp[h]
   ·simp[h]
  lv:=by
   funext n
   simp only[dM,St.lv,gk,gb,gV,dN.xj];by_cases h:2000000≤n
   ·simp[h]
   ·simp[h]
  pj:=rfl
  nt:=by simp[gk,zX,zw];omega
  pK:=SU
  oB:=λi hi=>by have:=E4.1 hi;rw[E5 (ae this)];exact ae this
  size:=aM _
  os:=rfl
  tape:=rfl
  dr:=aM _
  output:=rfl
  old:=λ_ _ _=>rfl
  env:=λt x hx=>by
   simp only[gk,gb,cE,eM,Nat.sub_zero] at hx;have ht:t < vs.size:=by have:=(aj.1 hx).1;omega
   have:(vs++Array.replicate (fn.ntmps - vs.size) undef).getD t undef=vs[t]:=by simp[oV,ht]
   rw[this];exact tV (eZ t x _ hx (by simp[ht]))
  box:=λn cs hn=>by
   obtain⟨h1,h2⟩:=Xw _ _ n cs hn;have hi:n - 1000000 < io.length:=by rw[dN.len];exact(aj.1 h2).1
   obtain⟨⟨us,ty,g1,g2,g3,g4⟩⟩:=dN.at_ (n - 1000000) io[n - 1000000] cs (ae hi) h2;have sX:(dM io iv).bx n=io[n - 1000000]:=by simp[dM,ae hi]
   exact⟨⟨us,ty,by rw[sX];exact g1,g2,λi c v hc hv=>tV (g3 i c v hc hv),g4⟩,.inr (.inl (by rw[sX];exact bC hi))⟩
  vec:=λn s hn=>by
   obtain⟨h1,h2⟩:=Xw _ _ n s hn;have hi:n - 2000000 < iv.length:=by rw[dN.xj];exact(aj.1 h2).1
   obtain⟨g1,g3⟩:=dN.X1 (n - 2000000) iv[n - 2000000] s (ae hi) h2;have A':(dM io iv).rw n=iv[n - 2000000]:=by simp[dM,ae hi]
   exact⟨by rw[A'];exact g1.mono (λ_ _=>rfl) KI (λ_ _=>rfl),g3,λg hg=>.inr ((Be g).2 ⟨_,bC hi,by rw[← A'];exact hg⟩)⟩
  oF:=λn m hn hm iA e=>by
   have qI:1000000≤n∧n - 1000000 < io.length:=hn;have Cg:1000000≤m∧m - 1000000 < io.length:=hm;clear hn hm;obtain⟨n1,n2⟩:=qI;obtain⟨m1,m2⟩:=Cg;have e2:((io[n - 1000000]?).getD 0)=((io[m - 1000000]?).getD 0):=e;rw[ae n2,ae m2] at e2;have:=(qD dN.nodup).1 e2;omega
  my:=λn m hn hm=>by
   have qI:1000000≤n∧n - 1000000 < io.length:=hn;have Cg:2000000≤m∧m - 2000000 < iv.length:=hm;have e1:(dM io iv).bx n∈io:=by simp[dM,ae qI.2]
   have e2:(dM io iv).rw m∈iv:=by simp[dM,ae Cg.2]
   exact dN.WE _ e2 _ e1
  mX:=λn m hn hm iA=>by
   have qI:2000000≤n∧n - 2000000 < iv.length:=hn;have Cg:2000000≤m∧m - 2000000 < iv.length:=hm;clear hn hm;obtain⟨n1,n2⟩:=qI;obtain⟨m1,m2⟩:=Cg;obtain⟨v1,zy⟩:∃v,iv[n - 2000000]? =some v:=⟨_,ae n2⟩;obtain⟨v2,Gq⟩:∃v,iv[m - 2000000]? =some v:=⟨_,ae m2⟩;have hq:n - 2000000≠m - 2000000:=by omega
   have e1:(dM io iv).rw n=v1:=by show(iv[n - 2000000]?).getD undef=_;rw[zy];rfl
   have e2:(dM io iv).rw m=v2:=by show(iv[m - 2000000]?).getD undef=_;rw[Gq];rfl
   rw[e1,e2];exact dN.OR _ _ _ _ zy Gq hq }
 refine hU (h K dN.len _ w _ R) λe a' w' ⟨s,p',R',q⟩=>?_
 have key:Ua P rs res bx' vx' s→a'.defers=[]∧∃v,(results fn a'.tmps).run P w'=.ok v w'∧(∃u iv',Ending.returned v=.returned u∧RA w' (Av ok iv iv' w w') (dM io iv') res u∧qP w' (Av ok iv iv' w w') io iv' bx' vx'∧(∀u∈iv',∀g,u.fN=some g→w.heap.size≤g∨∃v∈iv,v.fN=some g)∧T7 io iv w w'):=by
  rintro⟨ns,τ,rV,hwf,Ti,Gp,sI⟩
  obtain⟨p2,R2⟩:=R'.xu ns;obtain⟨YV,KC⟩:=rJ Gp;have yl:∀n∈τ,p2.lv n:=λn hn=>by
   obtain⟨i,hi,rfl⟩:=cu hn;exact(R2.sT _).2 (by simp[St.lv,KC (ae hi) (ae (by omega))])
  cases zB:uG P (xu s ns) rs with
  |none=>rw[zB] at rV;cases rV
  |some xs=>
   rw[zB] at rV;simp only[cr,ba] at rV;rw[← KF] at zB;obtain⟨v,g1,g2⟩:=xP R2 zB;have xp:∀b,dx K w' p2 b→Av ok iv (τ.map p2.rw) w w' b:=λb pS=>⟨by
    rcases pS.2.1 with h1 |h1 |h1
    ·exact .inl h1
    ·exact .inr (.inl h1)
    ·exact .inr (.inr ((Be b).1 h1)),pS.1,λu hu e=>by
    obtain⟨n,hn,rfl⟩:=aG.1 hu;exact pS.2.2.2 n (yl n hn) e⟩
   have Ad:∀n,1000000≤n→p2.lb n→(dM io (τ.map p2.rw)).lb n∧(dM io (τ.map p2.rw)).bx n=p2.bx n:=λn hn hl=>by
    obtain⟨i,rfl⟩:∃i,n=sq i:=⟨n - 1000000,by unfold sq;omega⟩;have h7:io[i]? =some (p2.bx (sq i)):=R2.oB i hl;exact⟨E4.2 (aj.1 h7).1,E5 h7⟩
   have C0:∀{x:AV} {u:Value},RA w' (dx K w' p2) p2 x u→(x.oO τ).wf DL (λ_=>true)=true→RA w' (Av ok iv (τ.map p2.rw) w w') (dM io (τ.map p2.rw)) (x.oO τ) u:=λhx hw=>hx.Ys xp Ad hw
   have Xj:∀i b,io[i]? =some b→∃rF cs,get (xu s ns).box (sq i)=some rF∧bx'[i]? =some cs∧AV.tN τ (AV.Cp rF)=cs∧AV.we DL (λ_=>true) cs=true∧p2.bx (sq i)=b:=λi b hi=>by
    have ph:i < bx'.length:=by rw[← LI,←dN.len];exact(aj.1 hi).1
    obtain⟨rF,k1,k2,k3⟩:=rG Ti (ae ph);rw[gg] at k1;have:=R2.oB i ((R2.vg _).2 (by simp[St.lb,k1]));rw[show K.lx[i]? =some b from hi] at this;injection this with this
    exact⟨rF,_,k1,ae ph,k2,k3,this.symm⟩
   refine⟨R2.pj,v,g1,v,τ.map p2.rw,rfl,by rw[← rV];exact C0 g2.fin (by rw[rV];exact hwf),⟨dN.len.trans LI,dN.nodup,λb pS=>⟨pS.2.1,λhm=>?_,pS.2.2⟩,λi b cs hi hc=>?_,by simp[YV],λi v s hv hs=>?_,λi j v u hv hu rY=>?_,λv hv b pS=>?_⟩,λu hu g hg=>?_,⟨R2.size,R2.os,R2.tape,R2.dr,R2.output,λb h1 h2 h3=>R2.old b h1 (λh=>h.elim h2 (λh=>by obtain⟨v,hv,he⟩:=(Be b).1 h;exact h3 v hv he))⟩⟩
   ·obtain⟨i,hi⟩:=bJ.1 hm
    rcases pS.1 with h1 |h1 |⟨u,h1,h2⟩
    ·exact(dN.px b h1).2.1 hm
    ·have ph:=(aj.1 hi).1
     obtain⟨⟨us,ty,g1,_⟩⟩:=dN.at_ i b _ hi (ae (by rw[← dN.len];exact ph));have:=(aL.1 g1).1;omega
    ·exact dN.WE u h1 b hm h2
   ·obtain⟨rF,TF,k1,k2,k3,k4,k5⟩:=Xj i b hi
    rw[hc] at k2;cases k2;obtain⟨⟨us,ty,g1,g2,g3,g4⟩,_⟩:=R2.box (sq i) rF k1;refine⟨⟨us,ty,by rw[← k5];exact g1,by rw[g2,←k3,nL,rE];simp,λj c v wP hv=>?_,g4⟩⟩;have hw:=AV.pY k4 wP;rw[← k3,nL,rE] at wP;simp only[aA,aP] at wP;obtain⟨q',⟨q,hq,rfl⟩,rfl⟩:=wP;exact C0 (g3 j q v hq hv).fin hw
   ·rw[aA] at hv
    cases hn:τ[i]? with
    |none=>rw[hn] at hv;cases hv
    |some n=>
     rw[hn] at hv;cases hv;obtain⟨a1,a3,_⟩:=R2.vec n s (KC hn hs);exact⟨a1.mono (λ_ _=>rfl) xp (λ_ _=>rfl),a3⟩
   ·rw[aA] at hv hu
    cases hn:τ[i]? with
    |none=>rw[hn] at hv;cases hv
    |some n=>
     cases hm:τ[j]? with
     |none=>rw[hm] at hu;cases hu
     |some m=>
      rw[hn] at hv;rw[hm] at hu;cases hv;cases hu;refine R2.mX n m (yl n (bm hn)) (yl m (bm hm)) (λe=>rY ?_);subst e;exact(pn (aj.1 hn).1 sI).1 (hn.trans hm.symm)
   ·obtain⟨n,hn,rfl⟩:=aG.1 hv
    obtain⟨i,hi⟩:=bJ.1 pS;obtain⟨rF,TF,k1,_,_,_,k5⟩:=Xj i b hi;rw[← k5];exact R2.my _ n ((R2.vg _).2 (by simp[St.lb,k1])) (yl n hn)
   ·obtain⟨n,hn,rfl⟩:=aG.1 hu
    rcases(R2.yI (yl n hn) hg).1 with h1 |h1
    ·exact .inl h1
    ·exact .inr ((Be g).1 h1)
 cases e with
 |normal=>exact key q
 |ret=>exact key q
 |_=>exact q.elim
theorem yr {f:FuncId} {fn:Func} {c:Code} {nt:Nat} {rs:List ResultVar} {bx:List (List AV)} {vx:List VS} {args:List AV} {res:AV} {bx':List (List AV)} {vx':List VS} (hf:P.funcs[f]? =some fn) (hb:fn.body=some c) (zX:fn.ntmps=nt) (KF:fn.results.toList=rs)
  (Xn:args.length≤nt) (SU:nt≤1000000) (LI:bx.length=bx'.length) (h:∀K:Ctx P,Tr P K c (gk nt args bx vx) (OJ P rs res bx' vx')):nV P f bx vx args res bx' vx':=
 Om hf hb zX KF Xn SU LI λK _=>h K
theorem NO (τ:List Nat) (x:AV):x.wf DL (λ_=>false)=true→x.oO τ=x:=by
 refine AV.rec (motive_1:=λx=>x.wf DL (λ_=>false)=true→x.oO τ=x) (motive_2:=λl=>AV.we DL (λ_=>false) l=true→AV.tN τ l=l) ?_ ?_ ?_ ?_ ?_ ?_ ?_ ?_ ?_ ?_ ?_ ?_ ?_ ?_ ?_ ?_ x
 all_goals intros
 all_goals simp_all [AV.wf,AV.we,AV.oO,AV.tN]
theorem Ns (x:AV):x.wf DL (λ_=>false)=true→x.wf DL (λ_=>true)=true:=by
 refine AV.rec (motive_1:=λx=>x.wf DL (λ_=>false)=true→x.wf DL (λ_=>true)=true) (motive_2:=λl=>AV.we DL (λ_=>false) l=true→AV.we DL (λ_=>true) l=true) ?_ ?_ ?_ ?_ ?_ ?_ ?_ ?_ ?_ ?_ ?_ ?_ ?_ ?_ ?_ ?_ x
 all_goals intros
 all_goals simp_all [AV.wf,AV.we]
theorem Oq {rs:List ResultVar} {res:AV} {bx':List (List AV)} {s:St} (h:Fin P rs res bx' s):Ua P rs res bx' [] s:=by
 obtain⟨ns,h1,h2,h3⟩:=h;refine⟨ns,[],?_,Ns _ h2,?_,trivial,dL⟩
 ·cases hr:uG P (xu s ns) rs with
  |none=>rw[hr] at h1;cases h1
  |some xs=>
   rw[hr] at h1;simp only[cr,ba] at h1 ⊢;rw[h1,NO _ _ h2]
 ·have key:∀(bx:List (List AV)) (i:Nat),Bv (xu s ns) i bx→tx (xu s ns) [] i bx:=λbx=>by
   induction bx with
   |nil=>intro i _;trivial
   |cons cs bx ih=>
    intro i hb;obtain⟨⟨rF,k1,k2,k3⟩,k4⟩:=hb;have hw:=Ns (.agg cs) (by simpa only[AV.wf] using k3);refine⟨⟨rF,k1,?_,by simpa only[AV.wf] using hw⟩,ih _ k4⟩;have:=NO [] (.agg cs) (by simpa only[AV.wf] using k3);simp only[AV.oO,AV.agg.injEq] at this;rw[k2,this]
  exact key bx' 0 h3
theorem dS {f:FuncId} {fn:Func} {c:Code} {nt:Nat} {rs:List ResultVar} {bx:List (List AV)} {args:List AV} {res:AV} {bx':List (List AV)} (hf:P.funcs[f]? =some fn) (hb:fn.body=some c) (zX:fn.ntmps=nt) (KF:fn.results.toList=rs)
  (Xn:args.length≤nt) (SU:nt≤1000000) (LI:bx.length=bx'.length) (h:∀K:Ctx P,Tr P K c (I0 nt args bx) (Ub P rs res bx')):dY P f bx args res bx':=
 yr hf hb zX KF Xn SU LI λK a w p R=>hU (h K a w p R) λe a' w' ⟨s,p',R',q⟩=>⟨s,p',R',by
  cases e with
  |normal=>exact Oq q
  |ret=>exact Oq q
  |_=>exact q.elim⟩
end
end Go.Vl
namespace Go.Vl
open Go Go.RowKit
mutual
def AV.view (vs:List (Nat×VS)) (τ σ:List Nat):AV→AV
 | .dK=>.d (.slice [])
 | .full rows=>.d (.slice rows)
 | .vec n=>match idxOf τ n with |some i=>.vec (wa i) |none=>match get vs n with |some s=>if s.rC=true then .d (.mp s.e s.z s.rows) else .d (.slice s.rows) |none=>.undef
 | .ptr n o=>match idxOf σ n with |some i=>.ptr (sq i) o |none=>.undef
 | .iR n z i o=>match idxOf τ n with |some j=>.iR (wa j) z i o |none=>.undef
 | .cut _ _ _ _=>.undef
 | .agg l=>.agg (AV.zp vs τ σ l)
 | .ia l=>.ia (AV.zp vs τ σ l)
 | .fn f l=>.fn f (AV.zp vs τ σ l)
 |x=>x
def AV.zp (vs:List (Nat×VS)) (τ σ:List Nat):List AV→List AV
 |[]=>[]
 |x::l=>AV.view vs τ σ x::AV.zp vs τ σ l
end
theorem tB (vs:List (Nat×VS)) (τ σ:List Nat):∀l:List AV,AV.zp vs τ σ l=l.map (AV.view vs τ σ)
 |[]=>rfl
 |x::l=>by simp[AV.zp,tB vs τ σ l]
mutual
def AV.back (υ σ:List Nat):AV→AV
 | .ptr n o=>match σ[n - 1000000]? with |some m=>.ptr m o |none=>.undef
 | .vec n=>match υ[n - 2000000]? with |some m=>.vec m |none=>.undef
 | .iR _ _ _ _=>.undef
 | .cut _ _ _ _=>.undef
 | .agg l=>.agg (AV.zD υ σ l)
 | .ia l=>.ia (AV.zD υ σ l)
 | .fn f l=>.fn f (AV.zD υ σ l)
 |x=>x
def AV.zD (υ σ:List Nat):List AV→List AV
 |[]=>[]
 |x::l=>AV.back υ σ x::AV.zD υ σ l
end
theorem ub (υ σ:List Nat):∀l:List AV,AV.zD υ σ l=l.map (AV.back υ σ)
 |[]=>rfl
 |x::l=>by simp[AV.zD,ub υ σ l]
mutual
def AV.flat:AV→Bool
 | .d (.int _ _) | .d (.bool _) | .d (.str _) | .iter _=>true
 | .agg l=>AV.Oo l
 | .ia l=>AV.Oo l
 |_=>false
def AV.Oo:List AV→Bool
 |[]=>true
 |x::l=>AV.flat x&&AV.Oo l
end
mutual
def AV.QA:AV→AV
 | .d (.int k n)=>.d (.int k n)
 | .d (.bool b)=>.d (.bool b)
 | .d (.str s)=>.d (.str s)
 | .d (.slice rows)=>.pR rows.length
 | .iter r=>.iter r
 | .agg l=>.agg (AV.P0 l)
 | .ia l=>.ia (AV.P0 l)
 |_=>.undef
def AV.P0:List AV→List AV
 |[]=>[]
 |x::l=>AV.QA x::AV.P0 l
end
theorem I2:∀l:List AV,AV.P0 l=l.map AV.QA
 |[]=>rfl
 |x::l=>by simp[AV.P0,I2 l]
theorem RA.QA {w w':World} {ok nf:Nat→Prop} {p p':Pl} {x:AV} {v:Value} (h:RA w ok p x v):RA w' nf p' x.QA v:=by
 induction h with
 |d h=>
  cases h with
  |int=>exact .d .int
  |bool=>exact .d .bool
  |str=>exact .d .str
  |ve=>exact .undef
  |pQ=>exact .pR
  |slice=>exact .pR
  |mp=>exact .undef
 |agg hl _ h1 ih=>
  simp only[AV.QA,I2];refine .agg (by simpa using hl) (λi a v ha lE=>?_) h1;simp only[aA,aP] at ha;obtain⟨q,hq,rfl⟩:=ha;exact ih i q v hq lE
 |ia hl _ ih=>
  simp only[AV.QA,I2];refine .ia (by simpa using hl) (λi a v ha lE=>?_);simp only[aA,aP] at ha;obtain⟨q,hq,rfl⟩:=ha;exact ih i q v hq lE
 |iter=>simp only[AV.QA];exact .iter
 |_=>simp only[AV.QA];exact .undef
theorem RA.view {w:World} {ok nf:Nat→Prop} {p:Pl} {vs:List (Nat×VS)} {τ σ:List Nat} (ho:∀b,ok b→nf b) (hv:∀n s,get vs n=some s→p.lv n→(s.rC=false→RD w nf (.slice s.rows) (p.rw n))∧(s.rC=true→RD w nf (.mp s.e s.z s.rows) (p.rw n))) {x:AV} {v:Value} (h:RA w ok p x v):
  RA w nf (dM (σ.map p.bx) (τ.map p.rw)) (x.view vs τ σ) v:=by
 induction h with
 |undef=>simp only[AV.view];exact .undef
 |d h=>simp only[AV.view];exact .d (h.mono (λ_ _=>rfl) ho)
 |dK=>simp only[AV.view];exact .d .pQ
 |full h=>simp only[AV.view];exact .d (h.mono (λ_ _=>rfl) ho)
 |agg hl _ h1 ih=>
  simp only[AV.view,tB];refine .agg (by simpa using hl) (λi a v ha lE=>?_) h1;simp only[aA,aP] at ha;obtain⟨q,hq,rfl⟩:=ha;exact ih i q v hq lE
 |ia hl _ ih=>
  simp only[AV.view,tB];refine .ia (by simpa using hl) (λi a v ha lE=>?_);simp only[aA,aP] at ha;obtain⟨q,hq,rfl⟩:=ha;exact ih i q v hq lE
 |ptr hm=>
  rename_i n o;simp only[AV.view];cases hi:idxOf σ n with
  |none=>exact .undef
  |some i=>
   have h1:=rb hi;have h2:(σ.map p.bx)[i]? =some (p.bx n):=by simp[h1]
   refine RA.Rw (E4.2 (aj.1 h2).1) (E5 h2)
 |cN us h1 h2 h3=>simp only[AV.view];exact .cN us (ho _ h1) h2 (λj x hx=>(h3 j x hx).mono (λ_ _=>rfl) ho)
 |vec hm=>
  rename_i n;simp only[AV.view];cases hi:idxOf τ n with
  |some i=>
   have h1:=rb hi;have h2:(τ.map p.rw)[i]? =some (p.rw n):=by simp[h1]
   exact RA.qS (Kx.2 (aj.1 h2).1) (Kw h2)
  |none=>
   simp only;cases hs:get vs n with
   |none=>exact .undef
   |some s=>
    simp only;split
    ·exact .d ((hv n s hs hm).2 ‹s.rC=true›)
    ·exact .d ((hv n s hs hm).1 (by simpa using ‹¬s.rC=true›))
 |iR hm he=>
  rename_i n z i o g c len;simp only[AV.view];cases hi:idxOf τ n with
  |some j=>
   have h1:=rb hi;have h2:(τ.map p.rw)[j]? =some (p.rw n):=by simp[h1]
   exact .iR (Kx.2 (aj.1 h2).1) ((Kw h2).trans he)
  |none=>exact .undef
 |cut _ _ _ _=>simp only[AV.view];exact .undef
 |oG _ _=>simp only[AV.view];exact .undef
 |pR=>simp only[AV.view];exact .pR
 |iter=>simp only[AV.view];exact .iter
 |fn hl _ ih=>
  simp only[AV.view,tB];refine .fn (by simpa using hl) (λi a v ha lE=>?_);simp only[aA,aP] at ha;obtain⟨q,hq,rfl⟩:=ha;exact ih i q v hq lE
theorem RA.back {w:World} {ok nf:Nat→Prop} {p':Pl} {σ υ:List Nat} {bxs:List Nat} {iv':List Value} (ho:∀b,ok b→nf b) (hb:∀(i n:Nat),σ[i]? =some n→p'.lb n∧bxs[i]? =some (p'.bx n)) (hv:∀(i n:Nat),υ[i]? =some n→p'.lv n∧iv'[i]? =some (p'.rw n))
  {x:AV} {v:Value} (h:RA w ok (dM bxs iv') x v):RA w nf p' (x.back υ σ) v:=by
 induction h with
 |undef=>simp only[AV.back];exact .undef
 |d h=>simp only[AV.back];exact .d (h.mono (λ_ _=>rfl) ho)
 |dK=>simp only[AV.back];exact .dK
 |full h=>simp only[AV.back];exact .full (h.mono (λ_ _=>rfl) ho)
 |agg hl _ h1 ih=>
  simp only[AV.back,ub];refine .agg (by simpa using hl) (λi a v ha lE=>?_) h1;simp only[aA,aP] at ha;obtain⟨q,hq,rfl⟩:=ha;exact ih i q v hq lE
 |ia hl _ ih=>
  simp only[AV.back,ub];refine .ia (by simpa using hl) (λi a v ha lE=>?_);simp only[aA,aP] at ha;obtain⟨q,hq,rfl⟩:=ha;exact ih i q v hq lE
 |ptr hm=>
  rename_i n o;simp only[AV.back];cases hi:σ[n - 1000000]? with
  |none=>exact .undef
  |some m=>
   obtain⟨h1,h2⟩:=hb _ _ hi;have h3:(dM bxs iv').bx n=p'.bx m:=by simp[dM,h2]
   rw[h3];exact .ptr h1
 |cN us h1 h2 h3=>simp only[AV.back];exact .cN us (ho _ h1) h2 (λj x hx=>(h3 j x hx).mono (λ_ _=>rfl) ho)
 |vec hm=>
  rename_i n;simp only[AV.back];cases hi:υ[n - 2000000]? with
  |none=>exact .undef
  |some m=>
   obtain⟨h1,h2⟩:=hv _ _ hi;have h3:(dM bxs iv').rw n=p'.rw m:=by simp[dM,h2]
   rw[h3];exact .vec h1
 |iR h1 h2=>simp only[AV.back];exact .undef
 |cut _ _ _ _=>simp only[AV.back];exact .undef
 |oG _ _=>simp only[AV.back];exact .undef
 |pR=>simp only[AV.back];exact .pR
 |iter=>simp only[AV.back];exact .iter
 |fn hl _ ih=>
  simp only[AV.back,ub];refine .fn (by simpa using hl) (λi a v ha lE=>?_);simp only[aA,aP] at ha;obtain⟨q,hq,rfl⟩:=ha;exact ih i q v hq lE
def lI (st:St) (τ σ0:List Nat):List Nat→List (List AV)→Prop
 |[],[]=>True
 |n::σ,cs::bx=>(∃rF,get st.box n=some rF∧AV.zp [] τ σ0 rF=cs)∧lI st τ σ0 σ bx
 |_,_=>False
def iw (υ σ0:List Nat):List Nat→List (List AV)→List (Nat×List AV)→List (Nat×List AV)
 |n::σ,cs::bx,l=>(n,AV.zD υ σ0 cs)::iw υ σ0 σ bx l
 |_,_,l=>l
def LS:List Nat→List VS→List (Nat×VS)→List (Nat×VS)
 |n::υ,s::vx,l=>(n,s)::LS υ vx l
 |_,_,l=>l
def M3:List Nat→List (Nat×VS)→List (Nat×VS)
 |[],l=>l
 |n::τ,l=>M3 τ (del l n)
def AV.BR (τ:List Nat) (x:AV):AV:=if x.wf (λ_=>true) (λm=>!τ.contains m) then x else .undef
def L9:List Nat→List (Nat×AV)→List (Nat×AV)
 |[],l=>l
 |n::τ,l=>me (AV.BR (n::τ)) l
def D8:List Nat→List (Nat×List AV)→List (Nat×List AV)
 |[],l=>l
 |n::τ,l=>me (List.map (AV.BR (n::τ))) l
section
variable {P:Program} {K:Ctx P} {st:St} {a:Act} {w:World} {p:Pl} {ops:Array Oper} {Q:Exit→St→Prop}
theorem C8 {st:St} {τ σ0:List Nat}:∀{σ:List Nat} {bx:List (List AV)},lI st τ σ0 σ bx→σ.length=bx.length∧∀(i:Nat) (n:Nat) (cs:List AV),σ[i]? =some n→bx[i]? =some cs→∃rF,get st.box n=some rF∧AV.zp [] τ σ0 rF=cs
 |[],[],_=>⟨rfl,λi n cs h=>by simp at h⟩
 |n::σ,cs::bx,h=>by
  obtain⟨h1,h2⟩:=C8 h.2;refine⟨by simp[h1],λi m c hm hc=>?_⟩;cases i with
  |zero=>simp at hm hc;subst hm;subst hc;exact h.1
  |succ i=>exact h2 i m c (by simpa using hm) (by simpa using hc)
 |[],_::_,h=>h.elim
 |_::_,[],h=>h.elim
theorem Br (υ σ0:List Nat):∀{σ:List Nat} {bx:List (List AV)} {l:List (Nat×List AV)} {n:Nat} {cs:List AV},σ.length=bx.length→σ.Nodup→get (iw υ σ0 σ bx l) n=some cs→
  (∃(i:Nat) (c:List AV),σ[i]? =some n∧bx[i]? =some c∧cs=AV.zD υ σ0 c)∨(n∉σ∧get l n=some cs)
 |[],[],l,n,cs,_,_,h=>.inr ⟨by simp,h⟩
 |m::σ,c::bx,l,n,cs,hl,hn,h=>by
  simp only[iw,get] at h;split at h
  ·rename_i e;subst e;cases h;exact .inl ⟨0,c,rfl,rfl,rfl⟩
  ·rename_i e
   rcases Br υ σ0 (by simpa using hl) (dZ.1 hn).2 h with ⟨i,c',h1,h2,h3⟩ |⟨h1,h2⟩
   ·exact .inl ⟨i+1,c',by simpa using h1,by simpa using h2,h3⟩
   ·exact .inr ⟨by simp[h1];exact λe'=>e e'.symm,h2⟩
 |[],_::_,_,_,_,hl,_,_=>by simp at hl
 |_::_,[],_,_,_,hl,_,_=>by simp at hl
theorem Bs (υ σ0:List Nat):∀{σ:List Nat} {bx:List (List AV)} {l:List (Nat×List AV)},σ.length=bx.length→∀n,(get (iw υ σ0 σ bx l) n).isSome=true↔(n∈σ∨(get l n).isSome=true)
 |[],[],l,_,n=>by simp[iw]
 |m::σ,c::bx,l,hl,n=>by
  simp only[iw,get];split
  ·rename_i e;subst e;simp
  ·rename_i e
   rw[Bs υ σ0 (by simpa using hl) n];simp[eN e]
 |[],_::_,_,hl,_=>by simp at hl
 |_::_,[],_,hl,_=>by simp at hl
theorem xD:∀{υ:List Nat} {vx:List VS} {l:List (Nat×VS)} {n:Nat},υ.length=vx.length→υ.Nodup→(∀(i:Nat),υ[i]? =some n→get (LS υ vx l) n=vx[i]?)∧(n∉υ→get (LS υ vx l) n=get l n)
 |[],[],l,n,_,_=>⟨λi h=>by simp at h,λ_=>rfl⟩
 |m::υ,s::vx,l,n,hl,hn=>by
  have qI:=dZ.1 hn;obtain⟨h1,h2⟩:=xD (υ:=υ) (vx:=vx) (l:=l) (n:=n) (by simpa using hl) qI.2;refine⟨λi hi=>?_,λhni=>?_⟩
  ·simp only[LS,get]
   cases i with
   |zero=>simp at hi;rw[ai hi];rfl
   |succ i=>
    have Fe:υ[i]? =some n:=by simpa using hi
    rw[ah (λe=>qI.1 (by rw[e];exact bm Fe)),h1 i Fe];rfl
  ·simp only[LS,get]
   rw[ah (λe=>hni (by simp[e])),h2 (λh=>hni (by simp[h]))]
 |[],_::_,_,_,hl,_=>by simp at hl
 |_::_,[],_,_,hl,_=>by simp at hl
theorem Fp:∀(τ:List Nat) (l:List (Nat×VS)) (n:Nat),get (M3 τ l) n=if n∈τ then none else get l n
 |[],l,n=>by simp[M3]
 |m::τ,l,n=>by
  simp only[M3,Fp τ,iG,aZ];by_cases h:n∈τ
  ·simp[h]
  ·by_cases h2:m=n
   ·simp[h2]
   ·simp[h,h2,eN h2]
theorem CJ (τ:List Nat) (x:AV):x.BR τ=.undef∨(x.BR τ=x∧x.wf (λ_=>true) (λm=>!τ.contains m)=true):=by
 unfold AV.BR;split
 ·exact .inr ⟨rfl,‹_›⟩
 ·exact .inl rfl
theorem QS (x:AV):x.wf (λ_=>true) (λm=>!([]:List Nat).contains m)=true:=by
 have:(λm:Nat=>!([]:List Nat).contains m)=λ_=>true:=by funext m;rfl
 rw[this];exact nZ x
theorem L8 {τ:List Nat} {l:List (Nat×AV)} {t:Nat} {y:AV} (h:get (L9 τ l) t=some y):∃x,get l t=some x∧(y=.undef∨(y=x∧x.wf (λ_=>true) (λm=>!τ.contains m)=true)):=by
 cases τ with
 |nil=>exact⟨y,h,.inr ⟨rfl,QS y⟩⟩
 |cons n τ=>
  obtain⟨x,hx,rfl⟩:=iT h;refine⟨x,hx,?_⟩;rcases CJ (n::τ) x with h0 |⟨h0,hw⟩
  ·exact .inl h0
  ·exact .inr ⟨h0,hw⟩
theorem Ma {τ:List Nat} {l:List (Nat×List AV)} {t:Nat} {cs':List AV} (h:get (D8 τ l) t=some cs'):∃cs,get l t=some cs∧cs'.length=cs.length∧∀(i:Nat) (c:AV),cs'[i]? =some c→c=.undef∨(cs[i]? =some c∧c.wf (λ_=>true) (λm=>!τ.contains m)=true):=by
 cases τ with
 |nil=>exact⟨cs',h,rfl,λi c hc=>.inr ⟨hc,QS c⟩⟩
 |cons n τ=>
  obtain⟨cs,je,rfl⟩:=iT h;refine⟨cs,je,by simp,λi c hc=>?_⟩;rw[aA] at hc;cases hq:cs[i]? with
  |none=>rw[hq] at hc;cases hc
  |some q=>
   rw[hq] at hc;cases hc;rcases CJ (n::τ) q with h0 |⟨h0,hw⟩
   ·exact .inl h0
   ·exact .inr ⟨by rw[h0],by rw[h0];exact hw⟩
theorem Mb (τ:List Nat) (l:List (Nat×List AV)) (n:Nat):(get (D8 τ l) n).isSome=(get l n).isSome:=by
 cases τ with
 |nil=>rfl
 |cons m τ=>simp[D8,jS]
def lX (st:St) (σ τ υ:List Nat) (bx':List (List AV)) (vx':List VS):St:=
 {nt:=st.nt,env:=L9 τ st.env,box:=iw υ σ σ bx' (D8 τ st.box),vec:=LS υ vx' (M3 τ st.vec)}
theorem Rel.I6 (R:Rel K st a w p) {σ τ υ:List Nat} {bx':List (List AV)} {vx':List VS} {iv':List Value} {w':World} (hn:σ.Nodup) (hσ:∀n∈σ,p.lb n) (hl:σ.length=bx'.length) (hτ:∀n∈τ,p.lv n) (hυ:υ.Nodup) (PB:υ.length=vx'.length)
  (hυf:∀n∈υ,n∈τ∨¬p.lv n) (hf:T7 (σ.map p.bx) (τ.map p.rw) w w') (dN:qP w' (Av (dx K w p) (τ.map p.rw) iv' w w') (σ.map p.bx) iv' bx' vx') (eC:∀u∈iv',∀g,u.fN=some g→w.heap.size≤g∨∃v∈τ.map p.rw,v.fN=some g):
  ∃p',Rel K (lX st σ τ υ bx' vx') a w' p'∧(∀b,Av (dx K w p) (τ.map p.rw) iv' w w' b→dx K w' p' b)∧(∀(i n:Nat),σ[i]? =some n→p'.lb n∧(σ.map p.bx)[i]? =some (p'.bx n))∧(∀(i n:Nat),υ[i]? =some n→p'.lv n∧iv'[i]? =some (p'.rw n))∧p'.bx=p.bx:=by
 let p':Pl:=⟨p.bx,λn=>match idxOf υ n with |some i=>(iv'[i]?).getD undef |none=>p.rw n,p.lb,λn=>n∈υ∨(n∉τ∧p.lv n)⟩
 have af8:iv'.length=υ.length:=by rw[dN.xj,PB]
 have WL:∀n,n∉υ→p'.rw n=p.rw n:=λn h=>by show(match idxOf υ n with |some i=>(iv'[i]?).getD undef |none=>p.rw n)=_;rw[zV.2 h]
 have rwn:∀(i n:Nat),υ[i]? =some n→iv'[i]? =some (p'.rw n):=λi n h=>by
  have hi:i < iv'.length:=by rw[af8];exact(aj.1 h).1
  show _=some (match idxOf υ n with |some i=>(iv'[i]?).getD undef |none=>p.rw n);rw[Kz hυ h];simp[ae hi]
 have Sd:∀n∈υ,p'.rw n∈iv':=λn h=>by
  obtain⟨i,hi⟩:=bJ.1 h;exact bm (rwn i n hi)
 have nu:∀n,n∉τ→p.lv n→n∉υ:=λn h1 h2 h3=>(hυf n h3).elim h1 (λh=>h h2)
 have VN:∀{b:Nat},b∈σ.map p.bx→∃n∈σ,p.bx n=b:=λh=>by simpa using h
 have CY:∀{v:Value},v∈τ.map p.rw→∃n∈τ,p.rw n=v:=λh=>by simpa using h
 have VL:∀b,Av (dx K w p) (τ.map p.rw) iv' w w' b→dx K w' p' b:=λb h=>by
  obtain⟨h1,h2,h3⟩:=h;refine⟨h2,?_,λn qI e=>?_,λn qI e=>?_⟩
  ·rcases h1 with h1 |h1 |⟨v,hv,he⟩
   ·exact h1.2.1
   ·exact .inr (.inl (bO R.size h1))
   ·obtain⟨n,qI,rfl⟩:=CY hv
    exact .inr (R.yI (hτ n qI) he).1
  ·rcases h1 with h1 |h1 |⟨v,hv,he⟩
   ·exact h1.2.2.1 n qI e
   ·have:=R.blt qI;have e':b=p.bx n:=e;omega
   ·obtain⟨m,hm,rfl⟩:=CY hv
    exact R.my n m qI (hτ m hm) (by rw[he];congr 1)
  ·rcases qI with qI |⟨IJ,II⟩
   ·exact h3 _ (Sd n qI) e
   ·rw[WL n (nu n IJ II)] at e
    rcases h1 with h1 |h1 |⟨v,hv,he⟩
    ·exact h1.2.2.2 n II e
    ·have:=(R.yI II e).2;omega
    ·obtain⟨m,hm,rfl⟩:=CY hv
     have Hu:n≠m:=λe'=>IJ (e'▸hm)
     rcases R.mX n m II (hτ m hm) Hu with h0 |h0
     ·rw[h0] at e;cases e
     ·exact h0 (by rw[e,he])
 have afR:∀b,dx K w p b→Av (dx K w p) (τ.map p.rw) iv' w w' b:=λb h=>⟨.inl h,bu h.1 hf.size,λu hu e=>by
  rcases eC u hu b e with h1 |⟨v,hv,he⟩
  ·have:=h.1;omega
  ·obtain⟨m,hm,rfl⟩:=CY hv
   exact h.2.2.2 m (hτ m hm) he⟩
 have VF:∀b,(∀m∈τ,(p.rw m).fN≠some b)→∀v∈τ.map p.rw,v.fN≠some b:=λb h v hv=>by
  obtain⟨m,hm,rfl⟩:=CY hv;exact h m hm
 have E:LR K w w' p p' (λ_=>true) (λm=>!τ.contains m):=
  ⟨hf.size,hf.os,hf.tape,hf.output,λb hb hi=>hf.block b (bu hb R.size) (λh=>by
    obtain⟨n,qI,rfl⟩:=VN h;obtain⟨cs,je⟩:=aY.1 ((R.vg n).1 (hσ n qI));rcases(R.box n cs je).yc with h0 |h0
    ·omega
    ·exact hi h0) (VF b λm hm e=>by
    rcases(R.yI (hτ m hm) e).1 with h0 |h0
    ·omega
    ·exact hi (.inr h0)),
   λq hq=>cT (hf.block _ hq.1 (λh=>by obtain⟨n,qI,e⟩:=VN h;exact hq.2.2.1 n (hσ n qI) e.symm) (VF _ λm hm e=>hq.2.2.2 m (hτ m hm) e)),
   λb h=>VL b (afR b h),λ_ _ h=>⟨h,rfl⟩,λm hm h=>by
    have Cg:m∉τ:=by simpa using hm
    exact⟨.inr ⟨Cg,h⟩,WL m (nu m Cg h)⟩,hf.dr⟩
 have vS:∀(i n:Nat),σ[i]? =some n→p'.lb n∧(σ.map p.bx)[i]? =some (p'.bx n):=λi n h=>⟨hσ n (bm h),by simp[h];rfl⟩
 have Tj:∀(i n:Nat),υ[i]? =some n→p'.lv n∧iv'[i]? =some (p'.rw n):=λi n h=>⟨.inl (bm h),rwn i n h⟩
 have zx:∀n,p.lb n→∀u∈iv',u.fN≠some (p.bx n):=λn qI u hu e=>by
  rcases eC u hu _ e with h1 |⟨v,hv,he⟩
  ·have:=R.blt qI;omega
  ·obtain⟨m,hm,rfl⟩:=CY hv
   exact R.my n m qI (hτ m hm) he
 have hvo:∀n,n∉τ→p.lv n→∀u∈iv',∀g,u.fN=some g→(p.rw n).fN≠some g:=λn IJ II u hu g hg e=>by
  rcases eC u hu g hg with h1 |⟨v,hv,he⟩
  ·have:=(R.yI II e).2;omega
  ·obtain⟨m,hm,rfl⟩:=CY hv
   have Hu:n≠m:=λe'=>IJ (e'▸hm)
   rcases R.mX n m II (hτ m hm) Hu with h0 |h0
   ·rw[h0] at e;cases e
   ·exact h0 (by rw[e,he])
 refine⟨p',?_,VL,vS,Tj,rfl⟩;exact {
  lb:=by
   funext m
   simp only[lX,St.lb,gV];rw[Bs υ σ hl m,Mb];have:=R.vg m;simp only[St.lb] at this;rw[← this];exact⟨.inr,λh=>h.elim (hσ m) id⟩
  lv:=by
   funext m
   simp only[lX,St.lv,gV];show(m∈υ∨(m∉τ∧p.lv m))↔_;by_cases hm:m∈υ
   ·obtain⟨i,hi⟩:=bJ.1 hm
    rw[(xD PB hυ).1 i hi];have:i < vx'.length:=by rw[← PB];exact(aj.1 hi).1
    simp[hm,ae this]
   ·rw[(xD PB hυ).2 hm,Fp]
    have:=R.sT m;simp only[St.lv] at this;by_cases ht:m∈τ
    ·simp[hm,ht]
    ·simp[hm,ht,this]
  pj:=R.pj
  nt:=R.nt
  pK:=R.pK
  oB:=R.oB
  size:=bO R.size E.size
  os:=E.os.trans R.os
  tape:=E.tape.trans R.tape
  dr:=bO R.dr E.dr
  output:=E.output.trans R.output
  old:=λb hb hi=>(E.old b hb hi).trans (R.old b hb hi)
  env:=λt y h=>by
   obtain⟨x,hx,h0⟩:=L8 h;rcases h0 with rfl |⟨rfl,hw⟩
   ·exact .undef
   ·exact E.ra (R.env t y hx) hw
  box:=λm cs h=>by
   rcases Br υ σ hl hn h with ⟨i,c,h1,h2,rfl⟩ |⟨h1,h2⟩
   ·have hm:m∈σ:=bm h1
    obtain⟨rF,ags⟩:=aY.1 ((R.vg m).1 (hσ m hm));obtain⟨⟨vs,ty,g1,g2,g3,g4⟩⟩:=dN.at_ i (p.bx m) c (by simp[h1]) h2;refine⟨⟨vs,ty,g1,by rw[ub];simpa using g2,λj x v hx hv=>?_,g4⟩,(R.box m rF ags).yc⟩;rw[ub] at hx;simp only[aA,aP] at hx;obtain⟨q,hq,rfl⟩:=hx;exact(g3 j q v hq hv).back VL vS Tj
   ·obtain⟨rF,k1,k2,k3⟩:=Ma h2
    have hm:p.lb m:=(R.vg m).2 (by simp[St.lb,k1]);exact E.box (R.box m rF k1) rfl (hf.block _ (R.blt hm) (λh=>by
     obtain⟨n,qI,e⟩:=VN h;exact R.oF n m (hσ n qI) hm (λe'=>h1 (e'▸qI)) e) (VF _ λk hk e=>R.my m k hm (hτ k hk) e)) k2 k3
  vec:=λm s h=>by
   by_cases hm:m∈υ
   ·obtain⟨i,hi⟩:=bJ.1 hm
    have hs:vx'[i]? =some s:=by rw[← h];exact((xD PB hυ).1 i hi).symm
    obtain⟨g1,g3⟩:=dN.X1 i (p'.rw m) s (rwn i m hi) hs;refine⟨g1.mono (λ_ _=>rfl) VL (λ_ _=>rfl),g3,λg hg=>?_⟩;rcases eC _ (Sd m hm) g hg with h1 |⟨v,hv,he⟩
    ·exact .inl (bO R.size h1)
    ·obtain⟨k,hk,rfl⟩:=CY hv
     exact(R.yI (hτ k hk) he).1
   ·have h':get (M3 τ st.vec) m=some s:=by rw[← h];exact((xD PB hυ).2 hm).symm
    rw[Fp] at h';split at h'
    ·cases h'
    ·rename_i ht
     have Us:p.lv m:=(R.sT m).2 (by simp[St.lv,h']);exact E.vec (R.vec m s h') (WL m hm) (λg hg=>hf.block _ (R.yI Us hg).2 (λh'=>by
      obtain⟨n,qI,e⟩:=VN h';exact R.my n m (hσ n qI) Us (by rw[hg,e])) (VF _ λk hk e=>by
      have Qx:m≠k:=λe'=>ht (e'▸hk)
      rcases R.mX m k Us (hτ k hk) Qx with h0 |h0
      ·rw[h0] at hg;cases hg
      ·exact h0 (by rw[hg,e])))
  oF:=R.oF
  my:=λn m qI hm=>by
   rcases hm with hm |⟨h1,h2⟩
   ·exact zx n qI _ (Sd m hm)
   ·rw[WL m (nu m h1 h2)];exact R.my n m qI h2
  mX:=λn m qI hm Hu=>by
   rcases qI with qI |⟨a1,a2⟩ <;> rcases hm with hm |⟨b1,b2⟩
   ·obtain⟨i,hi⟩:=bJ.1 qI
    obtain⟨j,hj⟩:=bJ.1 hm;exact dN.OR i j _ _ (rwn i n hi) (rwn j m hj) (λe=>Hu (by subst e;rw[hi] at hj;cases hj;rfl))
   ·rw[WL m (nu m b1 b2)]
    cases hg:(p'.rw n).fN with
    |none=>exact .inl rfl
    |some g=>exact .inr (λe=>hvo m b1 b2 _ (Sd n qI) g hg e.symm)
   ·rw[WL n (nu n a1 a2)]
    cases hg:(p.rw n).fN with
    |none=>exact .inl rfl
    |some g=>exact .inr (λe=>hvo n a1 a2 _ (Sd m hm) g e.symm hg)
   ·rw[WL n (nu n a1 a2),WL m (nu m b1 b2)];exact R.mX n m a2 b2 Hu }
theorem tw {f:FuncId} {o:Oper} {c:Call} {y:Operand} {cs:Array Value} (ho:o.op=.call c) (hc:c.callee=.value y) (hy:a.eval y=.func (.func f) #[] cs) (jz:∀(args:Array Value) (w:World),(callFunc f args).run P w=.ok (.enter f args) w):
  (execOp a.eval o).run P w=.ok (.enter f (c.args.map a.eval++cs)) w:=by
 simp[execOp,ho,resolve,hc,hy,Deferred.ofValue,invoke,jz]
theorem Ki {α β:Type} {f:α→β} {l:List α} (h:l.Nodup) (hf:∀n∈l,∀m∈l,f n=f m→n=m):(l.map f).Nodup:=by
 induction l with
 |nil=>simp
 |cons x l ih=>
  rw[dZ] at h;rw[aW,dZ];refine⟨λhm=>?_,ih h.2 (λn hn m hm=>hf n (by simp[hn]) m (by simp[hm]))⟩;obtain⟨y,hy,e⟩:=aG.1 hm;exact h.1 (hf y (by simp[hy]) x (by simp) e▸hy)
structure FR (st:St) (ops:Array Oper) (o:Oper) (c:Call) (y:Operand) (f:FuncId) (σ τ υ:List Nat) (bx:List (List AV)) (vx:List VS) (fb:List AV) (bx':List (List AV)) (vx':List VS) (d:Nat):Prop where
 gd:pW ops st o=some true
 dn:d < st.nt
 Yx:σ.Nodup
 ndτ:τ.Nodup
 ndυ:υ.Nodup
 fn:∃caps,ca st y=.fn f caps∧(c.args.toList.map (ca st)++caps).map (AV.view [] τ σ)=fb
 bxs:lI st τ σ σ bx
 vxs:sQ st τ vx
 len:bx.length=bx'.length
 WY:υ.length=vx'.length
 fresh:∀n∈υ,n∈τ∨get st.vec n=none
theorem yW (R:Rel K st a w p) {y:Operand} {f:FuncId} {caps:List AV} (h:ca st y=.fn f caps):∃cs:Array Value,a.eval y=.func (.func f) #[] cs∧cs.size=caps.length∧∀(i:Nat) (x:AV) (v:Value),caps[i]? =some x→cs[i]? =some v→RA w (dx K w p) p x v:=by
 have hy:=R.ca y;rw[h] at hy;generalize a.eval y=v at hy ⊢;cases hy with
 |fn hl hh=>exact⟨_,rfl,hl,hh⟩
theorem Jb (R:Rel K st a w p) {args:Array Operand} {caps:List AV} {cs:Array Value} (hl:cs.size=caps.length) (h:∀(i:Nat) (x:AV) (v:Value),caps[i]? =some x→cs[i]? =some v→RA w (dx K w p) p x v):
  (args.map a.eval++cs).size=(args.toList.map (ca st)++caps).length∧∀(i:Nat) (x:AV) (v:Value),(args.toList.map (ca st)++caps)[i]? =some x→(args.map a.eval++cs)[i]? =some v→RA w (dx K w p) p x v:=by
 refine⟨by simp[hl],λi x v hx hv=>?_⟩;rw[cX] at hx;rw[oV] at hv;simp only[bq,kE,Array.size_map] at hx hv;split at hx
 ·rw[ai ‹_›] at hv
  simp only[aA,aP,bo] at hx;obtain⟨q,hq,rfl⟩:=hx;rw[Array.getElem?_map,hq] at hv;cases hv;exact R.ca q
 ·rw[ah ‹_›] at hv
  exact h _ x v hx hv
def T8 (G:List Value→List Value→Prop) (P:Program) (f:FuncId) (bx:List (List AV)) (vx:List VS) (args:List AV) (res:AV) (bx':List (List AV)) (vx':List VS):Prop:=
 ∀(w:World) (ok:Nat→Prop) (io:List Nat) (iv:List Value) (vs:Array Value),qP w ok io iv bx vx→vs.size=args.length→(∀(i:Nat) (x:AV) (v:Value),args[i]? =some x→vs[i]? =some v→RA w ok (dM io iv) x v)→mB P w ok→
  Calls P f vs w λe w'=>∃v iv',e=.returned v∧RA w' (Av ok iv iv' w w') (dM io iv') res v∧qP w' (Av ok iv iv' w w') io iv' bx' vx'∧(∀u∈iv',∀g,u.fN=some g→w.heap.size≤g∨∃v∈iv,v.fN=some g)∧T7 io iv w w'∧G iv iv'
theorem nV.g {f:FuncId} {bx:List (List AV)} {vx:List VS} {fb:List AV} {res:AV} {bx':List (List AV)} {vx':List VS} (C:nV P f bx vx fb res bx' vx'):T8 (λ_ _=>True) P f bx vx fb res bx' vx':=
 λw ok io iv vs h1 h2 h3 h4=>(C w ok io iv vs h1 h2 h3 h4).mono λe w' ⟨v,iv',a,b,c,d,e⟩=>⟨v,iv',a,b,c,d,e,trivial⟩
theorem Am {G:List Value→List Value→Prop} {f:FuncId} {bx:List (List AV)} {vx:List VS} {fb:List AV} {res:AV} {bx':List (List AV)} {vx':List VS} (C:T8 G P f bx vx fb res bx' vx') (R:Rel K st a w p) {o:Oper} {c:Call} {y:Operand} {σ τ υ:List Nat} {d:Nat}
  (H:FR st ops o c y f σ τ υ bx vx fb bx' vx' d) {cs:Array Value} (je:∃caps:List AV,cs.size=caps.length∧(∀(i:Nat) (x:AV) (v:Value),caps[i]? =some x→cs[i]? =some v→RA w (dx K w p) p x v)∧(c.args.toList.map (ca st)++caps).map (AV.view [] τ σ)=fb):
  Calls P f (c.args.map a.eval++cs) w λe w'=>∃v p',e=.returned v∧Rel K (lX st σ τ υ bx' vx') a w' p'∧RA w' (dx K w' p') p' (res.back υ σ) v∧∃iv',G (τ.map p.rw) iv'∧(∀(i n:Nat),υ[i]? =some n→p'.lv n∧iv'[i]? =some (p'.rw n))∧∀n,p.lb n→n∉σ→w'.heap[p'.bx n]? =w.heap[p.bx n]? :=by
 obtain⟨caps,hl,hh,eZ⟩:=je;obtain⟨gS,tV⟩:=Jb (args:=c.args) R hl hh;obtain⟨hlen,uq⟩:=C8 H.bxs;obtain⟨YV,KC⟩:=rJ H.vxs;have vO:∀n∈σ,p.lb n:=λn hn=>by
  obtain⟨i,hi,rfl⟩:=cu hn;obtain⟨rF,h1,_⟩:=uq i σ[i] _ (ae hi) (ae (by omega));exact(R.vg _).2 (by simp[St.lb,h1])
 have hτ:∀n∈τ,p.lv n:=λn hn=>by
  obtain⟨i,hi,rfl⟩:=cu hn;exact(R.sT _).2 (by simp[St.lv,KC (ae hi) (ae (by omega))])
 have Hs:∀{x:AV} {v:Value},RA w (dx K w p) p x v→RA w (dx K w p) (dM (σ.map p.bx) (τ.map p.rw)) (x.view [] τ σ) v:=λh=>h.view (λ_ h=>h) (λn s hs=>by simp[get] at hs)
 have dN:qP w (dx K w p) (σ.map p.bx) (τ.map p.rw) bx vx:={
  len:=by simpa using hlen
  nodup:=Ki H.Yx (λn hn m hm e=>ep λiA=>R.oF n m (vO n hn) (vO m hm) iA e)
  px:=λb hb=>⟨hb.1,λhm=>by obtain⟨n,hn,rfl⟩:=aG.1 hm;exact hb.2.2.1 n (vO n hn) rfl,λv hv e=>by obtain⟨n,hn,rfl⟩:=aG.1 hv;exact hb.2.2.2 n (hτ n hn) e⟩
  at_:=λi b cs hb je=>by
   rw[aA] at hb;simp only[aP] at hb;obtain⟨n,hn,rfl⟩:=hb;obtain⟨rF,h1,h2⟩:=uq i n cs hn je;obtain⟨⟨vs,ty,g1,g2,g3,g4⟩,_⟩:=R.box n rF h1;refine⟨⟨vs,ty,g1,by rw[g2,←h2,tB];simp,λj x v hx hv=>?_,g4⟩⟩;rw[← h2,tB] at hx;simp only[aA,aP] at hx;obtain⟨q,hq,rfl⟩:=hx;exact Hs (g3 j q v hq hv)
  xj:=by simpa using YV
  X1:=λi v s hv hs=>by
   rw[aA] at hv;simp only[aP] at hv;obtain⟨n,hn,rfl⟩:=hv;obtain⟨a1,a3,_⟩:=R.vec n s (KC hn hs);exact⟨a1,a3⟩
  OR:=λi j v u hv hu rY=>by
   rw[aA] at hv hu;simp only[aP] at hv hu;obtain⟨n,hn,rfl⟩:=hv;obtain⟨m,hm,rfl⟩:=hu;refine R.mX n m (hτ n (bm hn)) (hτ m (bm hm)) (λe=>rY ?_);subst e;exact(pn (aj.1 hn).1 H.ndτ).1 (hn.trans hm.symm)
  WE:=λv hv b hb=>by
   obtain⟨n,hn,rfl⟩:=aG.1 hv;obtain⟨m,hm,rfl⟩:=aG.1 hb;exact R.my m n (vO m hm) (hτ n hn)}
 refine(C w (dx K w p) (σ.map p.bx) (τ.map p.rw) (c.args.map a.eval++cs) dN (by rw[← eZ,gS,bq]) (λi x v hx hv=>?_) R.KR).mono λe w' he=>?_
 ·rw[← eZ,aA] at hx
  simp only[aP] at hx;obtain⟨q,hq,rfl⟩:=hx;exact Hs (tV i q v hq hv)
 ·obtain⟨v,iv',rfl,rV,KH,eC,PO,hG⟩:=he
  obtain⟨p',R',gD,hbk,hvk,hbe⟩:=R.I6 H.Yx vO (hlen.trans H.len) hτ H.ndυ H.WY (λn hn=>(H.fresh n hn).imp id (λh h'=>by
   have:=(R.sT n).1 h';simp[St.lv,h] at this)) PO KH eC
  refine⟨v,p',rfl,R',rV.back gD hbk hvk,iv',hG,hvk,λn hn Ur=>?_⟩;rw[hbe];refine PO.block _ (R.blt hn) (λhm=>?_) (λv hv e=>?_)
  ·obtain⟨m,hm,e⟩:=aG.1 hm
   exact R.oF m n (vO m hm) hn (λe2=>Ur (e2▸hm)) e
  ·obtain⟨m,hm,rfl⟩:=aG.1 hv
   exact R.my n m hn (hτ m hm) e
theorem HH {f:FuncId} {bx:List (List AV)} {vx:List VS} {fb:List AV} {res:AV} {bx':List (List AV)} {vx':List VS} (C:nV P f bx vx fb res bx' vx') (R:Rel K st a w p) {o:Oper} {c:Call} {y:Operand} {σ τ υ:List Nat} {d:Nat}
  (H:FR st ops o c y f σ τ υ bx vx fb bx' vx' d) {cs:Array Value} (je:∃caps:List AV,cs.size=caps.length∧(∀(i:Nat) (x:AV) (v:Value),caps[i]? =some x→cs[i]? =some v→RA w (dx K w p) p x v)∧(c.args.toList.map (ca st)++caps).map (AV.view [] τ σ)=fb):
  Calls P f (c.args.map a.eval++cs) w λe w'=>∃v p',e=.returned v∧Rel K (lX st σ τ υ bx' vx') a w' p'∧RA w' (dx K w' p') p' (res.back υ σ) v:=
 (Am C.g R H je).mono λe w' ⟨v,p',a,b,c,_⟩=>⟨v,p',a,b,c⟩
theorem DX {f:FuncId} {bx:List (List AV)} {vx:List VS} {fb:List AV} {res:AV} {bx':List (List AV)} {vx':List VS} {o:Oper} {c:Call} {y:Operand} {l:List Oper} {d:Nat} (σ τ υ:List Nat) (C:nV P f bx vx fb res bx' vx') (ho:o.op=.call c) (hc:c.callee=.value y) (hd:o.dst=some d)
  (jz:∀(args:Array Value) (w:World),(callFunc f args).run P w=.ok (.enter f args) w) (H:FR st ops o c y f σ τ υ bx vx fb bx' vx' d)
  (h:fc P K ops l ((lX st σ τ υ bx' vx').put d (res.back υ σ)) Q):fc P K ops (o::l) st Q:=by
 intro a w p R;unfold wpList;rw[fH R H.gd,ai rfl];refine .inl ?_;unfold Oper.wp;obtain⟨caps,hf,eZ⟩:=H.fn;obtain⟨cs,hy,hl,hh⟩:=yW R hf;rw[tw ho hc hy jz];show Calls P f (c.args.map a.eval++cs) w _;refine(HH C R H ⟨caps,hl,hh,eZ⟩).mono λe w' ⟨v,p',he,R',hv⟩=>?_
 subst he;show wpList P ops (FZ K Q) l (a.put o.dst v) w';rw[hd];exact h _ _ _ (R'.put hv H.dn)
theorem OU {f:FuncId} {bx:List (List AV)} {fb:List AV} {res:AV} {bx':List (List AV)} {o:Oper} {c:Call} {l:List Oper} {d:Nat} (σ:List Nat) (C:dY P f bx fb res bx') (hg:pW ops st o=some true) (ho:o.op=.call c) (hc:c.callee=.value (.func f)) (hd:o.dst=some d)
  (jz:∀(args:Array Value) (w:World),(callFunc f args).run P w=.ok (.enter f args) w) (nW:d < st.nt) (hσ:σ.Nodup) (eZ:(c.args.toList.map (ca st)).map (AV.view [] [] σ)=fb) (sX:lI st [] σ σ bx) (hl:bx.length=bx'.length)
  (h:fc P K ops l ({ st with box:=iw [] σ σ bx' st.box }.put d (res.back [] σ)) Q):fc P K ops (o::l) st Q:=
 DX σ [] [] C ho hc hd jz ⟨hg,nW,hσ,dL,dL,⟨[],rfl,by rw[kj];exact eZ⟩,sX,trivial,hl,rfl,λn hn=>by simp at hn⟩ h
theorem LY {f:FuncId} {fb:List AV} {res:AV} {o:Oper} {c:Call} {y:Operand} {l:List Oper} {d:Nat} (C:dY P f [] fb res []) (hg:pW ops st o=some true) (ho:o.op=.call c) (hc:c.callee=.value y) (hd:o.dst=some d)
  (jz:∀(args:Array Value) (w:World),(callFunc f args).run P w=.ok (.enter f args) w) (nW:d < st.nt) (eZ:∃caps,ca st y=.fn f caps∧(c.args.toList.map (ca st)++caps).map (AV.view st.vec [] [])=fb)
  (h:fc P K ops l (st.put d res.QA) Q):fc P K ops (o::l) st Q:=by
 intro a w p R;unfold wpList;rw[fH R hg,ai rfl];refine .inl ?_;unfold Oper.wp;obtain⟨caps,hf,eZ⟩:=eZ;obtain⟨cs,hy,hl,hh⟩:=yW R hf;rw[tw ho hc hy jz];show Calls P f (c.args.map a.eval++cs) w _;obtain⟨gS,tV⟩:=Jb (args:=c.args) R hl hh
 let nf:Nat→Prop:=λb=>dx K w p b∨∃n,p.lv n∧(p.rw n).fN=some b
 have Hs:∀{x:AV} {v:Value},RA w (dx K w p) p x v→RA w nf (dM [] []) (x.view st.vec [] []) v:=λh=>h.view (τ:=[]) (σ:=[]) (λ_ h=>.inl h) (λn s hs hn=>by
  obtain⟨sJ,hz,_⟩:=R.vec n s hs;refine⟨λhM=>?_,λhM=>?_⟩
  ·obtain⟨xs,eC,rD⟩:=sJ.row hM
   exact EE eC hz rD (λ_ h=>.inl h) (λg hg=>.inr ⟨n,hn,hg⟩)
  ·obtain⟨b,es,clock,e1,e2,e3⟩:=sJ.map hM
   rw[e1];exact .ofMap hM hz e2 (.inr ⟨n,hn,by rw[e1];rfl⟩) (e3.mono (λ_ _=>rfl) λ_ h=>.inl h))
 have dN:qP w nf [] [] [] []:={
  len:=rfl
  nodup:=dL
  px:=λb hb=>⟨by rcases hb with hb |⟨n,hn,hb⟩;exact hb.1;exact(R.yI hn hb).2,by simp,by simp⟩
  at_:=λi b cs hb=>by simp at hb
  xj:=rfl
  X1:=λi b cs hb=>by simp at hb
  OR:=λi j v u hb=>by simp at hb
  WE:=λv hv=>by simp at hv }
 refine(C w nf [] [] (c.args.map a.eval++cs) dN (by rw[← eZ,gS,bq]) (λi x v hx hv=>?_) (λb i x h=>⟨.inl (R.KR b i x h).1,(R.KR b i x h).2⟩)).mono λe w' he=>?_
 ·rw[← eZ,aA] at hx
  simp only[aP] at hx;obtain⟨q,hq,rfl⟩:=hx;exact Hs (tV i q v hq hv)
 ·obtain⟨v,iv',rfl,aca,KH,eC,PO⟩:=he
  have Hv:iv'=[]:=aI KH.xj;subst Hv;obtain⟨p',R',_⟩:=R.I6 (σ:=[]) (τ:=[]) (υ:=[]) (bx':=[]) (vx':=[]) (iv':=[]) dL (λn hn=>by simp at hn) rfl (λn hn=>by simp at hn) dL rfl (λn hn=>by simp at hn) PO
   ⟨rfl,dL,λb hb=>⟨hb.2.1,by simp,by simp⟩,λi b cs hb=>by simp at hb,rfl,λi v s hv=>by simp at hv,λi j v u hv=>by simp at hv,λv hv=>by simp at hv⟩ (λu hu=>by simp at hu)
  show wpList P ops (FZ K Q) l (a.put o.dst v) w';rw[hd];exact h _ _ _ (Rel.put (st:=st) R' aca.QA nW)
end
end Go.Vl
