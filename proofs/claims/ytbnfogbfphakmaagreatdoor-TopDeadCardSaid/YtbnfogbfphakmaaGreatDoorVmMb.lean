/- The value logic, part 9b: maps: keys, entries, and the operations on them. Conditions: none. -/
import Derived.Test.YtbnfogbfphakmaaGreatDoorVmMa
import Derived.MapKept
import Derived.WideKeyRuns
import Derived.Deep.LoopGhost
set_option linter.unusedSimpArgs false
set_option linter.unusedVariables false
namespace Go.Vl
open Go Go.RowKit
section
variable {P:Program} {K:Ctx P} {st:St} {a:Act} {w:World} {p:Pl} {ok:Nat→Prop}
theorem FA {x:AV} (h:Ir x=true):∃(k:IntKind) (n:Int),x=.d (.int k n):=by
 cases x with
 |d d=>cases d <;> simp[Ir] at h;exact⟨_,_,rfl⟩
 |_=>simp[Ir] at h
theorem QF {e:TypeId} {k:IntKind} (hu:P.underlying e=some (.int k)) {cs:Array Value} {o:Nat} {z:Value} (hz:cs[o]? =some z):(part e cs o).run P w=.ok z w:=by
 simp[part,isAgg,run_underlying hu,hz]
theorem FB {kt:TypeId} {ka:Bool} {k:AV} {v:Value} (h:Fj P kt ka k=true) (hr:RA w ok p k v) (e:Bool):(Instr.checkKey e 10000 kt v).run P w=.ok () w:=by
 unfold Fj at h
 split at h
 ·split at h
  case h_2=>cases h
  rename_i n el l hu
  simp only[Bool.and_eq_true,decide_eq_true_eq,List.all_eq_true] at h
  obtain⟨⟨⟨h1,h2⟩,h3⟩,h4⟩:=h
  split at h3
  case h_2=>cases h3
  rename_i kk hue
  cases hr with
  |agg hl hx h1=>
   rename_i cs
   have hi:∃i,P.info? el=some i∧i.size=1:=by
    unfold Ad at h2
    cases hi:P.info? el with
    |none=>simp[hi] at h2
    |some i=>exact⟨i,rfl,by simpa[hi] using h2⟩
   obtain⟨i,hi,hsz⟩:=hi
   rw[show (10000:Nat)=9999+1 from rfl,Instr.checkKey]
   simp only[Sem.run_bind,run_underlying hu,Result.andThen_ok]
   simp only[Std.Legacy.Range.forIn_eq_forIn_range',Std.Legacy.Range.size,Nat.sub_zero,Nat.add_one_sub_one,Nat.div_one]
   have hcl:P.cellsOf el=1:=by simp[Program.cellsOf,hi,hsz]
   have each:∀j∈List.range' 0 n,∃z:Value,cs[j * P.cellsOf el]? =some z∧∃(k0:IntKind) (m:Int),z=Value.int k0 m:=fun j hj=>by
    have hj':j < n:=by simpa using hj
    rw[hcl,Nat.mul_one]
    have hjc:j < cs.size:=by omega
    obtain⟨k0,m,e0⟩:=FA (h4 l[j] (List.getElem_mem (by omega)))
    have:=hx j l[j] cs[j] (List.getElem?_eq_getElem (by omega)) (by simp[hjc])
    rw[e0] at this
    refine⟨cs[j],by simp[hjc],k0,m,?_⟩
    generalize cs[j]=u at this
    cases this with |d hd=>cases hd;rfl
   generalize List.range' 0 n=is at each
   induction is with
   |nil=>simp
   |cons j is ih=>
    obtain⟨z,hz,k0,m,rfl⟩:=each j (by simp)
    have p1:=QF (w:=w) hue hz
    have p2:(Instr.checkKey e 9999 el (.int k0 m)).run P w=.ok () w:=by
     rw[show (9999:Nat)=9998+1 from rfl,Instr.checkKey]
     simp only[Sem.run_bind,run_underlying hue,Result.andThen_ok]
     rfl
    simp only[List.forIn_cons,Sem.run_bind,run_sizeOf w hi,Result.andThen_ok,p1,p2,Sem.run_pure]
    exact ih (fun y hy=>each y (by simp[hy]))
 ·split at h
  ·rename_i k0 k1 n hu
   cases hr with |d hd=>cases hd with |int=>
   rw[show (10000:Nat)=9999+1 from rfl,Instr.checkKey]
   simp only[Sem.run_bind,run_underlying hu,Result.andThen_ok];rfl
  ·rename_i s hu
   cases hr with |d hd=>cases hd with |str=>
   rw[show (10000:Nat)=9999+1 from rfl,Instr.checkKey]
   simp only[Sem.run_bind,run_underlying hu,Result.andThen_ok];rfl
  ·rename_i b hu
   cases hr with |d hd=>cases hd with |bool=>
   rw[show (10000:Nat)=9999+1 from rfl,Instr.checkKey]
   simp only[Sem.run_bind,run_underlying hu,Result.andThen_ok];rfl
  ·cases h
theorem QG {ds:List D} {v:Value} (h:Ar w ok true ds v):RA w ok p (.agg (ds.map .d)) v:=by
 unfold Ar at h
 rw[if_pos rfl] at h
 obtain⟨cs,rfl,h1,h2⟩:=h
 have key:∀(i:Nat) (v:Value),cs[i]? =some v→∃d,ds[i]? =some d∧RD w ok d v:=fun i v hv=>by
  have hi:i < cs.size:=(Array.getElem?_eq_some_iff.1 hv).1
  have hd:ds[i]? =some (ds[i]'(by omega)):=List.getElem?_eq_getElem (by omega)
  exact⟨_,hd,h2 i _ v hd hv⟩
 refine .agg (by simpa using h1) (fun i a v ha hv=>?_) fun i v hv=>?_
 ·obtain⟨d,hd,hr⟩:=key i v hv
  simp only[List.getElem?_map,hd,Option.map_some,Option.some.injEq] at ha
  subst ha
  exact .d hr
 ·obtain⟨d,_,hr⟩:=key i v hv
  exact hr.one
theorem O7 {t:TypeId} {l l':List AV} {r:Bool} (h:eqA P t l l'=some r) {u v:Value} (hu:RA w ok p (.agg l) u) (hv:RA w ok p (.agg l') v):(Op.equal t u v).run P w=.ok r w:=by
 cases hu with
 |agg hl hx hx1=>
  rename_i xs
  cases hv with
  |agg hl' hy hy1=>
   rename_i ys
   have hx':∀(i:Nat) (a:AV),l[i]? =some a→∃v,xs[0+i]? =some v∧RA w ok p a v:=fun i a ha=>by
    have hi:i < xs.size:=by have:=(List.getElem?_eq_some_iff.1 ha).1;omega
    exact⟨xs[i],by simp[hi],hx i a _ ha (by simp[hi])⟩
   have hy':∀(i:Nat) (a:AV),l'[i]? =some a→∃v,ys[0+i]? =some v∧RA w ok p a v:=fun i a ha=>by
    have hi:i < ys.size:=by have:=(List.getElem?_eq_some_iff.1 ha).1;omega
    exact⟨ys[i],by simp[hi],hy i a _ ha (by simp[hi])⟩
   unfold eqA at h
   split at h
   ·cases h
   split at h
   ·rename_i fs hs
    split at h
    ·cases h
    rename_i hp
    have hfs:P.fieldsOf t=fs:=by simp[Program.fieldsOf,hs]
    have:=run_equalIn_struct (P:=P) w 9999 t xs ys (by rw[hfs];exact hs) (by simpa using hp)
    rw[hfs] at this
    exact this.trans (Hj 9997 fs.toList 0 l l' r h hx' hy')
   ·rename_i n e hs
    split at h
    case isFalse=>cases h
    rename_i hh
    obtain⟨hz,hn⟩:=hh
    have hi:∃i,P.info? e=some i:=by
     unfold Ad at hz
     cases hi:P.info? e with
     |none=>simp[hi] at hz
     |some i=>exact⟨i,rfl⟩
    obtain⟨i,hi⟩:=hi
    have hc:P.cellsOf e=1:=by simp[Ad,hi] at hz;simp[Program.cellsOf,hi,hz]
    have:=run_equalIn_array (P:=P) w 9999 xs ys hs hi
    rw[hc,List.range_eq_range',←hn] at this
    exact this.trans (Ii 9998 l l' 0 r h hx' hy')
   ·cases h
theorem My {kt:TypeId} {kd:TypeDesc} (hu:P.underlying kt=some kd) {k:AV} {d:D} {b:Bool} (h:Ba P kt k (.d d)=some b) {v u:Value} (hv:RA w ok p k v) (hd:RD w ok d u):Instr.sameNow kd v u=some b:=by
 unfold Ba at h
 rw[hu] at h
 split at h
 ·rename_i q0 q a q' b' e1 e2
  split at h
  case isFalse=>cases h
  rename_i hk
  cases h
  cases e1
  cases e2
  subst hk
  cases hv with |d hv=>cases hv with |int=>cases hd with |int=>simp[Instr.sameNow]
 ·rename_i a b' e1 e2
  cases h;cases e1;cases e2
  cases hv with |d hv=>cases hv with |bool=>cases hd with |bool=>rfl
 ·rename_i a b' e1 e2
  cases h;cases e1;cases e2
  cases hv with |d hv=>cases hv with |str=>cases hd with |str=>simp[Instr.sameNow,beq_toListBytes]
 ·cases h
def HE (P:Program) (kt:TypeId) (ka:Bool) (kz:Nat) (k:AV) (rows:List (List D)) (es:List MapEntry) (i:Nat) (o:Option (Nat×List D)) (r:Option (Nat×Value)):Prop:=
 match o with
 |none=>r=none
 |some q=>∃(e:MapEntry) (row:List D),es[q.1]? =some e∧rows[q.1]? =some row∧q.2=row.drop kz∧IG P kt ka k (row.take kz)=some true∧r=some (i+q.1,e.val)
theorem HE.cons {kt:TypeId} {ka:Bool} {kz:Nat} {k:AV} {rows:List (List D)} {es:List MapEntry} {i:Nat} {o:Option (Nat×List D)} {r:Option (Nat×Value)} (h:HE P kt ka kz k rows es (i+1) o r) (row:List D) (e:MapEntry):HE P kt ka kz k (row::rows) (e::es) i (o.map fun q=>(q.1+1,q.2)) r:=by
 cases o with
 |none=>exact h
 |some q=>
  obtain⟨e',row',h1,h2,h3,h4,h5⟩:=h
  exact⟨e',row',by simpa using h1,by simpa using h2,h3,h4,by rw[h5];congr 2;simp only;omega⟩
theorem F4 {kt:TypeId} {ka:Bool} {kz:Nat} {k:AV} {v:Value} (hkb:Fj P kt ka k=true) (hv:RA w ok p k v) {rows:List (List D)} {es:List MapEntry} (hl:es.length=rows.length)
  (hr:∀(j:Nat) (row:List D) (e:MapEntry),rows[j]? =some row→es[j]? =some e→Ar w ok ka (row.take kz) e.key) {o:Option (Nat×List D)} (h:B5 P kt ka kz k rows=some o):
  ∃r,(Instr.findKey kt v es).run P w=.ok r w∧HE P kt ka kz k rows es 0 o r:=by
 cases ka with
 |true=>
  have hwide:(match P.underlying kt with |some (.array _ _) |some (.struct _)=>true |_=>false)=true:=by
   unfold Fj at hkb
   rw[if_pos rfl] at hkb
   split at hkb
   ·rename_i n e l hu;rw[hu]
   ·cases hkb
  rw[run_findKey_eq w hwide]
  have key:∀(rows:List (List D)) (es:List MapEntry) (i:Nat) (o:Option (Nat×List D)),es.length=rows.length→(∀(j:Nat) (row:List D) (e:MapEntry),rows[j]? =some row→es[j]? =some e→Ar w ok true (row.take kz) e.key)→B5 P kt true kz k rows=some o→
    ∃r,(Instr.findAsking kt v es i).run P w=.ok r w∧HE P kt true kz k rows es i o r:=fun rows=>by
   induction rows with
   |nil=>
    intro es i o hl _ h
    have:es=[]:=List.eq_nil_of_length_eq_zero (by simpa using hl)
    subst this
    simp only[B5,Option.some.injEq] at h
    subst h
    exact⟨none,by simp[Instr.findAsking],rfl⟩
   |cons row rows ih=>
    intro es i o hl hr h
    cases es with
    |nil=>simp at hl
    |cons e es=>
     simp only[B5] at h
     cases hb:IG P kt true k (row.take kz) with
     |none=>simp[hb] at h
     |some b=>
      simp only[hb,Option.bind_some] at h
      have hk:=QG (p:=p) (hr 0 row e rfl rfl)
      have he:(Op.equal kt v e.key).run P w=.ok b w:=by
       have hb':=hb
       unfold IG at hb'
       rw[if_pos rfl] at hb'
       cases k with
       |agg l=>exact O7 hb' hv hk
       |_=>simp at hb'
      cases b with
      |true=>
       rw[if_pos rfl] at h
       cases h
       exact⟨some (i,e.val),by simp[Instr.findAsking,he,Result.andThen],e,row,rfl,rfl,rfl,hb,rfl⟩
      |false=>
       rw[if_neg (by decide)] at h
       cases ho:B5 P kt true kz k rows with
       |none=>simp[ho] at h
       |some o'=>
        simp only[ho,Option.map_some,Option.some.injEq] at h
        subst h
        obtain⟨r,h1,h2⟩:=ih es (i+1) o' (by simpa using hl) (fun j row' e' h1 h2=>hr (j+1) row' e' (by simpa using h1) (by simpa using h2)) ho
        exact⟨r,by simp[Instr.findAsking,he,Result.andThen,h1],h2.cons row e⟩
  exact key rows es 0 o hl hr h
 |false=>
  obtain⟨kd,hu⟩:∃kd,P.underlying kt=some kd:=by
   unfold Fj at hkb
   rw[if_neg (by decide)] at hkb
   split at hkb
   ·rename_i hu;exact⟨_,hu⟩
   ·rename_i hu;exact⟨_,hu⟩
   ·rename_i hu;exact⟨_,hu⟩
   ·cases hkb
  have key:∀(rows:List (List D)) (es:List MapEntry) (i:Nat) (o:Option (Nat×List D)),es.length=rows.length→(∀(j:Nat) (row:List D) (e:MapEntry),rows[j]? =some row→es[j]? =some e→Ar w ok false (row.take kz) e.key)→B5 P kt false kz k rows=some o→
    ∃r,Instr.findNow kd v es i=some r∧HE P kt false kz k rows es i o r:=fun rows=>by
   induction rows with
   |nil=>
    intro es i o hl _ h
    have:es=[]:=List.eq_nil_of_length_eq_zero (by simpa using hl)
    subst this
    simp only[B5,Option.some.injEq] at h
    subst h
    exact⟨none,rfl,rfl⟩
   |cons row rows ih=>
    intro es i o hl hr h
    cases es with
    |nil=>simp at hl
    |cons e es=>
     simp only[B5] at h
     cases hb:IG P kt false k (row.take kz) with
     |none=>simp[hb] at h
     |some b=>
      simp only[hb,Option.bind_some] at h
      have hk:=hr 0 row e rfl rfl
      have he:Instr.sameNow kd v e.key=some b:=by
       have hb':=hb
       unfold IG at hb'
       rw[if_neg (by decide)] at hb'
       unfold Ar at hk
       rw[if_neg (by decide)] at hk
       obtain⟨d,hd,hrd⟩:=hk
       rw[hd] at hb'
       exact My hu hb' hv hrd
      cases b with
      |true=>
       rw[if_pos rfl] at h
       cases h
       exact⟨some (i,e.val),by simp[Instr.findNow,he],e,row,rfl,rfl,rfl,hb,rfl⟩
      |false=>
       rw[if_neg (by decide)] at h
       cases ho:B5 P kt false kz k rows with
       |none=>simp[ho] at h
       |some o'=>
        simp only[ho,Option.map_some,Option.some.injEq] at h
        subst h
        obtain⟨r,h1,h2⟩:=ih es (i+1) o' (by simpa using hl) (fun j row' e' h1 h2=>hr (j+1) row' e' (by simpa using h1) (by simpa using h2)) ho
        exact⟨r,by simp[Instr.findNow,he,h1],h2.cons row e⟩
  obtain⟨r,h1,h2⟩:=key rows es 0 o hl hr h
  exact⟨r,MapKept.run_findKey hu h1,h2⟩
theorem KN {e:TypeId}:∀(l:List AV) (ds:List D),(∀x∈l,Ir x=true)→G9 P e l (ds.map .d)=some true→l=ds.map .d
 |[],[],_,_=>rfl
 |[],d::ds,_,h=>by simp[G9] at h
 |x::l,[],_,h=>by simp[G9] at h
 |x::l,d::ds,hi,h=>by
  simp only[List.map_cons,G9] at h
  cases hb:Ba P e x (.d d) with
  |none=>simp[hb] at h
  |some b=>
   cases hr:G9 P e l (ds.map .d) with
   |none=>simp[hb,hr] at h
   |some r=>
    simp only[hb,hr,Option.bind_some,Option.map_some,Option.some.injEq,Bool.and_eq_true] at h
    obtain⟨rfl,rfl⟩:=h
    have ih:=KN l ds (fun x hx=>hi x (List.mem_cons_of_mem _ hx)) hr
    obtain⟨k,n,rfl⟩:=FA (hi x (List.mem_cons_self ..))
    unfold Ba at hb
    split at hb
    ·rename_i k0 k1 a k2 b e1 e2 e3
     split at hb
     case isFalse=>cases hb
     rename_i hk
     simp only[AV.d.injEq,D.int.injEq] at e2 e3
     obtain⟨rfl,rfl⟩:=e2
     simp only[Option.some.injEq,beq_iff_eq] at hb
     rw[List.map_cons,ih,e3,hk,hb]
    ·rename_i e2 _;cases e2
    ·rename_i e2 _;cases e2
    ·cases hb
theorem QH {kt:TypeId} {ka:Bool} {k:AV} {ds:List D} (hkb:Fj P kt ka k=true) (h:IG P kt ka k ds=some true) {v u:Value} (hv:RA w ok p k v) (hu:Ar w ok ka ds u):Instr.sameBits 10000 u v=true:=by
 cases ka with
 |true=>
  unfold Fj at hkb
  rw[if_pos rfl] at hkb
  unfold IG at h
  rw[if_pos rfl] at h
  split at hkb
  case h_2=>cases hkb
  rename_i n el l hut
  simp only[Bool.and_eq_true,decide_eq_true_eq,List.all_eq_true] at hkb
  obtain⟨⟨⟨h1,h2⟩,h3⟩,h4⟩:=hkb
  simp only at h
  unfold eqA at h
  split at h
  ·cases h
  rw[hut] at h
  simp only[h2,h1,true_and,if_true] at h
  have hl:=KN l ds h4 h
  unfold Ar at hu
  rw[if_pos rfl] at hu
  obtain⟨cs,rfl,c1,c2⟩:=hu
  cases hv with
  |agg e1 e2 e3=>
   rename_i cs2
   have hll:l.length=ds.length:=by rw[hl];simp
   have hsz:cs.size=cs2.size:=by omega
   rw[show (10000:Nat)=9999+1 from rfl]
   simp only[Instr.sameBits,hsz,beq_self_eq_true,Bool.true_and,List.all_eq_true]
   rintro⟨a,b⟩ hm
   obtain⟨i,hi,e⟩:=List.getElem_of_mem hm
   simp only[List.length_zip,Array.length_toList] at hi
   rw[List.getElem_zip,Prod.mk.injEq] at e
   obtain⟨rfl,rfl⟩:=e
   have hi1:i < cs.size:=by omega
   have hi2:i < cs2.size:=by omega
   have hil:i < l.length:=by omega
   have hid:i < ds.length:=by omega
   obtain⟨k0,m,e0⟩:=FA (h4 l[i] (List.getElem_mem hil))
   have ed:l[i]=.d ds[i]:=by simp[hl]
   have r1:=e2 i l[i] cs2[i] (List.getElem?_eq_getElem hil) (by simp[hi2])
   have r2:=c2 i ds[i] cs[i] (List.getElem?_eq_getElem hid) (by simp[hi1])
   rw[ed] at e0 r1
   simp only[AV.d.injEq] at e0
   rw[e0] at r1 r2
   simp only[Array.getElem_toList]
   generalize cs[i]=x at r2 ⊢
   generalize cs2[i]=y at r1 ⊢
   cases r2
   cases r1 with |d r1=>cases r1;simp[Instr.sameBits]
 |false=>
  unfold IG at h
  rw[if_neg (by decide)] at h
  unfold Ar at hu
  rw[if_neg (by decide)] at hu
  obtain⟨d,rfl,hrd⟩:=hu
  simp only at h
  unfold Ba at h
  split at h
  ·rename_i q0 q a q' b' e1 e2 e3
   split at h
   case isFalse=>cases h
   rename_i hk
   simp only[Option.some.injEq,beq_iff_eq] at h
   cases e3
   subst hk h
   cases hv with |d hv=>cases hv with |int=>cases hrd with |int=>simp[Instr.sameBits]
  ·rename_i a b' e1 e2 e3
   simp only[Option.some.injEq,beq_iff_eq] at h
   cases e3
   subst h
   cases hv with |d hv=>cases hv with |bool=>cases hrd with |bool=>simp[Instr.sameBits]
  ·rename_i e1 e2 e3
   simp only[Option.some.injEq] at h
   cases e3
   rw[← beq_toListBytes] at h
   have:=(MapKept.bytes_beq _ _).1 h
   subst this
   cases hv with |d hv=>cases hv with |str=>cases hrd with |str=>exact h
  ·cases h
theorem HG {ag:Bool} {ds:List D} {x:AV} (h:E7 ag ds=some x) {v:Value} (hv:Ar w ok ag ds v):RA w ok p x v:=by
 unfold E7 at h
 cases ag with
 |true=>
  rw[if_pos rfl] at h
  cases h
  exact QG hv
 |false=>
  rw[if_neg (by decide)] at h
  unfold Ar at hv
  rw[if_neg (by decide)] at hv
  obtain⟨d,rfl,hd⟩:=hv
  cases h
  exact .d hd
theorem Hm {ag:Bool} {x:AV} {ds:List D} (h:C3 ag x=some ds) {v:Value} (hv:RA w ok p x v):Ar w ok ag ds v:=by
 unfold C3 at h
 unfold Ar
 cases ag with
 |true=>
  rw[if_pos rfl] at h ⊢
  split at h
  case h_2=>cases h
  obtain⟨t1,t2⟩:=ED h
  cases hv with
  |agg e1 e2 e3=>
   refine⟨_,rfl,by omega,fun i d u hd hu=>?_⟩
   obtain⟨y,hy,hyd⟩:=t2 i d hd
   exact HC hyd (e2 i y u hy hu)
 |false=>
  rw[if_neg (by decide)] at h ⊢
  have:∃d,x.toD=some d∧ds=[d]:=by
   split at h
   ·cases h
   ·cases h
   ·cases hd:x.toD with
    |none=>simp[hd] at h
    |some d=>simp only[hd,Option.map_some,Option.some.injEq] at h;exact⟨d,rfl,h.symm⟩
  obtain⟨d,h1,h2⟩:=this
  exact⟨d,h2,HC h1 hv⟩
theorem QI {t:TypeId} {x:AV} (h:zeroV P t=some x):∃z,(zeroValue t).run P w=.ok z w∧RA w ok p x z:=by
 unfold zeroV at h
 cases hi:P.info? t with
 |none=>simp[hi] at h
 |some i=>
  cases hz:i.zero with
  |none=>simp[hi,hz] at h
  |some z=>
   simp only[hi,hz,Option.bind_some,Option.map_some,Option.some.injEq] at h
   subst h
   exact⟨z,by simp[zeroValue,typeInfo,hi,hz],(If _ _ _ z).fin0⟩
theorem K9 (R:Rel K st a w p) {n:Nat} {s s':VS} (hn:get st.vec n=some s) (hM:s.isM=true) (he:s'.e=s.e) {b:Nat} {es es':Array MapEntry} {clock clock':Nat} (hv:p.rw n=.map (some b)) (hb:w.heap[b]? =some (.map es clock))
  (hz:∀r∈s'.rows,r.length=s'.z) (hm:DD w (okc K w p) s' es' clock'):
  Rel K { st with vec:=(n,s')::st.vec } a { w with heap:=w.heap.setIfInBounds b (.map es' clock')} p:=by
 have hlt:b < w.heap.size:=(Array.getElem?_eq_some_iff.1 hb).1
 refine R.setIn hn (g:=b) (by rw[hv];rfl) ⟨rfl,rfl,rfl,by simp,fun k hk hne=>?_⟩ (Nat.le_refl _) hz fun ok' h1 h2=>?_
 ·have:¬b=k:=fun e=>hne (by rw[e])
  simp[Array.getElem?_setIfInBounds,this]
 ·refine .ofM (by unfold VS.isM at hM ⊢;rw[he];exact hM) ⟨b,es',clock',hv,by simp[hlt],hm.mono h1 h2⟩
theorem IU (R:Rel K st a w p) {x:Operand} {n:Nat} {s:VS} (hx:opd st x=.vec n) (hn:get st.vec n=some s) (hM:s.isM=true):∃(b:Nat) (es:Array MapEntry) (clock:Nat),a.eval x=.map (some b)∧p.rw n=.map (some b)∧w.heap[b]? =some (.map es clock)∧DD w (okc K w p) s es clock:=by
 have h1:=R.opd x
 rw[hx] at h1
 obtain⟨hat,hz,_⟩:=R.vec n s hn
 obtain⟨b,es,clock,e1,e2,e3⟩:=hat.map hM
 refine⟨b,es,clock,?_,e1,e2,e3⟩
 generalize a.eval x=v at h1
 cases h1
 exact e1
theorem DD.key {s:VS} {es:Array MapEntry} {clock:Nat} (h:DD w ok s es clock):es.toList.length=s.rows.length∧∀(j:Nat) (row:List D) (e:MapEntry),s.rows[j]? =some row→es.toList[j]? =some e→Ar w ok s.ka (row.take s.kz) e.key:=
 ⟨by simpa using h.size,fun j row e h1 h2=>(h.row j row e h1 (by simpa using h2)).1⟩
attribute [local irreducible] VS.kz VS.va VS.ka
theorem QJ (f g:VS→Bool) (k:VS→Nat) (s:VS) {r:List D} {u v:Value} (h:Ar w ok (f s) (r.take (k s)) u∧Ar w ok (g s) (r.drop (k s)) v):Ar w ok (g s) (r.drop (k s)) v:=h.2
theorem DD.val {s:VS} {es:Array MapEntry} {clock:Nat} (h:DD w ok s es clock) {j:Nat} {row:List D} {e:MapEntry} (h1:s.rows[j]? =some row) (h2:es.toList[j]? =some e):Ar w ok s.va (row.drop s.kz) e.val:=by
 have h2':es[j]? =some e:=by rw[← Array.getElem?_toList];exact h2
 exact QJ VS.ka VS.va VS.kz s (h.row j row e h1 h2')
theorem KO (R:Rel K st a w p) {o:Oper} {t kt et:TypeId} {x k:Operand} {okb:Bool} {v:AV} {s:VS} {b:Nat} {es:Array MapEntry} {clock:Nat} (ho:o.op=.lookup t x k okb) (hu:P.underlying t=some (.map kt et)) (hkb:Fj P kt s.ka (opd st k)=true)
  (e1:a.eval x=.map (some b)) (e3:w.heap[b]? =some (.map es clock)) (e4:DD w (okc K w p) s es clock) (hl:((B5 P kt s.ka s.kz (opd st k) s.rows).bind fun o=>Ly P et s.va okb o)=some v) {st':St} (h:Is st o.dst v=some st'):Stepped P K st' o a w:=by
 cases hf:B5 P kt s.ka s.kz (opd st k) s.rows with
 |none=>simp[hf] at hl
 |some q=>
  simp only[hf,Option.bind_some,Ly] at hl
  have hck:=FB hkb (R.opd k) es.isEmpty
  obtain⟨r,f1,f2⟩:=F4 hkb (R.opd k) e4.key.1 e4.key.2 hf
  have key:∃u,(Instr.lookup t (.map (some b)) (a.eval k) okb).run P w=.ok u w∧RA w (okc K w p) p v u:=by
   cases q with
   |none=>
    have hr:r=none:=f2
    subst hr
    cases hz:zeroV P et with
    |none=>simp[hz] at hl
    |some z=>
     simp only[hz,Option.map_some,Option.some.injEq,Option.isSome_none] at hl
     obtain⟨u,z1,z2⟩:=QI (w:=w) (ok:=okc K w p) (p:=p) hz
     subst hl
     cases okb with
     |true=>
      refine⟨.tuple #[u,.bool false],?_,.tup rfl fun i a v ha hv=>?_⟩
      ·simp[Instr.lookup,run_underlying hu,Result.andThen,MapKept.run_getObj_map e3,hck,f1,z1]
      ·match i with
       |0=>simp at ha hv;subst ha hv;exact z2
       |1=>simp at ha hv;subst ha hv;exact .d .bool
       |n+2=>simp at ha
     |false=>
      exact⟨u,by simp[Instr.lookup,run_underlying hu,Result.andThen,MapKept.run_getObj_map e3,hck,f1,z1],z2⟩
   |some q=>
    obtain⟨e,row,g1,g2,g3,g4,g5⟩:=f2
    subst g5
    have hp:=e4.val g2 g1
    cases hz:E7 s.va q.2 with
    |none=>simp[hz] at hl
    |some z=>
     simp only[hz,Option.map_some,Option.some.injEq,Option.isSome_some] at hl
     rw[g3] at hz
     have z2:=HG (p:=p) hz hp
     subst hl
     cases okb with
     |true=>
      refine⟨.tuple #[e.val,.bool true],?_,.tup rfl fun i a v ha hv=>?_⟩
      ·simp[Instr.lookup,run_underlying hu,Result.andThen,MapKept.run_getObj_map e3,hck,f1]
      ·match i with
       |0=>simp at ha hv;subst ha hv;exact z2
       |1=>simp at ha hv;subst ha hv;exact .d .bool
       |n+2=>simp at ha
     |false=>
      exact⟨e.val,by simp[Instr.lookup,run_underlying hu,Result.andThen,MapKept.run_getObj_map e3,hck,f1],z2⟩
  obtain⟨u,k1,k2⟩:=key
  exact⟨w,p,.inl ⟨u,by simp[execOp,ho,e1,k1],R.puto k2 h⟩⟩
theorem Mz (R:Rel K st a w p) {o:Oper} {t:TypeId} {x k:Operand} {okb:Bool} (ho:o.op=.lookup t x k okb) {st':St} (h:((En P st t (opd st x) (opd st k) okb).bind fun v=>Is st o.dst v)=some st'):Stepped P K st' o a w:=by
 cases hl:En P st t (opd st x) (opd st k) okb with
 |none=>simp[hl] at h
 |some v=>
  simp only[hl,Option.bind_some] at h
  unfold En at hl
  split at hl
  case h_3=>cases hl
  ·rename_i kt et n hu hx
   cases hn:get st.vec n with
   |none=>simp[hn] at hl
   |some s=>
    simp only[hn,Option.bind_some] at hl
    split at hl
    case isFalse=>cases hl
    rename_i hc
    obtain⟨hM,hkb⟩:=hc
    obtain⟨b,es,clock,e1,e2,e3,e4⟩:=IU R hx hn hM
    exact KO R ho hu hkb e1 e3 e4 hl h
  ·rename_i kt et e z rows hu hx
   split at hl
   case isFalse=>cases hl
   rename_i hkb
   have h1:=R.opd x
   rw[hx] at h1
   generalize hv:a.eval x=u at h1
   cases h1 with
   |d h1=>
    obtain⟨b,es,clock,rfl,e3,_,_,e4⟩:=h1.mp_inv
    exact KO R ho hu hkb hv e3 e4 hl h
theorem VS.same {s s':VS} (h:s'.e=s.e):s'.ka=s.ka∧s'.va=s.va∧s'.kz=s.kz∧s'.isM=s.isM:=by
 unfold VS.ka VS.va VS.kz VS.isM
 rw[h]
 exact⟨rfl,rfl,rfl,rfl⟩
theorem DD.row' {s:VS} {es:Array MapEntry} {clock:Nat} (h:DD w ok s es clock) {j:Nat} {row:List D} {e:MapEntry} (h1:s.rows[j]? =some row) (h2:es[j]? =some e):Ar w ok s.ka (row.take s.kz) e.key∧Ar w ok s.va (row.drop s.kz) e.val:=h.row j row e h1 h2
theorem QK {s s':VS} {es:Array MapEntry} {clock:Nat} (h:DD w ok s es clock) {i:Nat} {kd vd:List D} {kv vv:Value} (he:s'.e=s.e) (hr:s'.rows=s.rows.set i (kd++vd)) (hkz:kd.length=s.kz) (hk:Ar w ok s.ka kd kv) (hv:Ar w ok s.va vd vv):
  DD w ok s' (es.modify i fun e=>{ e with key:=kv,val:=vv }) clock:=by
 obtain⟨a1,a2,a3,_⟩:=VS.same he
 have hborn:(es.modify i fun e=>{ e with key:=kv,val:=vv }).toList.map (·.born)=es.toList.map (·.born):=by
  apply List.ext_getElem?
  intro j
  simp only[List.getElem?_map,Array.getElem?_toList,Array.getElem?_modify]
  by_cases hij:i=j
  ·subst hij
   cases he:es[i]? with
   |none=>simp
   |some e=>simp
  ·simp[hij]
 refine⟨by rw[Array.size_modify,h.size,hr,List.length_set],fun j row e h1 h2=>?_,fun x hx=>?_,by rw[hborn];exact h.nodup⟩
 ·rw[a1,a2,a3]
  rw[hr,List.getElem?_set] at h1
  rw[Array.getElem?_modify] at h2
  by_cases hij:i=j
  ·rw[if_pos hij] at h1 h2
   split at h1
   case isFalse=>cases h1
   cases h1
   cases hej:es[j]? with
   |none=>rw[hej] at h2;cases h2
   |some e0=>
    rw[hej] at h2
    cases h2
    rw[← hkz,List.take_left',List.drop_left'] <;> first |exact⟨hk,hv⟩ |rfl
  ·rw[if_neg hij] at h1 h2
   exact h.row' h1 h2
 ·have:x.born∈(es.modify i fun e=>{ e with key:=kv,val:=vv }).toList.map (·.born):=List.mem_map.2 ⟨x,hx,rfl⟩
  rw[hborn] at this
  obtain⟨y,hy,e⟩:=List.mem_map.1 this
  rw[← e];exact h.born y hy
theorem O8 {s s':VS} {es:Array MapEntry} {clock:Nat} (h:DD w ok s es clock) {kd vd:List D} {kv vv:Value} (he:s'.e=s.e) (hr:s'.rows=s.rows++[kd++vd]) (hkz:kd.length=s.kz) (hk:Ar w ok s.ka kd kv) (hv:Ar w ok s.va vd vv):
  DD w ok s' (es.push { key:=kv,val:=vv,born:=clock }) (clock+1):=by
 obtain⟨a1,a2,a3,_⟩:=VS.same he
 have hs:=h.size
 refine⟨by rw[Array.size_push,hr,List.length_append,hs];rfl,fun j row e h1 h2=>?_,fun x hx=>?_,?_⟩
 ·rw[a1,a2,a3]
  rw[hr] at h1
  rw[Array.getElem?_push] at h2
  by_cases hj:j < s.rows.length
  ·rw[List.getElem?_append_left hj] at h1
   rw[if_neg (by omega)] at h2
   exact h.row' h1 h2
  ·rw[List.getElem?_append_right (by omega)] at h1
   by_cases hj2:j=s.rows.length
   ·subst hj2
    rw[if_pos (by omega)] at h2
    simp only[Nat.sub_self,List.getElem?_cons_zero,Option.some.injEq] at h1
    cases h2
    subst h1
    rw[← hkz,List.take_left',List.drop_left'] <;> first |exact⟨hk,hv⟩ |rfl
   ·rw[List.getElem?_eq_none (by simp;omega)] at h1;cases h1
 ·simp only[Array.toList_push,List.mem_append,List.mem_singleton] at hx
  rcases hx with hx |rfl
  ·exact Nat.lt_succ_of_lt (h.born x hx)
  ·exact Nat.lt_succ_self _
 ·simp only[Array.toList_push,List.map_append,List.map_cons,List.map_nil]
  refine List.nodup_append.2 ⟨h.nodup,by simp,?_⟩
  intro a ha b hb
  simp only[List.mem_singleton] at hb
  subst hb
  obtain⟨x,hx,rfl⟩:=List.mem_map.1 ha
  exact Nat.ne_of_lt (h.born x hx)
theorem M0 {s s':VS} {es:Array MapEntry} {clock:Nat} (h:DD w ok s es clock) {i:Nat} (hi:i < s.rows.length) (he:s'.e=s.e) (hr:s'.rows=s.rows.eraseIdx i):DD w ok s' (es.eraseIdxIfInBounds i) clock:=by
 obtain⟨a1,a2,a3,_⟩:=VS.same he
 have hs:=h.size
 have hie:i < es.size:=by omega
 have e1:es.eraseIdxIfInBounds i=es.eraseIdx i hie:=by unfold Array.eraseIdxIfInBounds;rw[dif_pos hie]
 rw[e1]
 have hsub:(es.eraseIdx i hie).toList.Sublist es.toList:=by rw[Array.toList_eraseIdx];exact List.eraseIdx_sublist _ _
 refine⟨by rw[Array.size_eraseIdx,hr,List.length_eraseIdx,if_pos hi,hs],fun j row e h1 h2=>?_,fun x hx=>h.born x (hsub.subset hx),(hsub.map _).nodup h.nodup⟩
 rw[a1,a2,a3]
 rw[hr,List.getElem?_eraseIdx] at h1
 rw[← Array.getElem?_toList,Array.toList_eraseIdx,List.getElem?_eraseIdx] at h2
 split at h1
 ·rename_i hj
  rw[if_pos hj,Array.getElem?_toList] at h2
  exact h.row' h1 h2
 ·rename_i hj
  rw[if_neg hj,Array.getElem?_toList] at h2
  exact h.row' h1 h2
theorem KP (R:Rel K st a w p) {o:Oper} {t:TypeId} {x k y:Operand} (ho:o.op=.mapUpdate t x k y∨o.op=.insert t x k y) (hd:o.dst=none) {st':St} (h:QB P st t (opd st x) (opd st k) (opd st y)=some st'):Stepped P K st' o a w:=by
 unfold QB at h
 split at h
 case h_2=>cases h
 rename_i kt et n hu hx
 cases hn:get st.vec n with
 |none=>simp[hn] at h
 |some s=>
  simp only[hn,Option.bind_some] at h
  split at h
  case isFalse=>cases h
  rename_i hc
  obtain⟨hM,hkb⟩:=hc
  obtain⟨b,es,clock,e1,e2,e3,e4⟩:=IU R hx hn hM
  cases hkd:C3 s.ka (opd st k) with
  |none=>simp[hkd] at h
  |some kd=>
   cases hvd:C3 s.va (opd st y) with
   |none=>simp[hkd,hvd] at h
   |some vd=>
    simp only[hkd,hvd,Option.bind_some] at h
    split at h
    case isFalse=>cases h
    rename_i hz
    obtain⟨hkz,hvz⟩:=hz
    cases hf:B5 P kt s.ka s.kz (opd st k) s.rows with
    |none=>simp[hf] at h
    |some q=>
     simp only[hf,Option.bind_some,Option.some.injEq] at h
     subst h
     have hck:=FB hkb (R.opd k) false
     obtain⟨r,f1,f2⟩:=F4 hkb (R.opd k) e4.key.1 e4.key.2 hf
     have pk:=Hm hkd (R.opd k)
     have pv:=Hm hvd (R.opd y)
     have hzr:∀row∈s.rows,row.length=s.z:=(R.vec n s hn).hz
     cases q with
     |none=>
      have hr:r=none:=f2
      subst hr
      have hrun:(Instr.mapUpdate t (.map (some b)) (a.eval k) (a.eval y)).run P w=.ok () { w with heap:=w.heap.setIfInBounds b (.map (es.push { key:=a.eval k,val:=a.eval y,born:=clock }) (clock+1))}:=by
       simp[Instr.mapUpdate,run_underlying hu,Result.andThen,MapKept.run_getObj_map e3,hck,f1,MapKept.run_setObj_map _ e3]
      have R':=K9 (s':={ s with rows:=s.rows++[kd++vd]}) R hn hM rfl e2 e3 (fun row hr=>by
       rcases List.mem_append.1 hr with hr |hr
       ·exact hzr row hr
       ·rw[List.mem_singleton] at hr;subst hr;rw[List.length_append,hkz];exact hvz) (O8 (s':={ s with rows:=s.rows++[kd++vd]}) e4 rfl rfl hkz pk pv)
      refine⟨_,p,.inr ⟨?_,by rw[hd];exact R'⟩⟩
      rcases ho with ho |ho <;> simp[execOp,ho,e1,hrun]
     |some q=>
      obtain⟨e,row,g1,g2,g3,g4,g5⟩:=f2
      subst g5
      have g1':es[q.1]? =some e:=by rw[← Array.getElem?_toList];exact g1
      have hsame:=QH hkb g4 (R.opd k) (e4.row' g2 g1').1
      have hrun:(Instr.mapUpdate t (.map (some b)) (a.eval k) (a.eval y)).run P w=.ok () { w with heap:=w.heap.setIfInBounds b (.map (es.modify q.1 fun e=>{ e with key:=a.eval k,val:=a.eval y }) clock)}:=by
       simp[Instr.mapUpdate,run_underlying hu,Result.andThen,MapKept.run_getObj_map e3,hck,f1,MapKept.run_setObj_map _ e3,Instr.keyThatStays,g1',hsame]
      have R':=K9 (s':={ s with rows:=s.rows.set q.1 (kd++vd)}) R hn hM rfl e2 e3 (fun row hr=>by
       rcases List.mem_or_eq_of_mem_set hr with hr |hr
       ·exact hzr row hr
       ·subst hr;rw[List.length_append,hkz];exact hvz) (QK (s':={ s with rows:=s.rows.set q.1 (kd++vd)}) e4 rfl rfl hkz pk pv)
      refine⟨_,p,.inr ⟨?_,by rw[hd];exact R'⟩⟩
      rcases ho with ho |ho <;> simp[execOp,ho,e1,hrun]
theorem O9 (R:Rel K st a w p) {o:Oper} {x y:Operand} {t t':TypeId} (ho:o.op=.call { callee:=.builtin .delete,args:=#[x,y],argTypes:=#[t,t']}) {st':St} (h:((QC P st t (opd st x) (opd st y)).bind fun s1=>Is s1 o.dst (.tup []))=some st'):Stepped P K st' o a w:=by
 cases hs1:QC P st t (opd st x) (opd st y) with
 |none=>simp[hs1] at h
 |some s1=>
  simp only[hs1,Option.bind_some] at h
  unfold QC at hs1
  split at hs1
  case h_2=>cases hs1
  rename_i kt et n hu hx
  cases hn:get st.vec n with
  |none=>simp[hn] at hs1
  |some s=>
   simp only[hn,Option.bind_some] at hs1
   split at hs1
   case isFalse=>cases hs1
   rename_i hc
   obtain⟨hM,hkb⟩:=hc
   obtain⟨b,es,clock,e1,e2,e3,e4⟩:=IU R hx hn hM
   cases hf:B5 P kt s.ka s.kz (opd st y) s.rows with
   |none=>simp[hf] at hs1
   |some q=>
    simp only[hf,Option.bind_some,Option.some.injEq] at hs1
    subst hs1
    have hck:=FB hkb (R.opd y) es.isEmpty
    obtain⟨r,f1,f2⟩:=F4 hkb (R.opd y) e4.key.1 e4.key.2 hf
    have hzr:∀row∈s.rows,row.length=s.z:=(R.vec n s hn).hz
    cases q with
    |none=>
     have hr:r=none:=f2
     subst hr
     have hrun:(Builtin.delete_ #[t,t'] o.type #[.map (some b),a.eval y]).run P w=.ok (.tuple #[]) { w with heap:=w.heap.setIfInBounds b (.map es clock)}:=by
      simp[Builtin.delete_,run_underlying hu,Result.andThen,MapKept.run_getObj_map e3,hck,f1,MapKept.run_setObj_map _ e3]
     have R':=K9 (s':={ s with rows:=s.rows }) R hn hM rfl e2 e3 hzr e4
     exact⟨_,p,.inl ⟨.tuple #[],by simp[execOp,ho,resolve,invoke,builtin,e1,hrun],R'.puto (.tup rfl fun i a v ha _=>by simp at ha) h⟩⟩
    |some q=>
     obtain⟨e,row,g1,g2,g3,g4,g5⟩:=f2
     subst g5
     have hrun:(Builtin.delete_ #[t,t'] o.type #[.map (some b),a.eval y]).run P w=.ok (.tuple #[]) { w with heap:=w.heap.setIfInBounds b (.map (es.eraseIdxIfInBounds q.1) clock)}:=by
      simp[Builtin.delete_,run_underlying hu,Result.andThen,MapKept.run_getObj_map e3,hck,f1,MapKept.run_setObj_map _ e3]
     have R':=K9 (s':={ s with rows:=s.rows.eraseIdx q.1 }) R hn hM rfl e2 e3 (fun row hr=>hzr row ((List.eraseIdx_sublist _ _).subset hr)) (M0 (s':={ s with rows:=s.rows.eraseIdx q.1 }) e4 (List.getElem?_eq_some_iff.1 g2).1 rfl rfl)
     exact⟨_,p,.inl ⟨.tuple #[],by simp[execOp,ho,resolve,invoke,builtin,e1,hrun],R'.puto (.tup rfl fun i a v ha _=>by simp at ha) h⟩⟩
theorem Lz (R:Rel K st a w p) {o:Oper} {x:Operand} {t kt et:TypeId} {n:Nat} {b:Nat} {es:Array MapEntry} {clock:Nat} (ho:o.op=.call { callee:=.builtin .len,args:=#[x],argTypes:=#[t]}) (hu:P.underlying t=some (.map kt et)) (e1:a.eval x=.map (some b)) (e3:w.heap[b]? =some (.map es clock)) (e4:es.size=n)
  {st':St} (h:Is st o.dst (.d (.int .i64 n))=some st'):Stepped P K st' o a w:=by
 have hrun:(Builtin.len_ #[t] o.type #[.map (some b)]).run P w=.ok (goInt es.size) w:=by
  simp[Builtin.len_,run_underlying hu,Result.andThen,MapKept.run_getObj_map e3]
 refine⟨w,p,.inl ⟨goInt es.size,by simp[execOp,ho,resolve,invoke,builtin,e1,hrun],R.puto ?_ h⟩⟩
 rw[e4]
 exact .d .int
theorem M1 (R:Rel K st a w p) {o:Oper} {x:Operand} {t:TypeId} (ho:o.op=.call { callee:=.builtin .len,args:=#[x],argTypes:=#[t]}) {st':St} {n:Int} (hl:Sw P st t (opd st x)=some n) (h:Is st o.dst (.d (.int .i64 n))=some st'):Stepped P K st' o a w:=by
 unfold Sw at hl
 split at hl
 case h_3=>cases hl
 ·rename_i kt et m hu hx
  cases hn:get st.vec m with
  |none=>simp[hn] at hl
  |some s=>
   simp only[hn,Option.bind_some] at hl
   split at hl
   case isFalse=>cases hl
   rename_i hM
   obtain⟨b,es,clock,e1,e2,e3,e4⟩:=IU R hx hn hM
   cases hl
   exact Lz R ho hu e1 e3 e4.size h
 ·rename_i kt et e z rows hu hx
  cases hl
  have h1:=R.opd x
  rw[hx] at h1
  generalize hv:a.eval x=u at h1
  cases h1 with
  |d h1=>
   obtain⟨b,es,clock,rfl,e3,_,_,e4⟩:=h1.mp_inv
   exact Lz R ho hu hv e3 e4.size h
theorem QL (t kz:Nat) (ka va:Bool) (z:Nat) (rows:List (List D)):VS.isM ⟨ES t kz ka va,z,rows⟩=true:=by
 unfold VS.isM ES
 exact decide_eq_true (Nat.le_add_right _ _)
theorem QM (R:Rel K st a w p) {o:Oper} {t:TypeId} {r:Option Operand} (ho:o.op=.makeMap t r) {d:Nat} (hd:o.dst=some d) {st':St} (h:Sx P st d t (r.map (opd st))=some st'):Stepped P K st' o a w:=by
 unfold Sx at h
 split at h
 case h_2=>cases h
 rename_i kt et hu
 cases hk:Ad P kt with
 |none=>simp[hk] at h
 |some kz=>
  cases hv:Ad P et with
  |none=>simp[hk,hv] at h
  |some vz=>
   simp only[hk,hv,Option.bind_some] at h
   split at h
   case isFalse=>cases h
   rename_i hh
   obtain⟨h1,hdn,h3⟩:=hh
   cases hvd:get st.vec d with
   |some _=>simp[hvd] at h
   |none=>
    simp only[hvd,Option.some.injEq] at h
    subst h
    have hrun:(Instr.makeMap t (r.map a.eval)).run P w=.ok (.map (some w.heap.size)) (w.alloc (.map #[] 0)):=by
     cases r with
     |none=>rfl
     |some x=>
      simp only[Option.map_some] at h3 ⊢
      have h3:(CU (opd st x)).isSome=true:=h3
      obtain⟨n,hn⟩:=Option.isSome_iff_exists.1 h3
      obtain⟨kk,e⟩:=CZ hn (R.opd x)
      rw[e]
      simp[Instr.makeMap,run_underlying hu,Result.andThen,newObj,asInt]
      rfl
    have hal:=MapKept.heap_alloc w (.map #[] 0)
    have hgr:w.grownBy (w.alloc (.map #[] 0)) none:=⟨rfl,rfl,rfl,(by show w.heap.size≤(w.heap.push _).size;rw[Array.size_push];exact Nat.le_succ _),fun k hk _=>hal.2 k hk⟩
    have R':=R.newVecG (d:=d) (v':=.map (some w.heap.size)) (w':=w.alloc (.map #[] 0)) (s:=⟨ES t kz (Ao P kt) (Ao P et),kz+vz,[]⟩) hvd hgr (Nat.le_refl 0)
     (fun ok' _ _=>.ofM (QL _ _ _ _ _ _) ⟨_,#[],0,rfl,hal.1,⟨rfl,fun j row e h1 _=>(by have h1:([]:List (List D))[j]? =some row:=h1;rw[List.getElem?_nil] at h1;cases h1),fun e he=>(List.not_mem_nil he).elim,List.nodup_nil⟩⟩) (fun r hr=>(List.not_mem_nil hr).elim) (.inr rfl)
    refine⟨_,_,.inl ⟨_,?_,by rw[hd];exact R'.put (RA.vec_at (Or.inl rfl) (upd_same _ _ _)) hdn⟩⟩
    simp[execOp,ho,hrun]
end
end Go.Vl
namespace Go.Vl
open Go Go.RowKit
section
variable {P:Program} {K:Ctx P} {st:St} {a:Act} {w:World} {p:Pl}
theorem GM {t ty e:TypeId} {zs:List AV} (hu:P.underlying t=some (.slice e)) (hz:Aw P e=some zs) (hpos:0 < zs.length) (hby:EX P e=true) (R:Rel K st a w p)
  {v:Value} {xs:List (List D)} {xv:List Value} (hown:w.ownsRow 0 e zs.length v xs.length xv) {y:AV} {ys:List (List D)} (hy:rowsOf st y=some ys) {u:Value} (hyu:RA w (okc K w p) p y u) (hyz:∀r∈ys,r.length=zs.length)
  (hsz:xs.length+ys.length≤268435456) (hxz:∀r∈xs,r.length=zs.length) (hxr:∀(j:Nat) (d:D) (v:Value),xs.flatten[j]? =some d→xv[j]? =some v→RD w (okc K w p) d v):
  ∃v' w' xv',(Builtin.append_ #[t,t] ty #[v,u]).run P w=.ok v' w'∧w'.ownsRow 0 e zs.length v' (xs++ys).length xv'∧w.grownBy w' v.blk∧(v'.blk=v.blk∨v'.blk=some w.heap.size)∧
   ∀(j:Nat) (d:D) (v:Value),(xs++ys).flatten[j]? =some d→xv'[j]? =some v→RD w (okc K w p) d v:=by
 obtain⟨i,zv,hi,hv,hs,hzs,h1⟩:=CS hz
 have hzl:zs.length=i.size:=by rw[hzs];simp[hs]
 have hszOf:Ad P e=some i.size:=by simp[Ad,hi]
 obtain⟨b,c,rfl,hc⟩:=EE R hy hyu
 have hbytes:i.bytes≤65536:=by simpa[EX,hi] using hby
 rcases hc with rfl |⟨ad,z',news,rfl,hl,hz',hcell,hone,hrd⟩
 ·-- nothing is appended
  have hle:∃b0 c0,v=.slice b0 xs.length c0∧xs.length≤c0:=by
   rcases hown.2 with ⟨h0,h2⟩ |⟨g,cap,cur,h0,_,_,h2,_⟩
   ·exact⟨none,0,by rw[h0,h2],by omega⟩
   ·exact⟨_,_,h0,h2⟩
  obtain⟨b0,c0,rfl,hle⟩:=hle
  exact⟨_,w,xv,Hl hu hszOf b0 b xs.length c0 c hle w,by simpa using hown,World.grownBy.refl w _,.inl rfl,by simpa using hxr⟩
 ·by_cases hy0:ys=[]
  ·subst hy0
   have hle:∃b0 c0,v=.slice b0 xs.length c0∧xs.length≤c0:=by
    rcases hown.2 with ⟨h0,h2⟩ |⟨g,cap,cur,h0,_,_,h2,_⟩
    ·exact⟨none,0,by rw[h0,h2],by omega⟩
    ·exact⟨_,_,h0,h2⟩
   obtain⟨b0,c0,rfl,hle⟩:=hle
   exact⟨_,w,xv,Hl hu hszOf b0 (some ad) xs.length c0 c hle w,by simpa using hown,World.grownBy.refl w _,.inl rfl,by simpa using hxr⟩
  ·obtain⟨r,hr⟩:=List.exists_mem_of_ne_nil _ hy0
   have hzz:z'=i.size:=(hz' r hr).symm.trans ((hyz r hr).trans hzl)
   subst hzz
   rw[hzl] at hown
   have hb:(xs.length+ys.length) * i.bytes≤268435456 * 65536:=Nat.mul_le_mul hsz hbytes
   obtain⟨v',w',hrun,hown',hg,_,hat⟩:=run_append_own_at (P:=P) w 0 t ty e i zv i.size i.bytes hu hi hv rfl rfl hs (by omega) v xs.length xv hown ad ys.length c news hl hcell hone (by simp only[maxLen];omega) (by omega) (Nat.zero_le _)
   refine⟨v',w',xv++news,hrun,by rw[hzl,List.length_append];exact hown',by rw[IS hown];exact hg,by rw[IS hown,IS hown'];exact hat,fun j d u hd hu'=>?_⟩
   have hfx:xs.flatten.length=xs.length * i.size:=by rw[← hzl];exact A4 hxz
   have hxvl:xv.length=xs.length * i.size:=hown.1
   rw[List.flatten_append,List.getElem?_append] at hd
   rw[List.getElem?_append] at hu'
   split at hd
   ·rw[if_pos (by omega)] at hu';exact hxr j d u hd hu'
   ·rw[if_neg (by omega)] at hu';exact hrd _ d u hd (by rw[hfx,←hxvl];exact hu')
theorem QN {t ty e:TypeId} {zs:List AV} (hu:P.underlying t=some (.slice e)) (hz:Aw P e=some zs) (hpos:0 < zs.length) (hby:EX P e=true) (R:Rel K st a w p)
  {v:Value} {xs:List (List D)} (hx:RA w (okc K w p) p (.full xs) v) {y:AV} {ys:List (List D)} (hy:rowsOf st y=some ys) {u:Value} (hyu:RA w (okc K w p) p y u) (hyz:∀r∈ys,r.length=zs.length)
  (hsz:xs.length+ys.length≤268435456) (hxz:∀r∈xs,r.length=zs.length) (hm:0 < ys.length):
  ∃v' w' xv',(Builtin.append_ #[t,t] ty #[v,u]).run P w=.ok v' w'∧w'.ownsRow 0 e zs.length v' (xs++ys).length xv'∧w.grownBy w' none∧(v'.blk=none∨v'.blk=some w.heap.size)∧
   ∀(j:Nat) (d:D) (v:Value),(xs++ys).flatten[j]? =some d→xv'[j]? =some v→RD w (okc K w p) d v:=by
 cases hx with |full hd=>
 rename_i b0
 by_cases hb0:b0=none
 ·subst hb0
  have hx0:xs=[]:=by cases hd;rfl
  subst hx0
  obtain⟨v',w',xv',h1,h2,h3,h4,h5⟩:=GM (ty:=ty) hu hz hpos hby R (v:=.slice none 0 0) (xs:=[]) (xv:=[]) (World.ownsRow_nil w _ _ _) hy hyu hyz hsz hxz (fun j d v h=>by simp at h)
  exact⟨v',w',xv',h1,h2,h3,h4,h5⟩
 ·obtain⟨bb,rfl⟩:=Option.ne_none_iff_exists'.1 hb0
  obtain⟨i,zv,hi,hv,hs,hzs,h1⟩:=CS hz
  have hzl:zs.length=i.size:=by rw[hzs];simp[hs]
  obtain⟨b,c,rfl,hc⟩:=EE R hy hyu
  have hbytes:i.bytes≤65536:=by simpa[EX,hi] using hby
  rcases hc with rfl |⟨ad,z',news,rfl,hl,hz',hcell,hone,hrd⟩
  ·simp at hm
  ·have hy0:ys≠[]:=fun e=>by subst e;simp at hm
   obtain⟨r,hr⟩:=List.exists_mem_of_ne_nil _ hy0
   have hzz:z'=i.size:=(hz' r hr).symm.trans ((hyz r hr).trans hzl)
   subst hzz
   have hb:(xs.length+ys.length) * i.bytes≤268435456 * 65536:=Nat.mul_le_mul hsz hbytes
   -- the old cells
   have holds:∃olds:List Value,olds.length=xs.length * i.size∧(∀(j:Nat) (u:Value),olds[j]? =some u→w.cell? (bb.add j)=some u)∧∀(j:Nat) (d:D) (u:Value),xs.flatten[j]? =some d→olds[j]? =some u→RD w (okc K w p) d u:=by
    obtain⟨b',c',he,hc'⟩:=EE R (x:=.d (.slice xs)) (rows:=xs) rfl (.d hd)
    injection he with he1 he2 he3
    subst he1
    rcases hc' with rfl |⟨ad',z'',olds,h1,h2,h3,h4,_,h5⟩
    ·exact⟨[],by simp,fun j u hj=>by simp at hj,fun j d u hj=>by simp at hj⟩
    ·cases h1
     by_cases hx0:xs=[]
     ·subst hx0;exact⟨[],by simp,fun j u hj=>by simp at hj,fun j d u hj=>by simp at hj⟩
     ·obtain⟨r',hr'⟩:=List.exists_mem_of_ne_nil _ hx0
      have:z''=i.size:=(h3 r' hr').symm.trans ((hxz r' hr').trans hzl)
      subst this
      exact⟨olds,h2,h4,h5⟩
   obtain⟨olds,ho1,ho2,ho3⟩:=holds
   have hrun:=run_append_grow (P:=P) w t ty e i zv hu hi hv bb xs.length xs.length olds ho1 ho2 ad ys.length c news hl hcell (by omega) (by omega) (growslice_fits (by omega) (by omega))
   have hge:=grownCap_ge w (xs.length+ys.length) xs.length e
   have hcm:grownCap w (xs.length+ys.length) xs.length e≤maxLen:=grownCap_le_maxLen w _ _ e (by simp only[maxLen];omega)
   have hlen:(olds++news).length=(xs.length+ys.length) * i.size:=by rw[List.length_append,ho1,hl,Nat.add_mul]
   refine⟨_,_,olds++news,hrun,?_,⟨rfl,rfl,rfl,by simp,fun k hk _=>Below.heap_alloc w.drew _ k hk⟩,.inr rfl,fun j d u hdd hu'=>?_⟩
   ·rw[hzl,List.length_append]
    refine⟨hlen,.inr ⟨w.heap.size,_,_,rfl,Nat.zero_le _,heap_alloc_new w.drew _,hge,hcm,?_,?_⟩⟩
    ·simp only[Array.size_append,List.size_toArray,size_zeroCells,hs,ho1,hl,←Nat.add_mul]
     congr 1
     omega
    ·simp only[Array.toList_append,List.append_assoc]
     rw[← List.append_assoc,←hlen]
     exact List.take_left
   ·have hfx:xs.flatten.length=xs.length * i.size:=by rw[← hzl];exact A4 hxz
    rw[List.flatten_append,List.getElem?_append] at hdd
    rw[List.getElem?_append] at hu'
    split at hdd
    ·rw[if_pos (by omega)] at hu';exact ho3 j d u hdd hu'
    ·rw[if_neg (by omega)] at hu';exact hrd _ d u hdd (by rw[hfx,←ho1];exact hu')
theorem PC (R:Rel K st a w p) {o:Oper} {x y:Operand} {t t':TypeId} (ho:o.op=.call { callee:=.builtin .append,args:=#[x,y],argTypes:=#[t,t']}) {d:Nat} (hd:o.dst=some d) {st':St}
  (h:Fi P st d t t' (opd st x) (opd st y)=some st'):Stepped P K st' o a w:=by
 unfold Fi at h
 split at h
 case isFalse=>cases h
 rename_i hh
 obtain⟨rfl,hdn⟩:=hh
 split at h
 case h_2=>cases h
 rename_i e hu
 cases hz:Aw P e with
 |none=>simp[hz] at h
 |some zs=>
  simp only[hz,Option.bind_some] at h
  cases hy:rowsOf st (opd st y) with
  |none=>simp[hy] at h
  |some ys=>
   simp only[hy,Option.bind_some] at h
   split at h
   case isFalse=>cases h
   rename_i hh
   obtain⟨hpos,hby,he6,hyz⟩:=hh
   have hyu:=R.opd y
   have hxv:=R.opd x
   have fin:∀{v':Value} {w':World} {p':Pl} {st1:St},(Builtin.append_ #[t,t] o.type #[a.eval x,a.eval y]).run P w=.ok v' w'→Rel K st1 a w' p'→p'.lv d→p'.rw d=v'→st1.nt=st.nt→st1.put d (.vec d)=st'→Stepped P K st' o a w:=by
    intro v' w' p' st1 hrun R' h1 h2 h3 h4
    refine⟨w',p',.inl ⟨v',?_,by rw[hd,←h4];exact R'.put (RA.vec_at h1 h2) (by rw[h3];exact hdn)⟩⟩
    simp[execOp,ho,resolve,invoke,builtin,hrun]
   split at h
   ·rename_i hx
    rw[hx] at hxv
    split at h
    case isFalse=>cases h
    rename_i hsz
    generalize hax:a.eval x=ax at *
    cases hxv with |nilS=>
    cases hvd:get st.vec d with
    |some _=>simp[hvd] at h
    |none=>
     simp only[hvd] at h
     cases h
     obtain⟨v',w',xv',h1,h2,h3,h4,h5⟩:=GM (ty:=o.type) hu hz hpos hby R (v:=.slice none 0 0) (xs:=[]) (xv:=[]) (World.ownsRow_nil w _ _ _) hy hyu hyz (by simpa using hsz) (fun r hr=>by simp at hr) (fun j d v h=>by simp at h)
     exact fin h1 (R.newVec (s:=⟨e,zs.length,ys⟩) (CK he6) hvd h3 (Nat.zero_le _) h2 hyz h5 h4) (Or.inl rfl) (upd_same _ _ _) rfl rfl
   ·rename_i n z' lo k hx
    rw[hx] at hxv
    split at h
    case isFalse=>cases h
    rename_i hlz
    obtain⟨rfl,rfl⟩:=hlz
    cases hs:get st.vec n with
    |none=>simp[hs] at h
    |some s=>
     simp only[hs,Option.bind_some] at h
     split at h
     case isFalse=>cases h
     rename_i hh
     obtain⟨rfl,hsz',hkl,hsz,hdd⟩:=hh
     cases h
     have hM:s.isM=false:=CK he6
     obtain⟨hat,hxz,_⟩:=R.vec n s hs
     obtain⟨xv,hown,hxr⟩:=hat.row hM
     rw[hsz'] at hown
     have hxz':∀r∈s.rows.take k,r.length=zs.length:=fun r hr=>(hxz r (List.mem_of_mem_take hr)).trans hsz'
     have hmul:k * zs.length≤s.rows.length * zs.length:=Nat.mul_le_mul_right _ hkl
     have hxvl:xv.length=s.rows.length * zs.length:=hown.1
     have hlk:(s.rows.take k).length=k:=by simp;omega
     have hpre:p.lv n∧w.ownsRow 0 s.e zs.length (a.eval x) (s.rows.take k).length (xv.take (k * zs.length))∧(a.eval x).blk=(p.rw n).blk:=by
      rw[hlk]
      generalize a.eval x=ax at hxv
      cases hxv with
      |cut hn hv ho hle=>
       rename_i o' g c len
       have ho':=ho.2 rfl
       subst ho'
       refine⟨hn,⟨by simp;omega,?_⟩,by rw[hv];rfl⟩
       rw[hv] at hown
       rcases hown.2 with ⟨h0,_⟩ |⟨g',cap,cur,h0,hb1,hg,hb2,hb3,hb4,hb5⟩
       ·cases h0
       injection h0 with h01 h02 h03
       injection h01 with h01
       injection h01 with h01
       subst h01;subst h02;subst h03
       refine .inr ⟨g,c,cur,by simp,hb1,hg,by omega,hb3,hb4,?_⟩
       rw[← hb5,List.take_take,Nat.min_eq_left hmul]
      |cut0 hn hv=>exact⟨hn,⟨by simp,.inl ⟨rfl,rfl⟩⟩,by rw[hv]⟩
     obtain⟨hn,hown2,hblk2⟩:=hpre
     obtain⟨v',w',xv',h1,h2,h3,h4,h5⟩:=GM (ty:=o.type) hu hz hpos hby R hown2 hy hyu hyz (by rw[hlk];exact hsz) hxz' (fun j d v hd hv=>by
      rw[EB (fun r hr=>(hxz r hr).trans hsz'),List.getElem?_take] at hd
      rw[List.getElem?_take] at hv
      split at hd
      ·rename_i hj;rw[if_pos hj] at hv;exact hxr j d v hd hv
      ·cases hd)
     have hdl:get (del st.vec n) d=none:=by
      rw[Av]
      split
      ·rfl
      ·rename_i e
       rcases hdd with rfl |h0
       ·exact absurd rfl e
       ·simpa using h0
     rw[hblk2] at h3 h4
     have R':=R.setVec (n:=n) (d:=d) (s:={ s with rows:=s.rows.take k++ys }) (CK he6) hdl h3 (Nat.zero_le _) (.inr ⟨hn,rfl⟩) (by show w'.ownsRow _ s.e s.z v' _ xv';rw[hsz'];exact h2)
      (fun r hr=>by rcases List.mem_append.1 hr with h |h;exact(hxz' r h).trans hsz'.symm;exact(hyz r h).trans hsz'.symm) h5 (by
       rcases h4 with h4 |h4
       ·exact .inr (.inl ⟨hn,h4⟩)
       ·exact .inr (.inr h4))
     exact fin h1 R' (Or.inl rfl) (upd_same _ _ _) rfl rfl
   ·rename_i n hx
    rw[hx] at hxv
    cases hs:get st.vec n with
    |none=>simp[hs] at h
    |some s=>
     simp only[hs,Option.bind_some] at h
     split at h
     case isFalse=>cases h
     rename_i hh
     obtain⟨rfl,hsz',hsz,hdd⟩:=hh
     cases h
     have hM:s.isM=false:=CK he6
     obtain⟨hat,hxz,_⟩:=R.vec n s hs
     obtain⟨xv,hown,hxr⟩:=hat.row hM
     generalize hax:a.eval x=ax at *
     cases hxv with |vec hn=>
     rw[hsz'] at hown
     obtain⟨v',w',xv',h1,h2,h3,h4,h5⟩:=GM (ty:=o.type) hu hz hpos hby R hown hy hyu hyz hsz (fun r hr=>by rw[← hsz'];exact hxz r hr) hxr
     have hdl:get (del st.vec n) d=none:=by
      rw[Av]
      split
      ·rfl
      ·rename_i e
       rcases hdd with rfl |h0
       ·exact absurd rfl e
       ·simpa using h0
     have R':=R.setVec (n:=n) (d:=d) (s:={ s with rows:=s.rows++ys }) (CK he6) hdl h3 (Nat.zero_le _) (.inr ⟨hn,rfl⟩) (by show w'.ownsRow _ s.e s.z v' _ xv';rw[hsz'];exact h2)
      (fun r hr=>by rcases List.mem_append.1 hr with h |h;exact hxz r h;exact(hyz r h).trans hsz'.symm) h5 (by
       rcases h4 with h4 |h4
       ·exact .inr (.inl ⟨hn,h4⟩)
       ·exact .inr (.inr h4))
     exact fin h1 R' (Or.inl rfl) (upd_same _ _ _) rfl rfl
   ·rename_i xs hx
    rw[hx] at hxv
    split at h
    case isFalse=>cases h
    rename_i hh
    obtain⟨hsz,hm,hxz⟩:=hh
    generalize hax:a.eval x=ax at *
    cases hvd:get st.vec d with
    |some _=>simp[hvd] at h
    |none=>
     simp only[hvd] at h
     cases h
     obtain⟨v',w',xv',h1,h2,h3,h4,h5⟩:=QN (ty:=o.type) hu hz hpos hby R hxv hy hyu hyz hsz hxz hm
     exact fin h1 (R.newVec (s:=⟨e,zs.length,xs++ys⟩) (CK he6) hvd h3 (Nat.zero_le _) h2 (fun r hr=>by rcases List.mem_append.1 hr with h |h;exact hxz r h;exact hyz r h) h5 h4) (Or.inl rfl) (upd_same _ _ _) rfl rfl
   ·cases h
theorem F5 (R:Rel K st a w p) {o:Oper} {st':St} (h:step P st o=some st'):Stepped P K st' o a w:=by
 unfold step at h
 split at h
 ·rename_i t ho
  cases hd:o.dst with
  |none=>simp[hd] at h
  |some d=>
   simp only[hd,Option.bind_some] at h
   cases hz:Aw P t with
   |none=>simp[hz] at h
   |some z=>simp only[hz,Option.bind_some] at h;exact D2 R ho hd hz h
 ·rename_i t x ho
  cases hd:o.dst with
  |none=>simp[hd] at h
  |some d=>
   simp only[hd,Option.bind_some] at h
   cases hl:An (opd st x) with
   |none=>simp[hl] at h
   |some l=>simp only[hl,Option.bind_some] at h;exact E8 R ho hd hl h
 ·rename_i t n parts ho
  cases hd:o.dst with
  |none=>simp[hd] at h
  |some d=>simp only[hd,Option.bind_some] at h;exact DN R ho hd h
 ·rename_i t x y ho
  cases hd:o.dst with
  |none=>simp only[hd] at h;exact E9 R ho hd h
  |some d=>simp[hd] at h
 ·rename_i c ho
  obtain⟨callee,⟨args⟩,⟨tys⟩⟩:=c
  dsimp only at h
  split at h
  ·rename_i x y t t'
   cases hd:o.dst with
   |none=>simp[hd] at h
   |some d=>simp only[hd,Option.bind_some] at h;exact PC R ho hd h
  ·exact F3 R ho h
  ·exact O9 R ho h
  ·rename_i x t
   split at h
   ·rename_i n hl;exact M1 R ho hl h
   ·exact F2 R h
  ·exact F2 R h
 ·rename_i t l c ho
  cases hd:o.dst with
  |none=>simp[hd] at h
  |some d=>simp only[hd,Option.bind_some] at h;exact HD R ho hd h
 ·rename_i t r ho
  cases hd:o.dst with
  |none=>simp[hd] at h
  |some d=>simp only[hd,Option.bind_some] at h;exact QM R ho hd h
 ·rename_i t x k okb ho
  exact Mz R ho h
 ·rename_i t x k y ho
  cases hd:o.dst with
  |none=>simp only[hd] at h;exact KP R (.inl ho) hd h
  |some d=>simp[hd] at h
 ·rename_i t x k y ho
  cases hd:o.dst with
  |none=>simp only[hd] at h;exact KP R (.inr ho) hd h
  |some d=>simp[hd] at h
 ·exact F2 R h
end
end Go.Vl
namespace Go.Vl
open Go Go.RowKit
def gdA (ops:Array Oper) (st:St) (o:Oper):Option Bool:=
 match o.guard with
 |none=>some true
 |some (j,want)=>match (ops[j]?).bind (·.dst) with
  |some t=>match st.look t with
   | .d (.bool b)=>some (b==want)
   | .tup []=>some false
   |_=>none
  |none=>none
def runs (P:Program) (ops:Array Oper):List Oper→St→Option St
 |[],st=>some st
 |o::l,st=>match gdA ops st o with
  |some true=>(step P st o).bind (runs P ops l)
  |some false=>match o.dst with
   |some d=>if d < st.nt then runs P ops l (st.put d (.tup [])) else none
   |none=>runs P ops l st
  |none=>none
def Cp (P:Program) (ops:Array Oper):List Oper→St→Option St
 |[],st=>some st
 |o::l,st=>match gdA ops st o with
  |some true=>(EY P st o).bind (Cp P ops l)
  |some false=>match o.dst with
   |some d=>if d < st.nt then Cp P ops l (st.put d (.tup [])) else none
   |none=>Cp P ops l st
  |none=>none
def Pst {P:Program} (K:Ctx P) (Q:Exit→St→Prop) (e:Exit) (a:Act) (w:World):Prop:=∃st p,Rel K st a w p∧Q e st
def Az (P:Program) (K:Ctx P) (ops:Array Oper) (l:List Oper) (st:St) (Q:Exit→St→Prop):Prop:=∀a w p,Rel K st a w p→wpList P ops (Pst K Q) l a w
def Tr (P:Program) (K:Ctx P) (c:Code) (st:St) (Q:Exit→St→Prop):Prop:=∀a w p,Rel K st a w p→c.wp P (Pst K Q) a w
section
variable {P:Program} {K:Ctx P} {st:St} {a:Act} {w:World} {p:Pl} {ops:Array Oper} {Q:Exit→St→Prop}
theorem A9 (R:Rel K st a w p) {o:Oper} {b:Bool} (h:gdA ops st o=some b):Region.wanted o (yielded ops a.tmps)=b:=by
 unfold gdA at h
 unfold Region.wanted
 split at h
 ·rename_i hg;simp only[hg];simpa using h
 ·rename_i j want hg
  simp only[hg]
  split at h
  ·rename_i t ht
   split at h
   ·rename_i b' hl
    cases h
    have:=R.opd (.tmp t)
    simp only[Vl.opd,hl,Act.eval] at this
    have hv:a.tmps[t]? =some (.bool b'):=by
     cases hq:a.tmps[t]? with
     |none=>
      simp only[Array.getD_eq_getD_getElem?,hq,Option.getD_none] at this
      cases this with |d hd=>cases hd
     |some v=>
      simp only[Array.getD_eq_getD_getElem?,hq,Option.getD_some] at this
      cases this with |d hd=>cases hd with |bool=>rfl
    simp only[yielded,ht,Option.bind_some,hv]
    cases b' <;> cases want <;> rfl
   ·rename_i hl
    cases h
    have:=R.opd (.tmp t)
    simp only[Vl.opd,hl,Act.eval] at this
    have hv:yielded ops a.tmps j=none:=by
     simp only[yielded,ht,Option.bind_some]
     cases hq:a.tmps[t]? with
     |none=>rfl
     |some v=>
      simp only[Array.getD_eq_getD_getElem?,hq,Option.getD_some] at this
      cases this;rfl
    rw[hv];rfl
   ·cases h
  ·cases h
theorem It (R:Rel K st a w p) {o:Oper} {l:List Oper} {st':St} {f:List Oper→St→Option St} (h:(match o.dst with |some d=>if d < st.nt then f l (st.put d (.tup [])) else none |none=>f l st)=some st'):
  ∃st1,Rel K st1 (a.put o.dst undef) w p∧f l st1=some st':=by
 cases hd:o.dst with
 |none=>simp only[hd] at h;exact⟨st,by simpa[Act.put] using R,h⟩
 |some d=>
  simp only[hd] at h
  split at h
  ·exact⟨_,R.put (RA.tup (l:=[]) (cs:=#[]) rfl (fun i a v ha=>by simp at ha)) ‹_›,h⟩
  ·cases h
theorem tpN (h:Q .normal st):Az P K ops [] st Q:=fun _ _ p R=>⟨st,p,R,h⟩
theorem EF {l:List Oper} (k:Nat):∀{st st1:St},runs P ops (l.take k) st=some st1→Az P K ops (l.drop k) st1 Q→Az P K ops l st Q:=by
 induction k generalizing l with
 |zero=>intro st st1 h H;simp[runs] at h;subst h;simpa using H
 |succ k ih=>
  intro st st1 h H
  cases l with
  |nil=>simp[runs] at h;subst h;simpa using H
  |cons o l=>
   simp only[List.take_succ_cons,runs,List.drop_succ_cons] at h H
   intro a w p R
   unfold wpList
   cases hg:gdA ops st o with
   |none=>simp[hg] at h
   |some b=>
    rw[A9 R hg]
    simp only[hg] at h
    cases b with
    |true=>
     simp only at h
     cases hs:step P st o with
     |none=>simp[hs] at h
     |some st2=>
      simp only[hs,Option.bind_some] at h
      rw[if_pos rfl]
      refine .inl ?_
      obtain⟨w',p',⟨v,hr,R'⟩ |⟨hr,R'⟩⟩:=F5 R hs
      ·unfold Oper.wp;rw[hr];exact ih h H _ _ _ R'
      ·unfold Oper.wp;rw[hr];exact ih h H _ _ _ R'
    |false=>
     simp only[Bool.false_eq_true,if_false]
     obtain⟨st2,R2,h2⟩:=It (f:=runs P ops) R h
     exact ih h2 H _ _ _ R2
theorem Ds:∀{l:List Oper} {st st1:St} {a:Act},Rel K st a w p→Cp P ops l st=some st1→wpStill P ops w (fun a'=>Rel K st1 a' w p) l a
 |[],st,st1,a,R,h=>by simp[Cp] at h;subst h;exact R
 |o::l,st,st1,a,R,h=>by
  simp only[Cp] at h
  unfold wpStill
  cases hg:gdA ops st o with
  |none=>simp[hg] at h
  |some b=>
   rw[A9 R hg]
   simp only[hg] at h
   cases b with
   |true=>
    simp only at h
    cases hs:EY P st o with
    |none=>simp[hs] at h
    |some st2=>
     simp only[hs,Option.bind_some] at h
     rw[if_pos rfl]
     unfold EY at hs
     cases hv:vstep P st o with
     |none=>simp[hv] at hs
     |some x=>
      simp only[hv,Option.bind_some] at hs
      obtain⟨v,h1,h2⟩:=Dr R hv
      unfold Oper.still
      rw[h1]
      exact⟨rfl,Ds (R.puto h2 hs) h⟩
   |false=>
    simp only[Bool.false_eq_true,if_false]
    obtain⟨st2,R2,h2⟩:=It (f:=Cp P ops) R h
    exact Ds R2 h2
theorem FY {id:Nat} {l:List Oper} (h:Az P K l.toArray l st Q):Tr P K (.region id l.toArray false) st Q:=fun a w p R=>wp_region_lit (h a w p R)
theorem QO {id:Nat} {l:List Oper} {st1:St} (hm:P.follows .mixedOrders=true) (hB:Region.lexB .any l.toArray=true) (h:Cp P l.toArray l st=some st1) (hq:Q .normal st1):Tr P K (.region id l.toArray true) st Q:=by
 intro a w p R
 refine wp_region_still_lit hm hB ?_
 refine wpStill_mono ?_ _ _ (Ds R.drew h)
 exact fun a' R'=>⟨st1,p,R',hq⟩
where
 wpStill_mono {ops:Array Oper} {w:World} {Q Q':Act→Prop} (h:∀a,Q a→Q' a):∀(l:List Oper) (a:Act),wpStill P ops w Q l a→wpStill P ops w Q' l a
  |[],a,hh=>h a hh
  |o::l,a,hh=>by
   unfold wpStill at hh ⊢
   split
   ·rename_i hw;rw[if_pos hw] at hh;exact Oper.still_mono (fun a=>wpStill_mono h l a) hh
   ·rename_i hw;rw[if_neg hw] at hh;exact wpStill_mono h l _ hh
theorem S1 {id:Nat} {l:List Oper} {st1:St} (n:Nat) (hm:P.follows .mixedOrders=true) (hB:Region.lexTailB .any l.toArray n=true) (h:Cp P l.toArray (l.take n) st=some st1) (hq:Az P K l.toArray (l.drop n) st1 Q):
  Tr P K (.region id l.toArray true) st Q:=by
 intro a w p R
 refine wp_region_still_tail n hm hB ?_
 exact QO.wpStill_mono (P:=P) (fun a' R'=>hq a' _ p R') _ _ (Ds R.drew h)
def Cq (H:St→Prop) (Q:Exit→St→Prop):Exit→St→Prop
 | .normal,s=>H s
 |e,s=>Q e s
def FC (id:Nat) (Q:Exit→St→Prop):Exit→St→Prop
 | .exit id',s=>if id'=id then Q .normal s else Q (.exit id') s
 |e,s=>Q e s
theorem N9 {c:Code} {Q':Exit→St→Prop} (h:Tr P K c st Q) (hq:∀e s,Q e s→Q' e s):Tr P K c st Q':=fun a w p R=>wp_mono (h a w p R) fun e a w ⟨s,p,R,q⟩=>⟨s,p,R,hq e s q⟩
theorem trq {x y:Code} (h:Tr P K x st (Cq (fun s=>Tr P K y s Q) Q)):Tr P K (.seq x y) st Q:=fun a w p R=>
 wp_seq (wp_mono (h a w p R) fun e a' w' ⟨s,p',R',q⟩=>by
  cases e with
  |normal=>exact q a' w' p' R'
  |_=>exact⟨s,p',R',q⟩)
theorem trk (h:Q .normal st):Tr P K .skip st Q:=fun _ _ p R=>wp_skip ⟨st,p,R,h⟩
theorem trr (h:Q .ret st):Tr P K .ret st Q:=fun _ _ p R=>wp_ret ⟨st,p,R,h⟩
theorem Af {id:Nat} (h:Q (.exit id) st):Tr P K (.exit id) st Q:=fun _ _ p R=>wp_exit ⟨st,p,R,h⟩
theorem trb {id:Nat} {c:Code} (h:Tr P K c st (FC id Q)):Tr P K (.block id c) st Q:=fun a w p R=>
 wp_block (wp_mono (h a w p R) fun e a' w' ⟨s,p',R',q⟩=>by
  cases e with
  |exit id'=>
   unfold FC at q
   unfold Exit.inBlock
   by_cases e:id'=id
   ·simp only[e,if_true] at q ⊢;exact⟨s,p',R',q⟩
   ·simp only[e,if_false] at q ⊢;exact⟨s,p',R',q⟩
  |_=>exact⟨s,p',R',q⟩)
theorem trc {c:Operand} {x y:Code} {b:Bool} (hc:opd st c=.d (.bool b)) (ht:b=true→Tr P K x st Q) (hf:b=false→Tr P K y st Q):Tr P K (.cond c x y) st Q:=fun a w p R=>by
 have:=R.opd c
 rw[hc] at this
 generalize hv:a.eval c=v at this
 cases this with |d hd=>cases hd with |bool=>
 exact wp_cond_split hv (fun h=>ht h a w p R) (fun h=>hf h a w p R)
theorem S2 {c:Code} {st1:St} (W:D1 st st1) (h:Tr P K c st1 Q):Tr P K c st Q:=fun a w _ R=>h a w _ (R.weak W)
theorem Wa {c:Code} (n:Nat) (h:Tr P K c (st.frz n) Q):Tr P K c st Q:=fun a w _ R=>by obtain⟨p',R',_⟩:=R.frz n;exact h a w p' R'
theorem Rel.own (R:Rel K st a w p) {t n:Nat} (ht:st.look t=.nilS) (hn:get st.vec n=none) (e:TypeId) (z:Nat) (he:e < 1000000:=by decide):∃p',Rel K ({ st with vec:=(n,⟨e,z,[]⟩)::st.vec }.put t (.vec n)) a w p':=by
 have hx:=R.opd (.tmp t)
 simp only[Vl.opd,ht,Act.eval] at hx
 have hlt:t < st.nt:=by
  rw[← R.nt]
  rcases Nat.lt_or_ge t a.tmps.size with h |h
  ·exact h
  ·simp only[Array.getD_eq_getD_getElem?,Array.getElem?_eq_none h,Option.getD_none] at hx
   cases hx
 have R':=R.newVec (d:=n) (w':=w) (v':=.slice none 0 0) (s:=⟨e,z,[]⟩) (xs:=[]) (CK he) hn (World.grownBy.refl w _) (Nat.le_refl _) (World.ownsRow_nil w _ _ _) (fun r hr=>by simp at hr) (fun j x v h=>by simp at h) (.inl rfl)
 have hv:a.tmps.getD t undef=.slice none 0 0:=by
  generalize a.tmps.getD t undef=v at hx
  cases hx;rfl
 have hp:a.put (some t) (.slice none 0 0)=a:=by
  have hs:t < a.tmps.size:=by rw[R.nt];exact hlt
  cases a with
  |mk tmps defers=>
   simp only[Act.put,Act.mk.injEq,and_true]
   apply Array.ext
   ·simp
   ·intro i h1 h2
    rw[Array.getElem_setIfInBounds]
    split
    ·rename_i e;subst e
     simp only[Array.getD_eq_getD_getElem?,Array.getElem?_eq_getElem h2,Option.getD_some] at hv
     exact hv.symm
    ·rfl
 have R2:=R'.put (d:=t) (RA.vec_at (n:=n) (Or.inl rfl) (upd_same _ _ _)) hlt
 rw[hp] at R2
 exact⟨_,R2⟩
theorem Wb {c:Code} (t n:Nat) (e:TypeId) (z:Nat) (ht:st.look t=.nilS) (hn:get st.vec n=none) (h:Tr P K c ({ st with vec:=(n,⟨e,z,[]⟩)::st.vec }.put t (.vec n)) Q) (he:e < 1000000:=by decide):Tr P K c st Q:=fun a w _ R=>by
 obtain⟨p',R'⟩:=R.own ht hn e z he;exact h a w p' R'
end
end Go.Vl
namespace Go.Vl
open Go Go.RowKit
def Ag (io:List Nat) (iv:List Value):Pl:=⟨fun n=>(io[n - 1000000]?).getD 0,fun n=>(iv[n - 2000000]?).getD undef,fun n=>1000000≤n∧n - 1000000 < io.length,fun n=>2000000≤n∧n - 2000000 < iv.length⟩
theorem L2 {io:List Nat} {iv:List Value} {i:Nat}:(Ag io iv).lb (InO i)↔i < io.length:=by simp[Ag,InO]
theorem L3 {io:List Nat} {iv:List Value} {i b:Nat} (h:io[i]? =some b):(Ag io iv).bx (InO i)=b:=by simp[Ag,InO,h]
theorem OA {io:List Nat} {iv:List Value} {i:Nat}:(Ag io iv).lv (InV i)↔i < iv.length:=by simp[Ag,InV]
theorem OB {io:List Nat} {iv:List Value} {i:Nat} {v:Value} (h:iv[i]? =some v):(Ag io iv).rw (InV i)=v:=by simp[Ag,InV,h]
structure Yy (w:World) (ok:Nat→Prop) (io:List Nat) (iv:List Value) (b:Nat) (cs:List AV):Prop where
 at_:∃(vs:Array Value) (ty:TypeId),w.heap[b]? =some (.cells vs ty (0,0))∧vs.size=cs.length∧
  (∀(i:Nat) (c:AV) (v:Value),cs[i]? =some c→vs[i]? =some v→RA w ok (Ag io iv) c v)∧∀(i:Nat) (v:Value),vs[i]? =some v→v.oneCell'=true
structure Yz (w:World) (ok:Nat→Prop) (v:Value) (s:VS):Prop where
 at_:Cm w ok s v
 hz:∀r∈s.rows,r.length=s.z
structure EG (w:World) (ok:Nat→Prop) (io:List Nat) (iv:List Value) (bx:List (List AV)) (vx:List VS):Prop where
 len:io.length=bx.length
 nodup:io.Nodup
 okb:∀b,ok b→b < w.heap.size∧b∉io∧∀v∈iv,v.blk≠some b
 at_:∀(i b:Nat) (cs:List AV),io[i]? =some b→bx[i]? =some cs→Yy w ok io iv b cs
 lenv:iv.length=vx.length
 vat:∀(i:Nat) (v:Value) (s:VS),iv[i]? =some v→vx[i]? =some s→Yz w ok v s
 vdis:∀(i j:Nat) (v u:Value),iv[i]? =some v→iv[j]? =some u→i≠j→v.blk=none∨v.blk≠u.blk
 vio:∀v∈iv,∀b∈io,v.blk≠some b
structure Frm (io:List Nat) (iv:List Value) (w w':World):Prop where
 size:w.heap.size≤w'.heap.size
 os:w'.os=w.os
 tape:w'.tape=w.tape
 dr:dr0 w≤dr0 w'
 output:w'.output=w.output
 block:∀b,b < w.heap.size→b∉io→(∀v∈iv,v.blk≠some b)→w'.heap[b]? =w.heap[b]?
def okn (ok:Nat→Prop) (iv iv':List Value) (w w':World) (b:Nat):Prop:=(ok b∨w.heap.size≤b∨∃v∈iv,v.blk=some b)∧b < w'.heap.size∧∀u∈iv',u.blk≠some b
def DI (P:Program) (f:FuncId) (bx:List (List AV)) (vx:List VS) (args:List AV) (res:AV) (bx':List (List AV)) (vx':List VS):Prop:=
 ∀(w:World) (ok:Nat→Prop) (io:List Nat) (iv:List Value) (vs:Array Value),EG w ok io iv bx vx→vs.size=args.length→(∀(i:Nat) (x:AV) (v:Value),args[i]? =some x→vs[i]? =some v→RA w ok (Ag io iv) x v)→DX P w ok→
  Calls P f vs w fun e w'=>∃v iv',e=.returned v∧RA w' (okn ok iv iv' w w') (Ag io iv') res v∧EG w' (okn ok iv iv' w w') io iv' bx' vx'∧(∀u∈iv',∀g,u.blk=some g→w.heap.size≤g∨∃v∈iv,v.blk=some g)∧Frm io iv w w'
def Ac (P:Program) (f:FuncId) (bx:List (List AV)) (args:List AV) (res:AV) (bx':List (List AV)):Prop:=DI P f bx [] args res bx' []
mutual
def AV.fin:AV→AV
 | .nilS=>.d (.slice [])
 | .full rows=>.d (.slice rows)
 | .agg l=>.agg (AV.finL l)
 | .tup l=>.tup (AV.finL l)
 |x=>x
def AV.finL:List AV→List AV
 |[]=>[]
 |x::l=>AV.fin x::AV.finL l
end
theorem Dt:∀l:List AV,AV.finL l=l.map AV.fin
 |[]=>rfl
 |x::l=>by simp[AV.finL,Dt l]
theorem RA.fin {w:World} {ok:Nat→Prop} {p:Pl} {x:AV} {v:Value} (h:RA w ok p x v):RA w ok p x.fin v:=by
 induction h with
 |undef=>simp only[AV.fin];exact .undef
 |d h=>simp only[AV.fin];exact .d h
 |nilS=>simp only[AV.fin];exact .d .snil
 |full h=>simp only[AV.fin];exact .d h
 |agg hl _ h1 ih=>
  simp only[AV.fin,Dt]
  refine .agg (by simpa using hl) (fun i a v ha hv'=>?_) h1
  simp only[List.getElem?_map,Option.map_eq_some_iff] at ha
  obtain⟨q,hq,rfl⟩:=ha
  exact ih i q v hq hv'
 |tup hl _ ih=>
  simp only[AV.fin,Dt]
  refine .tup (by simpa using hl) (fun i a v ha hv'=>?_)
  simp only[List.getElem?_map,Option.map_eq_some_iff] at ha
  obtain⟨q,hq,rfl⟩:=ha
  exact ih i q v hq hv'
 |ptr hm=>simp only[AV.fin];exact .ptr hm
 |cptr vs h1 h2 h3=>simp only[AV.fin];exact .cptr vs h1 h2 h3
 |vec hm=>simp only[AV.fin];exact .vec hm
 |vptr h1 h2=>simp only[AV.fin];exact .vptr h1 h2
 |cut h1 h2 h3 h4=>simp only[AV.fin];exact .cut h1 h2 h3 h4
 |cut0 h1 h2=>simp only[AV.fin];exact .cut0 h1 h2
 |slen=>simp only[AV.fin];exact .slen
 |iter=>simp only[AV.fin];exact .iter
 |fn hl h=>simp only[AV.fin];exact .fn hl h
def PD (P:Program) (st:St):ResultVar→Option AV
 | .tmp t=>some (st.look t)
 | .cell a t=>DG P st t (st.look a)
def C4 (P:Program) (st:St):List ResultVar→Option (List AV)
 |[]=>some []
 |r::l=>(PD P st r).bind fun x=>(C4 P st l).map fun xs=>x::xs
def Hn:List AV→AV
 |[x]=>x
 |l=>.tup l
def ioB (n:Nat):Bool:=decide (1000000≤n)
def frzs (st:St):List Nat→St
 |[]=>st
 |n::l=>frzs (st.frz n) l
def GN (st:St):Nat→List (List AV)→Prop
 |_,[]=>True
 |i,cs::l=>(∃cs0,get st.box (InO i)=some cs0∧AV.finL cs0=cs∧AV.wfL ioB (fun _=>false) cs=true)∧GN st (i+1) l
def idxOf (σ:List Nat) (n:Nat):Option Nat:=
 match σ with
 |[]=>none
 |m::l=>if m=n then some 0 else(idxOf l n).map (·+1)
theorem Ct:∀{σ:List Nat} {n i:Nat},idxOf σ n=some i→σ[i]? =some n
 |[],_,_,h=>by simp[idxOf] at h
 |m::l,n,i,h=>by
  simp only[idxOf] at h
  split at h
  ·cases h;subst_vars;rfl
  ·cases hq:idxOf l n with
   |none=>simp[hq] at h
   |some j=>simp[hq] at h;subst h;simpa using Ct hq
theorem F6:∀{σ:List Nat} {n:Nat},idxOf σ n=none↔n∉σ
 |[],n=>by simp[idxOf]
 |m::l,n=>by
  simp only[idxOf]
  by_cases h:m=n
  ·simp[h]
  ·rw[if_neg h,Option.map_eq_none_iff,F6];simp[Ne.symm h]
theorem L4 {σ:List Nat} (h:σ.Nodup) {n i:Nat} (hi:σ[i]? =some n):idxOf σ n=some i:=by
 cases hq:idxOf σ n with
 |none=>exact absurd (List.mem_of_getElem? hi) (F6.1 hq)
 |some j=>
  have hj:=Ct hq
  have hil:=(List.getElem?_eq_some_iff.1 hi).1
  rw[(List.getElem?_inj hil h).1 (hi.trans hj.symm)]
/- the owned rows τ of a result, by their numbers -/
mutual
def AV.outV (τ:List Nat):AV→AV
 | .vec n=>match idxOf τ n with |some i=>.vec (InV i) |none=>.undef
 | .vptr _ _ _ _=>.undef
 | .cut _ _ _ _=>.undef
 | .agg l=>.agg (AV.outVL τ l)
 | .tup l=>.tup (AV.outVL τ l)
 | .fn f l=>.fn f (AV.outVL τ l)
 |x=>x
def AV.outVL (τ:List Nat):List AV→List AV
 |[]=>[]
 |x::l=>AV.outV τ x::AV.outVL τ l
end
theorem Ce (τ:List Nat):∀l:List AV,AV.outVL τ l=l.map (AV.outV τ)
 |[]=>rfl
 |x::l=>by simp[AV.outVL,Ce τ l]
def DW (st:St) (τ:List Nat):Nat→List (List AV)→Prop
 |_,[]=>True
 |i,cs::l=>(∃cs0,get st.box (InO i)=some cs0∧AV.outVL τ (AV.finL cs0)=cs∧AV.wfL ioB (fun _=>true) cs=true)∧DW st τ (i+1) l
def Du (st:St):List Nat→List VS→Prop
 |[],[]=>True
 |n::τ,s::vx=>get st.vec n=some s∧Du st τ vx
 |_,_=>False
def Fin (P:Program) (rs:List ResultVar) (res:AV) (bx':List (List AV)) (st:St):Prop:=
 ∃ns,(C4 P (frzs st ns) rs).map (fun l=>(Hn l).fin)=some res∧res.wf ioB (fun _=>false)=true∧GN (frzs st ns) 0 bx'
def S3 (P:Program) (rs:List ResultVar) (res:AV) (bx':List (List AV)) (vx':List VS) (st:St):Prop:=
 ∃ns τ,(C4 P (frzs st ns) rs).map (fun l=>(Hn l).fin.outV τ)=some res∧res.wf ioB (fun _=>true)=true∧DW (frzs st ns) τ 0 bx'∧Du (frzs st ns) τ vx'∧τ.Nodup
def WL (P:Program) (rs:List ResultVar) (res:AV) (bx':List (List AV)) (vx':List VS):Exit→St→Prop
 | .normal,st=>S3 P rs res bx' vx' st
 | .ret,st=>S3 P rs res bx' vx' st
 |_,_=>False
def Wc (P:Program) (rs:List ResultVar) (res:AV) (bx':List (List AV)):Exit→St→Prop
 | .normal,st=>Fin P rs res bx' st
 | .ret,st=>Fin P rs res bx' st
 |_,_=>False
def A5 {α:Type}:Nat→List α→List (Nat×α)
 |_,[]=>[]
 |i,x::l=>(i,x)::A5 (i+1) l
theorem BB {α:Type}:∀(l:List α) (i t:Nat),get (A5 i l) t=if i≤t then l[t - i]? else none
 |[],i,t=>by simp[A5,get]
 |x::l,i,t=>by
  simp only[A5,get,BB l (i+1) t]
  by_cases h1:i=t
  ·subst h1;simp
  ·rw[if_neg h1]
   by_cases h2:i≤t
   ·rw[if_pos h2,if_pos (by omega),show t - i=(t - (i+1))+1 by omega];simp
   ·rw[if_neg h2,if_neg (by omega)]
def LA (nt:Nat) (args:List AV) (bx:List (List AV)):St:={ nt:=nt,env:=A5 0 args,box:=A5 1000000 bx,vec:=[]}
def Ap (nt:Nat) (args:List AV) (bx:List (List AV)) (vx:List VS):St:={ nt:=nt,env:=A5 0 args,box:=A5 1000000 bx,vec:=A5 2000000 vx }
section
variable {P:Program} {K:Ctx P} {st:St} {a:Act} {w:World} {p:Pl}
theorem Rel.frzs (ns:List Nat):∀{st:St} {p:Pl},Rel K st a w p→∃p',Rel K (frzs st ns) a w p':=by
 induction ns with
 |nil=>exact fun R=>⟨_,R⟩
 |cons n l ih=>intro st p R;obtain⟨p',R',_⟩:=R.frz n;exact ih R'
def M2 (tmps:Array Value):ResultVar→Sem Value
 | .tmp t=>pure (tmps.getD t undef)
 | .cell q t=>do loadVar t (← asAddr (tmps.getD q undef))
theorem M3 (R:Rel K st a w p) {r:ResultVar} {x:AV} (hr:PD P st r=some x):∃v,(M2 a.tmps r).run P w=.ok v w∧RA w (okc K w p) p x v:=by
 cases r with
 |tmp t=>simp[PD] at hr;subst hr;exact⟨_,rfl,R.opd (.tmp t)⟩
 |cell q t=>
  simp only[PD] at hr
  have hq:=R.opd (.tmp q)
  simp only[Vl.opd,Act.eval] at hq
  generalize hu:a.tmps.getD q undef=u at hq
  generalize st.look q=y at hq hr
  obtain⟨v,g1,g2⟩:=E2 R hr hq
  have hptr:∃b,u=.pointer (some b):=by
   cases hq <;> first |exact⟨_,rfl⟩ |(simp [DG] at hr)
  obtain⟨b,rfl⟩:=hptr
  refine⟨v,?_,g2⟩
  simp only[M2,hu]
  simpa[Instr.loadAt,Instr.sureAddr,asAddr] using g1
theorem Ho (R:Rel K st a w p):∀{rs:List ResultVar} {xs:List AV},C4 P st rs=some xs→
  ∃vs:List Value,(rs.mapM (M2 a.tmps)).run P w=.ok vs w∧vs.length=xs.length∧
   ∀(i:Nat) (x:AV) (v:Value),xs[i]? =some x→vs[i]? =some v→RA w (okc K w p) p x v
 |[],xs,h=>by simp[C4] at h;subst h;exact⟨[],by simp,rfl,fun i x v hx=>by simp at hx⟩
 |r::rs,xs,h=>by
  simp only[C4] at h
  cases hr:PD P st r with
  |none=>simp[hr] at h
  |some x=>
   cases hl:C4 P st rs with
   |none=>simp[hr,hl] at h
   |some xs'=>
    simp[hr,hl] at h;subst h
    obtain⟨vs,h1,h2,h3⟩:=Ho R hl
    obtain⟨v,g1,g2⟩:=M3 R hr
    refine⟨v::vs,?_,by simp[h2],fun i y u hy hu=>?_⟩
    ·rw[List.mapM_cons]
     simp only[Sem.run_bind,g1,Result.andThen_ok,h1,Sem.run_pure]
    ·cases i with
     |zero=>simp at hy hu;subst hy;subst hu;exact g2
     |succ i=>exact h3 i y u (by simpa using hy) (by simpa using hu)
theorem Iu (fn:Func) (tmps:Array Value):results fn tmps=(do let vs ←fn.results.mapM (M2 tmps);pure (if h:vs.size=1 then vs[0] else .tuple vs)):=by
 unfold results
 congr 1
theorem Hq (R:Rel K st a w p) {fn:Func} {xs:List AV} (h:C4 P st fn.results.toList=some xs):∃v,(results fn a.tmps).run P w=.ok v w∧RA w (okc K w p) p (Hn xs) v:=by
 obtain⟨vs,h1,h2,h3⟩:=Ho R h
 refine⟨if h:vs.toArray.size=1 then vs.toArray[0] else .tuple vs.toArray,?_,?_⟩
 ·rw[Iu,Array.mapM_eq_mapM_toList]
  simp[h1]
 ·match xs,vs,h2 with
  |[],[],_=>simp[Hn];exact .tup rfl (fun i a v ha=>by simp at ha)
  |[x],[v],_=>simp[Hn];exact h3 0 x v rfl rfl
  |x::y::xs,v::u::vs,h2=>
   simp only[Hn]
   rw[dif_neg (by simp)]
   exact .tup (by simpa using h2) (fun i a v ha hv=>h3 i a v ha (by simpa using hv))
theorem D3 {τ:List Nat}:∀{bx:List (List AV)} {i0:Nat},DW st τ i0 bx→∀{i:Nat} {cs:List AV},bx[i]? =some cs→∃cs0,get st.box (InO (i0+i))=some cs0∧AV.outVL τ (AV.finL cs0)=cs∧AV.wfL ioB (fun _=>true) cs=true
 |[],_,_,i,cs,h=>by simp at h
 |c::bx,i0,hb,i,cs,h=>by
  cases i with
  |zero=>simp at h;subst h;exact hb.1
  |succ i=>have:=D3 hb.2 (i:=i) (by simpa using h);rwa [show i0+1+i=i0+(i+1) by omega] at this
theorem Dv:∀{τ:List Nat} {vx:List VS},Du st τ vx→τ.length=vx.length∧∀{i n:Nat} {s:VS},τ[i]? =some n→vx[i]? =some s→get st.vec n=some s
 |[],[],_=>⟨rfl,fun h=>by simp at h⟩
 |n::τ,s::vx,h=>by
  obtain⟨h1,h2⟩:=Dv h.2
  refine⟨by simp[h1],fun {i m s'} hm hs=>?_⟩
  cases i with
  |zero=>simp at hm hs;subst hm;subst hs;exact h.1
  |succ i=>exact h2 (by simpa using hm) (by simpa using hs)
 |[],_::_,h=>h.elim
 |_::_,[],h=>h.elim
theorem RA.outv {ok ok':Nat→Prop} {io:List Nat} {p:Pl} {τ:List Nat} (ho:∀b,ok b→ok' b) (hb:∀n,1000000≤n→p.lb n→(Ag io (τ.map p.rw)).lb n∧(Ag io (τ.map p.rw)).bx n=p.bx n) {x:AV} {v:Value} (h:RA w ok p x v):
  (x.outV τ).wf ioB (fun _=>true)=true→RA w ok' (Ag io (τ.map p.rw)) (x.outV τ) v:=by
 induction h with
 |undef=>intro _;simp only[AV.outV];exact .undef
 |d h=>intro _;simp only[AV.outV];exact .d (h.mono (fun _ _=>rfl) ho)
 |nilS=>intro _;simp only[AV.outV];exact .nilS
 |full h=>intro _;simp only[AV.outV];exact .full (h.mono (fun _ _=>rfl) ho)
 |agg hl _ h1 ih=>
  intro hw
  simp only[AV.outV,Ce,AV.wf] at hw ⊢
  refine .agg (by simpa using hl) (fun i a v ha hv'=>?_) h1
  have hwa:=AV.wfL_get hw ha
  simp only[List.getElem?_map,Option.map_eq_some_iff] at ha
  obtain⟨q,hq,rfl⟩:=ha
  exact ih i q v hq hv' hwa
 |tup hl _ ih=>
  intro hw
  simp only[AV.outV,Ce,AV.wf] at hw ⊢
  refine .tup (by simpa using hl) (fun i a v ha hv'=>?_)
  have hwa:=AV.wfL_get hw ha
  simp only[List.getElem?_map,Option.map_eq_some_iff] at ha
  obtain⟨q,hq,rfl⟩:=ha
  exact ih i q v hq hv' hwa
 |ptr hn=>
  intro hw
  simp only[AV.outV,AV.wf,ioB,decide_eq_true_eq] at hw ⊢
  obtain⟨h1,h2⟩:=hb _ hw hn
  rw[← h2];exact .ptr h1
 |cptr vs hok hcell h=>intro _;simp only[AV.outV];exact .cptr vs (ho _ hok) hcell (fun j x hx=>(h j x hx).mono (fun _ _=>rfl) ho)
 |vec hn=>
  rename_i n
  intro _
  simp only[AV.outV]
  cases hi:idxOf τ n with
  |none=>exact .undef
  |some i=>
   have h1:=Ct hi
   have h2:(τ.map p.rw)[i]? =some (p.rw n):=by simp[h1]
   exact RA.vec_at (OA.2 (List.getElem?_eq_some_iff.1 h2).1) (OB h2)
 |vptr hn hv=>intro _;simp only[AV.outV];exact .undef
 |cut _ _ _ _=>intro _;simp only[AV.outV];exact .undef
 |cut0 _ _=>intro _;simp only[AV.outV];exact .undef
 |slen=>intro _;simp only[AV.outV];exact .slen
 |iter=>intro _;simp only[AV.outV];exact .iter
 |fn hl _ ih=>
  intro hw
  simp only[AV.outV,Ce,AV.wf] at hw ⊢
  refine .fn (by simpa using hl) (fun i a v ha hv'=>?_)
  have hwa:=AV.wfL_get hw ha
  simp only[List.getElem?_map,Option.map_eq_some_iff] at ha
  obtain⟨q,hq,rfl⟩:=ha
  exact ih i q v hq hv' hwa
theorem LB {f:FuncId} {fn:Func} {c:Code} {nt:Nat} {rs:List ResultVar} {bx:List (List AV)} {vx:List VS} {args:List AV} {res:AV} {bx':List (List AV)} {vx':List VS} (hf:P.funcs[f]? =some fn) (hb:fn.body=some c) (hnt:fn.ntmps=nt) (hrs:fn.results.toList=rs)
  (hna:args.length≤nt) (hn6:nt≤1000000) (hlb:bx.length=bx'.length) (h:∀K:Ctx P,K.ios.length=bx.length→Tr P K c (Ap nt args bx vx) (WL P rs res bx' vx')):DI P f bx vx args res bx' vx':=by
 intro w ok io iv vs hpre hvs hargs hgl
 let K:Ctx P:=⟨w,ok,io,iv.filterMap Value.blk,fun b i x h=>⟨⟨(hpre.okb b (hgl b i x h).1).1,(hgl b i x h).1,(hpre.okb b (hgl b i x h).1).2.1,fun hm=>by obtain⟨v,hv,e⟩:=List.mem_filterMap.1 hm;exact(hpre.okb b (hgl b i x h).1).2.2 v hv e⟩,(hgl b i x h).2⟩⟩
 have hivs:∀b,b∈K.ivs↔∃v∈iv,v.blk=some b:=fun b=>List.mem_filterMap
 refine calls_of_wp hf hb ?_
 have hokc:∀b,ok b→okc K w (Ag io iv) b:=fun b hb'=>⟨(hpre.okb b hb').1,.inl hb',fun n hn e=>by
  obtain⟨h1,h2⟩:=hn
  have:(Ag io iv).bx n∈io:=by simp[Ag,List.getElem?_eq_getElem h2]
  exact(hpre.okb b hb').2.1 (e▸this),fun n hn=>by
  obtain⟨h1,h2⟩:=hn
  have:(Ag io iv).rw n∈iv:=by simp[Ag,List.getElem?_eq_getElem h2]
  exact(hpre.okb b hb').2.2 _ this⟩
 have hra:∀{x:AV} {v:Value},RA w ok (Ag io iv) x v→RA w (okc K w (Ag io iv)) (Ag io iv) x v:=fun h=>h.mono (fun _ _=>rfl) hokc (fun _ h=>⟨h,rfl⟩) (fun _ h=>⟨h,rfl⟩)
 have hgn:∀{α:Type} (base:Nat) (l:List α) (n:Nat) (x:α),get (A5 base l) n=some x→base≤n∧l[n - base]? =some x:=fun base l n x hg=>by
  rw[BB] at hg
  split at hg
  ·exact⟨‹_›,hg⟩
  ·cases hg
 have R:Rel K (Ap nt args bx vx) { tmps:=vs++Array.replicate (fn.ntmps - vs.size) undef,defers:=[]} w (Ag io iv):={
  lb:=by
   funext n
   simp only[Ag,St.lb,Ap,BB,eq_iff_iff,hpre.len]
   by_cases h:1000000≤n
   ·simp[h]
   ·simp[h]
  lv:=by
   funext n
   simp only[Ag,St.lv,Ap,BB,eq_iff_iff,hpre.lenv]
   by_cases h:2000000≤n
   ·simp[h]
   ·simp[h]
  dfr:=rfl
  nt:=by simp[Ap,hnt,hvs];omega
  ntl:=hn6
  ion:=fun i hi=>by have:=L2.1 hi;rw[L3 (List.getElem?_eq_getElem this)];exact List.getElem?_eq_getElem this
  size:=Nat.le_refl _
  os:=rfl
  tape:=rfl
  dr:=Nat.le_refl _
  output:=rfl
  old:=fun _ _ _=>rfl
  env:=fun t x hx=>by
   simp only[Ap,BB,Nat.zero_le,if_true,Nat.sub_zero] at hx
   have ht:t < vs.size:=by have:=(List.getElem?_eq_some_iff.1 hx).1;omega
   have:(vs++Array.replicate (fn.ntmps - vs.size) undef).getD t undef=vs[t]:=by simp[Array.getElem?_append,ht]
   rw[this]
   exact hra (hargs t x _ hx (by simp[ht]))
  box:=fun n cs hn=>by
   obtain⟨h1,h2⟩:=hgn _ _ n cs hn
   have hi:n - 1000000 < io.length:=by rw[hpre.len];exact(List.getElem?_eq_some_iff.1 h2).1
   obtain⟨⟨us,ty,g1,g2,g3,g4⟩⟩:=hpre.at_ (n - 1000000) io[n - 1000000] cs (List.getElem?_eq_getElem hi) h2
   have hbx:(Ag io iv).bx n=io[n - 1000000]:=by simp[Ag,List.getElem?_eq_getElem hi]
   exact⟨⟨us,ty,by rw[hbx];exact g1,g2,fun i c v hc hv=>hra (g3 i c v hc hv),g4⟩,.inr (.inl (by rw[hbx];exact List.getElem_mem hi))⟩
  vec:=fun n s hn=>by
   obtain⟨h1,h2⟩:=hgn _ _ n s hn
   have hi:n - 2000000 < iv.length:=by rw[hpre.lenv];exact(List.getElem?_eq_some_iff.1 h2).1
   obtain⟨g1,g3⟩:=hpre.vat (n - 2000000) iv[n - 2000000] s (List.getElem?_eq_getElem hi) h2
   have hrw:(Ag io iv).rw n=iv[n - 2000000]:=by simp[Ag,List.getElem?_eq_getElem hi]
   exact⟨by rw[hrw];exact g1.mono (fun _ _=>rfl) hokc (fun _ _=>rfl),g3,fun g hg=>.inr ((hivs g).2 ⟨_,List.getElem_mem hi,by rw[← hrw];exact hg⟩)⟩
  dbb:=fun n m hn hm hne e=>by
   have hn':1000000≤n∧n - 1000000 < io.length:=hn
   have hm':1000000≤m∧m - 1000000 < io.length:=hm
   clear hn hm
   obtain⟨n1,n2⟩:=hn'
   obtain⟨m1,m2⟩:=hm'
   have e2:((io[n - 1000000]?).getD 0)=((io[m - 1000000]?).getD 0):=e
   rw[List.getElem?_eq_getElem n2,List.getElem?_eq_getElem m2] at e2
   have:=(List.getElem_inj hpre.nodup).1 e2
   omega
  dbv:=fun n m hn hm=>by
   have hn':1000000≤n∧n - 1000000 < io.length:=hn
   have hm':2000000≤m∧m - 2000000 < iv.length:=hm
   have e1:(Ag io iv).bx n∈io:=by simp[Ag,List.getElem?_eq_getElem hn'.2]
   have e2:(Ag io iv).rw m∈iv:=by simp[Ag,List.getElem?_eq_getElem hm'.2]
   exact hpre.vio _ e2 _ e1
  dvv:=fun n m hn hm hne=>by
   have hn':2000000≤n∧n - 2000000 < iv.length:=hn
   have hm':2000000≤m∧m - 2000000 < iv.length:=hm
   clear hn hm
   obtain⟨n1,n2⟩:=hn'
   obtain⟨m1,m2⟩:=hm'
   obtain⟨v1,hv1⟩:∃v,iv[n - 2000000]? =some v:=⟨_,List.getElem?_eq_getElem n2⟩
   obtain⟨v2,hv2⟩:∃v,iv[m - 2000000]? =some v:=⟨_,List.getElem?_eq_getElem m2⟩
   have hq:n - 2000000≠m - 2000000:=by omega
   have e1:(Ag io iv).rw n=v1:=by show(iv[n - 2000000]?).getD undef=_;rw[hv1];rfl
   have e2:(Ag io iv).rw m=v2:=by show(iv[m - 2000000]?).getD undef=_;rw[hv2];rfl
   rw[e1,e2]
   exact hpre.vdis _ _ _ _ hv1 hv2 hq }
 refine wp_mono (h K hpre.len _ w _ R) fun e a' w' ⟨s,p',R',q⟩=>?_
 have key:S3 P rs res bx' vx' s→a'.defers=[]∧∃v,(results fn a'.tmps).run P w'=.ok v w'∧(∃u iv',Ending.returned v=.returned u∧RA w' (okn ok iv iv' w w') (Ag io iv') res u∧EG w' (okn ok iv iv' w w') io iv' bx' vx'∧(∀u∈iv',∀g,u.blk=some g→w.heap.size≤g∨∃v∈iv,v.blk=some g)∧Frm io iv w w'):=by
  rintro⟨ns,τ,hres,hwf,hbox,hvec,hnd⟩
  obtain⟨p2,R2⟩:=R'.frzs ns
  obtain⟨hvl,hvg⟩:=Dv hvec
  have hτl:∀n∈τ,p2.lv n:=fun n hn=>by
   obtain⟨i,hi,rfl⟩:=List.getElem_of_mem hn
   exact(R2.lvi _).2 (by simp[St.lv,hvg (List.getElem?_eq_getElem hi) (List.getElem?_eq_getElem (by omega))])
  cases hrl:C4 P (frzs s ns) rs with
  |none=>rw[hrl] at hres;cases hres
  |some xs=>
   rw[hrl] at hres
   simp only[Option.map_some,Option.some.injEq] at hres
   rw[← hrs] at hrl
   obtain⟨v,g1,g2⟩:=Hq R2 hrl
   have hok2:∀b,okc K w' p2 b→okn ok iv (τ.map p2.rw) w w' b:=fun b hb'=>⟨by
    rcases hb'.2.1 with h1 |h1 |h1
    ·exact .inl h1
    ·exact .inr (.inl h1)
    ·exact .inr (.inr ((hivs b).1 h1)),hb'.1,fun u hu e=>by
    obtain⟨n,hn,rfl⟩:=List.mem_map.1 hu
    exact hb'.2.2.2 n (hτl n hn) e⟩
   have hbl:∀n,1000000≤n→p2.lb n→(Ag io (τ.map p2.rw)).lb n∧(Ag io (τ.map p2.rw)).bx n=p2.bx n:=fun n hn hl=>by
    obtain⟨i,rfl⟩:∃i,n=InO i:=⟨n - 1000000,by unfold InO;omega⟩
    have h7:io[i]? =some (p2.bx (InO i)):=R2.ion i hl
    exact⟨L2.2 (List.getElem?_eq_some_iff.1 h7).1,L3 h7⟩
   have hexit:∀{x:AV} {u:Value},RA w' (okc K w' p2) p2 x u→(x.outV τ).wf ioB (fun _=>true)=true→RA w' (okn ok iv (τ.map p2.rw) w w') (Ag io (τ.map p2.rw)) (x.outV τ) u:=fun hx hw=>hx.outv hok2 hbl hw
   have hpb:∀i b,io[i]? =some b→∃cs0 cs,get (frzs s ns).box (InO i)=some cs0∧bx'[i]? =some cs∧AV.outVL τ (AV.finL cs0)=cs∧AV.wfL ioB (fun _=>true) cs=true∧p2.bx (InO i)=b:=fun i b hi=>by
    have hil:i < bx'.length:=by rw[← hlb,←hpre.len];exact(List.getElem?_eq_some_iff.1 hi).1
    obtain⟨cs0,k1,k2,k3⟩:=D3 hbox (List.getElem?_eq_getElem hil)
    rw[Nat.zero_add] at k1
    have:=R2.ion i ((R2.lbi _).2 (by simp[St.lb,k1]))
    rw[show K.ios[i]? =some b from hi] at this
    injection this with this
    exact⟨cs0,_,k1,List.getElem?_eq_getElem hil,k2,k3,this.symm⟩
   refine⟨R2.dfr,v,g1,v,τ.map p2.rw,rfl,by rw[← hres];exact hexit g2.fin (by rw[hres];exact hwf),⟨hpre.len.trans hlb,hpre.nodup,fun b hb'=>⟨hb'.2.1,fun hm=>?_,hb'.2.2⟩,fun i b cs hi hc=>?_,by simp[hvl],fun i v s hv hs=>?_,fun i j v u hv hu hij=>?_,fun v hv b hb'=>?_⟩,fun u hu g hg=>?_,⟨R2.size,R2.os,R2.tape,R2.dr,R2.output,fun b h1 h2 h3=>R2.old b h1 (fun h=>h.elim h2 (fun h=>by obtain⟨v,hv,he⟩:=(hivs b).1 h;exact h3 v hv he))⟩⟩
   ·obtain⟨i,hi⟩:=List.mem_iff_getElem?.1 hm
    rcases hb'.1 with h1 |h1 |⟨u,h1,h2⟩
    ·exact(hpre.okb b h1).2.1 hm
    ·have hil:=(List.getElem?_eq_some_iff.1 hi).1
     obtain⟨⟨us,ty,g1,_⟩⟩:=hpre.at_ i b _ hi (List.getElem?_eq_getElem (by rw[← hpre.len];exact hil))
     have:=(Array.getElem?_eq_some_iff.1 g1).1
     omega
    ·exact hpre.vio u h1 b hm h2
   ·obtain⟨cs0,cs1,k1,k2,k3,k4,k5⟩:=hpb i b hi
    rw[hc] at k2;cases k2
    obtain⟨⟨us,ty,g1,g2,g3,g4⟩,_⟩:=R2.box (InO i) cs0 k1
    refine⟨⟨us,ty,by rw[← k5];exact g1,by rw[g2,←k3,Ce,Dt];simp,fun j c v hc' hv=>?_,g4⟩⟩
    have hw:=AV.wfL_get k4 hc'
    rw[← k3,Ce,Dt] at hc'
    simp only[List.getElem?_map,Option.map_eq_some_iff] at hc'
    obtain⟨q',⟨q,hq,rfl⟩,rfl⟩:=hc'
    exact hexit (g3 j q v hq hv).fin hw
   ·rw[List.getElem?_map] at hv
    cases hn:τ[i]? with
    |none=>rw[hn] at hv;cases hv
    |some n=>
     rw[hn] at hv;cases hv
     obtain⟨a1,a3,_⟩:=R2.vec n s (hvg hn hs)
     exact⟨a1.mono (fun _ _=>rfl) hok2 (fun _ _=>rfl),a3⟩
   ·rw[List.getElem?_map] at hv hu
    cases hn:τ[i]? with
    |none=>rw[hn] at hv;cases hv
    |some n=>
     cases hm:τ[j]? with
     |none=>rw[hm] at hu;cases hu
     |some m=>
      rw[hn] at hv;rw[hm] at hu;cases hv;cases hu
      refine R2.dvv n m (hτl n (List.mem_of_getElem? hn)) (hτl m (List.mem_of_getElem? hm)) (fun e=>hij ?_)
      subst e
      exact(List.getElem?_inj (List.getElem?_eq_some_iff.1 hn).1 hnd).1 (hn.trans hm.symm)
   ·obtain⟨n,hn,rfl⟩:=List.mem_map.1 hv
    obtain⟨i,hi⟩:=List.mem_iff_getElem?.1 hb'
    obtain⟨cs0,cs1,k1,_,_,_,k5⟩:=hpb i b hi
    rw[← k5]
    exact R2.dbv _ n ((R2.lbi _).2 (by simp[St.lb,k1])) (hτl n hn)
   ·obtain⟨n,hn,rfl⟩:=List.mem_map.1 hu
    rcases(R2.vlt (hτl n hn) hg).1 with h1 |h1
    ·exact .inl h1
    ·exact .inr ((hivs g).1 h1)
 cases e with
 |normal=>exact key q
 |ret=>exact key q
 |_=>exact q.elim
theorem Iv {f:FuncId} {fn:Func} {c:Code} {nt:Nat} {rs:List ResultVar} {bx:List (List AV)} {vx:List VS} {args:List AV} {res:AV} {bx':List (List AV)} {vx':List VS} (hf:P.funcs[f]? =some fn) (hb:fn.body=some c) (hnt:fn.ntmps=nt) (hrs:fn.results.toList=rs)
  (hna:args.length≤nt) (hn6:nt≤1000000) (hlb:bx.length=bx'.length) (h:∀K:Ctx P,Tr P K c (Ap nt args bx vx) (WL P rs res bx' vx')):DI P f bx vx args res bx' vx':=
 LB hf hb hnt hrs hna hn6 hlb fun K _=>h K
theorem OC (τ:List Nat) (x:AV):x.wf ioB (fun _=>false)=true→x.outV τ=x:=by
 refine AV.rec (motive_1:=fun x=>x.wf ioB (fun _=>false)=true→x.outV τ=x) (motive_2:=fun l=>AV.wfL ioB (fun _=>false) l=true→AV.outVL τ l=l) ?_ ?_ ?_ ?_ ?_ ?_ ?_ ?_ ?_ ?_ ?_ ?_ ?_ ?_ ?_ ?_ x
 all_goals intros
 all_goals simp_all [AV.wf,AV.wfL,AV.outV,AV.outVL]
theorem OD (x:AV):x.wf ioB (fun _=>false)=true→x.wf ioB (fun _=>true)=true:=by
 refine AV.rec (motive_1:=fun x=>x.wf ioB (fun _=>false)=true→x.wf ioB (fun _=>true)=true) (motive_2:=fun l=>AV.wfL ioB (fun _=>false) l=true→AV.wfL ioB (fun _=>true) l=true) ?_ ?_ ?_ ?_ ?_ ?_ ?_ ?_ ?_ ?_ ?_ ?_ ?_ ?_ ?_ ?_ x
 all_goals intros
 all_goals simp_all [AV.wf,AV.wfL]
theorem OE {rs:List ResultVar} {res:AV} {bx':List (List AV)} {s:St} (h:Fin P rs res bx' s):S3 P rs res bx' [] s:=by
 obtain⟨ns,h1,h2,h3⟩:=h
 refine⟨ns,[],?_,OD _ h2,?_,trivial,List.nodup_nil⟩
 ·cases hr:C4 P (frzs s ns) rs with
  |none=>rw[hr] at h1;cases h1
  |some xs=>
   rw[hr] at h1
   simp only[Option.map_some,Option.some.injEq] at h1 ⊢
   rw[h1,OC _ _ h2]
 ·have key:∀(bx:List (List AV)) (i:Nat),GN (frzs s ns) i bx→DW (frzs s ns) [] i bx:=fun bx=>by
   induction bx with
   |nil=>intro i _;trivial
   |cons cs bx ih=>
    intro i hb
    obtain⟨⟨cs0,k1,k2,k3⟩,k4⟩:=hb
    have hw:=OD (.agg cs) (by simpa only[AV.wf] using k3)
    refine⟨⟨cs0,k1,?_,by simpa only[AV.wf] using hw⟩,ih _ k4⟩
    have:=OC [] (.agg cs) (by simpa only[AV.wf] using k3)
    simp only[AV.outV,AV.agg.injEq] at this
    rw[k2,this]
  exact key bx' 0 h3
theorem AW {f:FuncId} {fn:Func} {c:Code} {nt:Nat} {rs:List ResultVar} {bx:List (List AV)} {args:List AV} {res:AV} {bx':List (List AV)} (hf:P.funcs[f]? =some fn) (hb:fn.body=some c) (hnt:fn.ntmps=nt) (hrs:fn.results.toList=rs)
  (hna:args.length≤nt) (hn6:nt≤1000000) (hlb:bx.length=bx'.length) (h:∀K:Ctx P,Tr P K c (LA nt args bx) (Wc P rs res bx')):Ac P f bx args res bx':=
 Iv hf hb hnt hrs hna hn6 hlb fun K a w p R=>wp_mono (h K a w p R) fun e a' w' ⟨s,p',R',q⟩=>⟨s,p',R',by
  cases e with
  |normal=>exact OE q
  |ret=>exact OE q
  |_=>exact q.elim⟩
end
end Go.Vl
namespace Go.Vl
open Go Go.RowKit
/- what a callee sees of a value: the rows τ are handed on, the rows vs are seen as data -/
mutual
def AV.view (vs:List (Nat×VS)) (τ σ:List Nat):AV→AV
 | .nilS=>.d (.slice [])
 | .full rows=>.d (.slice rows)
 | .vec n=>match idxOf τ n with |some i=>.vec (InV i) |none=>match get vs n with |some s=>if s.isM=true then .d (.mp s.e s.z s.rows) else .d (.slice s.rows) |none=>.undef
 | .ptr n o=>match idxOf σ n with |some i=>.ptr (InO i) o |none=>.undef
 | .vptr n z i o=>match idxOf τ n with |some j=>.vptr (InV j) z i o |none=>.undef
 | .cut _ _ _ _=>.undef
 | .agg l=>.agg (AV.viewL vs τ σ l)
 | .tup l=>.tup (AV.viewL vs τ σ l)
 | .fn f l=>.fn f (AV.viewL vs τ σ l)
 |x=>x
def AV.viewL (vs:List (Nat×VS)) (τ σ:List Nat):List AV→List AV
 |[]=>[]
 |x::l=>AV.view vs τ σ x::AV.viewL vs τ σ l
end
theorem Db (vs:List (Nat×VS)) (τ σ:List Nat):∀l:List AV,AV.viewL vs τ σ l=l.map (AV.view vs τ σ)
 |[]=>rfl
 |x::l=>by simp[AV.viewL,Db vs τ σ l]
/- what a result is to the caller -/
mutual
def AV.back (υ σ:List Nat):AV→AV
 | .ptr n o=>match σ[n - 1000000]? with |some m=>.ptr m o |none=>.undef
 | .vec n=>match υ[n - 2000000]? with |some m=>.vec m |none=>.undef
 | .vptr _ _ _ _=>.undef
 | .cut _ _ _ _=>.undef
 | .agg l=>.agg (AV.backL υ σ l)
 | .tup l=>.tup (AV.backL υ σ l)
 | .fn f l=>.fn f (AV.backL υ σ l)
 |x=>x
def AV.backL (υ σ:List Nat):List AV→List AV
 |[]=>[]
 |x::l=>AV.back υ σ x::AV.backL υ σ l
end
theorem Dc (υ σ:List Nat):∀l:List AV,AV.backL υ σ l=l.map (AV.back υ σ)
 |[]=>rfl
 |x::l=>by simp[AV.backL,Dc υ σ l]
/- no address is in it -/
mutual
def AV.flat:AV→Bool
 | .d (.int _ _) | .d (.bool _) | .d (.str _) | .iter _=>true
 | .agg l=>AV.flatL l
 | .tup l=>AV.flatL l
 |_=>false
def AV.flatL:List AV→Bool
 |[]=>true
 |x::l=>AV.flat x&&AV.flatL l
end
/- of what may share memory with owned rows: what needs no memory -/
mutual
def AV.dry:AV→AV
 | .d (.int k n)=>.d (.int k n)
 | .d (.bool b)=>.d (.bool b)
 | .d (.str s)=>.d (.str s)
 | .d (.slice rows)=>.slen rows.length
 | .iter r=>.iter r
 | .agg l=>.agg (AV.dryL l)
 | .tup l=>.tup (AV.dryL l)
 |_=>.undef
def AV.dryL:List AV→List AV
 |[]=>[]
 |x::l=>AV.dry x::AV.dryL l
end
theorem LC:∀l:List AV,AV.dryL l=l.map AV.dry
 |[]=>rfl
 |x::l=>by simp[AV.dryL,LC l]
theorem RA.dry {w w':World} {ok ok':Nat→Prop} {p p':Pl} {x:AV} {v:Value} (h:RA w ok p x v):RA w' ok' p' x.dry v:=by
 induction h with
 |d h=>
  cases h with
  |int=>exact .d .int
  |bool=>exact .d .bool
  |str=>exact .d .str
  |nilp=>exact .undef
  |snil=>exact .slen
  |slice=>exact .slen
  |mp=>exact .undef
 |agg hl _ h1 ih=>
  simp only[AV.dry,LC]
  refine .agg (by simpa using hl) (fun i a v ha hv'=>?_) h1
  simp only[List.getElem?_map,Option.map_eq_some_iff] at ha
  obtain⟨q,hq,rfl⟩:=ha
  exact ih i q v hq hv'
 |tup hl _ ih=>
  simp only[AV.dry,LC]
  refine .tup (by simpa using hl) (fun i a v ha hv'=>?_)
  simp only[List.getElem?_map,Option.map_eq_some_iff] at ha
  obtain⟨q,hq,rfl⟩:=ha
  exact ih i q v hq hv'
 |iter=>simp only[AV.dry];exact .iter
 |_=>simp only[AV.dry];exact .undef
theorem RA.view {w:World} {ok ok':Nat→Prop} {p:Pl} {vs:List (Nat×VS)} {τ σ:List Nat} (ho:∀b,ok b→ok' b) (hv:∀n s,get vs n=some s→p.lv n→(s.isM=false→RD w ok' (.slice s.rows) (p.rw n))∧(s.isM=true→RD w ok' (.mp s.e s.z s.rows) (p.rw n))) {x:AV} {v:Value} (h:RA w ok p x v):
  RA w ok' (Ag (σ.map p.bx) (τ.map p.rw)) (x.view vs τ σ) v:=by
 induction h with
 |undef=>simp only[AV.view];exact .undef
 |d h=>simp only[AV.view];exact .d (h.mono (fun _ _=>rfl) ho)
 |nilS=>simp only[AV.view];exact .d .snil
 |full h=>simp only[AV.view];exact .d (h.mono (fun _ _=>rfl) ho)
 |agg hl _ h1 ih=>
  simp only[AV.view,Db]
  refine .agg (by simpa using hl) (fun i a v ha hv'=>?_) h1
  simp only[List.getElem?_map,Option.map_eq_some_iff] at ha
  obtain⟨q,hq,rfl⟩:=ha
  exact ih i q v hq hv'
 |tup hl _ ih=>
  simp only[AV.view,Db]
  refine .tup (by simpa using hl) (fun i a v ha hv'=>?_)
  simp only[List.getElem?_map,Option.map_eq_some_iff] at ha
  obtain⟨q,hq,rfl⟩:=ha
  exact ih i q v hq hv'
 |ptr hm=>
  rename_i n o
  simp only[AV.view]
  cases hi:idxOf σ n with
  |none=>exact .undef
  |some i=>
   have h1:=Ct hi
   have h2:(σ.map p.bx)[i]? =some (p.bx n):=by simp[h1]
   refine RA.ptr_at (L2.2 (List.getElem?_eq_some_iff.1 h2).1) (L3 h2)
 |cptr us h1 h2 h3=>simp only[AV.view];exact .cptr us (ho _ h1) h2 (fun j x hx=>(h3 j x hx).mono (fun _ _=>rfl) ho)
 |vec hm=>
  rename_i n
  simp only[AV.view]
  cases hi:idxOf τ n with
  |some i=>
   have h1:=Ct hi
   have h2:(τ.map p.rw)[i]? =some (p.rw n):=by simp[h1]
   exact RA.vec_at (OA.2 (List.getElem?_eq_some_iff.1 h2).1) (OB h2)
  |none=>
   simp only
   cases hs:get vs n with
   |none=>exact .undef
   |some s=>
    simp only
    split
    ·exact .d ((hv n s hs hm).2 ‹s.isM=true›)
    ·exact .d ((hv n s hs hm).1 (by simpa using ‹¬s.isM=true›))
 |vptr hm he=>
  rename_i n z i o g c len
  simp only[AV.view]
  cases hi:idxOf τ n with
  |some j=>
   have h1:=Ct hi
   have h2:(τ.map p.rw)[j]? =some (p.rw n):=by simp[h1]
   exact .vptr (OA.2 (List.getElem?_eq_some_iff.1 h2).1) ((OB h2).trans he)
  |none=>exact .undef
 |cut _ _ _ _=>simp only[AV.view];exact .undef
 |cut0 _ _=>simp only[AV.view];exact .undef
 |slen=>simp only[AV.view];exact .slen
 |iter=>simp only[AV.view];exact .iter
 |fn hl _ ih=>
  simp only[AV.view,Db]
  refine .fn (by simpa using hl) (fun i a v ha hv'=>?_)
  simp only[List.getElem?_map,Option.map_eq_some_iff] at ha
  obtain⟨q,hq,rfl⟩:=ha
  exact ih i q v hq hv'
theorem RA.back {w:World} {ok ok':Nat→Prop} {p':Pl} {σ υ:List Nat} {bxs:List Nat} {iv':List Value} (ho:∀b,ok b→ok' b) (hb:∀(i n:Nat),σ[i]? =some n→p'.lb n∧bxs[i]? =some (p'.bx n)) (hv:∀(i n:Nat),υ[i]? =some n→p'.lv n∧iv'[i]? =some (p'.rw n))
  {x:AV} {v:Value} (h:RA w ok (Ag bxs iv') x v):RA w ok' p' (x.back υ σ) v:=by
 induction h with
 |undef=>simp only[AV.back];exact .undef
 |d h=>simp only[AV.back];exact .d (h.mono (fun _ _=>rfl) ho)
 |nilS=>simp only[AV.back];exact .nilS
 |full h=>simp only[AV.back];exact .full (h.mono (fun _ _=>rfl) ho)
 |agg hl _ h1 ih=>
  simp only[AV.back,Dc]
  refine .agg (by simpa using hl) (fun i a v ha hv'=>?_) h1
  simp only[List.getElem?_map,Option.map_eq_some_iff] at ha
  obtain⟨q,hq,rfl⟩:=ha
  exact ih i q v hq hv'
 |tup hl _ ih=>
  simp only[AV.back,Dc]
  refine .tup (by simpa using hl) (fun i a v ha hv'=>?_)
  simp only[List.getElem?_map,Option.map_eq_some_iff] at ha
  obtain⟨q,hq,rfl⟩:=ha
  exact ih i q v hq hv'
 |ptr hm=>
  rename_i n o
  simp only[AV.back]
  cases hi:σ[n - 1000000]? with
  |none=>exact .undef
  |some m=>
   obtain⟨h1,h2⟩:=hb _ _ hi
   have h3:(Ag bxs iv').bx n=p'.bx m:=by simp[Ag,h2]
   rw[h3]
   exact .ptr h1
 |cptr us h1 h2 h3=>simp only[AV.back];exact .cptr us (ho _ h1) h2 (fun j x hx=>(h3 j x hx).mono (fun _ _=>rfl) ho)
 |vec hm=>
  rename_i n
  simp only[AV.back]
  cases hi:υ[n - 2000000]? with
  |none=>exact .undef
  |some m=>
   obtain⟨h1,h2⟩:=hv _ _ hi
   have h3:(Ag bxs iv').rw n=p'.rw m:=by simp[Ag,h2]
   rw[h3]
   exact .vec h1
 |vptr h1 h2=>simp only[AV.back];exact .undef
 |cut _ _ _ _=>simp only[AV.back];exact .undef
 |cut0 _ _=>simp only[AV.back];exact .undef
 |slen=>simp only[AV.back];exact .slen
 |iter=>simp only[AV.back];exact .iter
 |fn hl _ ih=>
  simp only[AV.back,Dc]
  refine .fn (by simpa using hl) (fun i a v ha hv'=>?_)
  simp only[List.getElem?_map,Option.map_eq_some_iff] at ha
  obtain⟨q,hq,rfl⟩:=ha
  exact ih i q v hq hv'
def Bu (st:St) (τ σ0:List Nat):List Nat→List (List AV)→Prop
 |[],[]=>True
 |n::σ,cs::bx=>(∃cs0,get st.box n=some cs0∧AV.viewL [] τ σ0 cs0=cs)∧Bu st τ σ0 σ bx
 |_,_=>False
def A1 (υ σ0:List Nat):List Nat→List (List AV)→List (Nat×List AV)→List (Nat×List AV)
 |n::σ,cs::bx,l=>(n,AV.backL υ σ0 cs)::A1 υ σ0 σ bx l
 |_,_,l=>l
def M4:List Nat→List VS→List (Nat×VS)→List (Nat×VS)
 |n::υ,s::vx,l=>(n,s)::M4 υ vx l
 |_,_,l=>l
def M5:List Nat→List (Nat×VS)→List (Nat×VS)
 |[],l=>l
 |n::τ,l=>M5 τ (del l n)
def AV.scrubs (τ:List Nat) (x:AV):AV:=if x.wf (fun _=>true) (fun m=>!τ.contains m) then x else .undef
def M6:List Nat→List (Nat×AV)→List (Nat×AV)
 |[],l=>l
 |n::τ,l=>Bl (AV.scrubs (n::τ)) l
def Iw:List Nat→List (Nat×List AV)→List (Nat×List AV)
 |[],l=>l
 |n::τ,l=>Bl (List.map (AV.scrubs (n::τ))) l
section
variable {P:Program} {K:Ctx P} {st:St} {a:Act} {w:World} {p:Pl} {ops:Array Oper} {Q:Exit→St→Prop}
theorem Hr {st:St} {τ σ0:List Nat}:∀{σ:List Nat} {bx:List (List AV)},Bu st τ σ0 σ bx→σ.length=bx.length∧∀(i:Nat) (n:Nat) (cs:List AV),σ[i]? =some n→bx[i]? =some cs→∃cs0,get st.box n=some cs0∧AV.viewL [] τ σ0 cs0=cs
 |[],[],_=>⟨rfl,fun i n cs h=>by simp at h⟩
 |n::σ,cs::bx,h=>by
  obtain⟨h1,h2⟩:=Hr h.2
  refine⟨by simp[h1],fun i m c hm hc=>?_⟩
  cases i with
  |zero=>simp at hm hc;subst hm;subst hc;exact h.1
  |succ i=>exact h2 i m c (by simpa using hm) (by simpa using hc)
 |[],_::_,h=>h.elim
 |_::_,[],h=>h.elim
theorem GO (υ σ0:List Nat):∀{σ:List Nat} {bx:List (List AV)} {l:List (Nat×List AV)} {n:Nat} {cs:List AV},σ.length=bx.length→σ.Nodup→get (A1 υ σ0 σ bx l) n=some cs→
  (∃(i:Nat) (c:List AV),σ[i]? =some n∧bx[i]? =some c∧cs=AV.backL υ σ0 c)∨(n∉σ∧get l n=some cs)
 |[],[],l,n,cs,_,_,h=>.inr ⟨by simp,h⟩
 |m::σ,c::bx,l,n,cs,hl,hn,h=>by
  simp only[A1,get] at h
  split at h
  ·rename_i e;subst e;cases h;exact .inl ⟨0,c,rfl,rfl,rfl⟩
  ·rename_i e
   rcases GO υ σ0 (by simpa using hl) (List.nodup_cons.1 hn).2 h with ⟨i,c',h1,h2,h3⟩ |⟨h1,h2⟩
   ·exact .inl ⟨i+1,c',by simpa using h1,by simpa using h2,h3⟩
   ·exact .inr ⟨by simp[h1];exact fun e'=>e e'.symm,h2⟩
 |[],_::_,_,_,_,hl,_,_=>by simp at hl
 |_::_,[],_,_,_,hl,_,_=>by simp at hl
theorem GP (υ σ0:List Nat):∀{σ:List Nat} {bx:List (List AV)} {l:List (Nat×List AV)},σ.length=bx.length→∀n,(get (A1 υ σ0 σ bx l) n).isSome=true↔(n∈σ∨(get l n).isSome=true)
 |[],[],l,_,n=>by simp[A1]
 |m::σ,c::bx,l,hl,n=>by
  simp only[A1,get]
  split
  ·rename_i e;subst e;simp
  ·rename_i e
   rw[GP υ σ0 (by simpa using hl) n]
   simp[Ne.symm e]
 |[],_::_,_,hl,_=>by simp at hl
 |_::_,[],_,hl,_=>by simp at hl
theorem FD:∀{υ:List Nat} {vx:List VS} {l:List (Nat×VS)} {n:Nat},υ.length=vx.length→υ.Nodup→(∀(i:Nat),υ[i]? =some n→get (M4 υ vx l) n=vx[i]?)∧(n∉υ→get (M4 υ vx l) n=get l n)
 |[],[],l,n,_,_=>⟨fun i h=>by simp at h,fun _=>rfl⟩
 |m::υ,s::vx,l,n,hl,hn=>by
  have hn':=List.nodup_cons.1 hn
  obtain⟨h1,h2⟩:=FD (υ:=υ) (vx:=vx) (l:=l) (n:=n) (by simpa using hl) hn'.2
  refine⟨fun i hi=>?_,fun hni=>?_⟩
  ·simp only[M4,get]
   cases i with
   |zero=>simp at hi;rw[if_pos hi];rfl
   |succ i=>
    have hi':υ[i]? =some n:=by simpa using hi
    rw[if_neg (fun e=>hn'.1 (by rw[e];exact List.mem_of_getElem? hi')),h1 i hi'];rfl
  ·simp only[M4,get]
   rw[if_neg (fun e=>hni (by simp[e])),h2 (fun h=>hni (by simp[h]))]
 |[],_::_,_,_,hl,_=>by simp at hl
 |_::_,[],_,_,hl,_=>by simp at hl
theorem Iy:∀(τ:List Nat) (l:List (Nat×VS)) (n:Nat),get (M5 τ l) n=if n∈τ then none else get l n
 |[],l,n=>by simp[M5]
 |m::τ,l,n=>by
  simp only[M5,Iy τ,Av,List.mem_cons]
  by_cases h:n∈τ
  ·simp[h]
  ·by_cases h2:m=n
   ·simp[h2]
   ·simp[h,h2,Ne.symm h2]
theorem Hs (τ:List Nat) (x:AV):x.scrubs τ=.undef∨(x.scrubs τ=x∧x.wf (fun _=>true) (fun m=>!τ.contains m)=true):=by
 unfold AV.scrubs;split
 ·exact .inr ⟨rfl,‹_›⟩
 ·exact .inl rfl
theorem QP (x:AV):x.wf (fun _=>true) (fun m=>!([]:List Nat).contains m)=true:=by
 have:(fun m:Nat=>!([]:List Nat).contains m)=fun _=>true:=by funext m;rfl
 rw[this];exact CF x
theorem M7 {τ:List Nat} {l:List (Nat×AV)} {t:Nat} {y:AV} (h:get (M6 τ l) t=some y):∃x,get l t=some x∧(y=.undef∨(y=x∧x.wf (fun _=>true) (fun m=>!τ.contains m)=true)):=by
 cases τ with
 |nil=>exact⟨y,h,.inr ⟨rfl,QP y⟩⟩
 |cons n τ=>
  obtain⟨x,hx,rfl⟩:=A3 h
  refine⟨x,hx,?_⟩
  rcases Hs (n::τ) x with h0 |⟨h0,hw⟩
  ·exact .inl h0
  ·exact .inr ⟨h0,hw⟩
theorem M8 {τ:List Nat} {l:List (Nat×List AV)} {t:Nat} {cs':List AV} (h:get (Iw τ l) t=some cs'):∃cs,get l t=some cs∧cs'.length=cs.length∧∀(i:Nat) (c:AV),cs'[i]? =some c→c=.undef∨(cs[i]? =some c∧c.wf (fun _=>true) (fun m=>!τ.contains m)=true):=by
 cases τ with
 |nil=>exact⟨cs',h,rfl,fun i c hc=>.inr ⟨hc,QP c⟩⟩
 |cons n τ=>
  obtain⟨cs,hcs,rfl⟩:=A3 h
  refine⟨cs,hcs,by simp,fun i c hc=>?_⟩
  rw[List.getElem?_map] at hc
  cases hq:cs[i]? with
  |none=>rw[hq] at hc;cases hc
  |some q=>
   rw[hq] at hc;cases hc
   rcases Hs (n::τ) q with h0 |⟨h0,hw⟩
   ·exact .inl h0
   ·exact .inr ⟨by rw[h0],by rw[h0];exact hw⟩
theorem M9 (τ:List Nat) (l:List (Nat×List AV)) (n:Nat):(get (Iw τ l) n).isSome=(get l n).isSome:=by
 cases τ with
 |nil=>rfl
 |cons m τ=>simp[Iw,BF]
def CN (st:St) (σ τ υ:List Nat) (bx':List (List AV)) (vx':List VS):St:=
 {nt:=st.nt,env:=M6 τ st.env,box:=A1 υ σ σ bx' (Iw τ st.box),vec:=M4 υ vx' (M5 τ st.vec)}
theorem Rel.calledV (R:Rel K st a w p) {σ τ υ:List Nat} {bx':List (List AV)} {vx':List VS} {iv':List Value} {w':World} (hn:σ.Nodup) (hσ:∀n∈σ,p.lb n) (hl:σ.length=bx'.length) (hτ:∀n∈τ,p.lv n) (hυ:υ.Nodup) (hυl:υ.length=vx'.length)
  (hυf:∀n∈υ,n∈τ∨¬p.lv n) (hf:Frm (σ.map p.bx) (τ.map p.rw) w w') (hpre:EG w' (okn (okc K w p) (τ.map p.rw) iv' w w') (σ.map p.bx) iv' bx' vx') (hown:∀u∈iv',∀g,u.blk=some g→w.heap.size≤g∨∃v∈τ.map p.rw,v.blk=some g):
  ∃p',Rel K (CN st σ τ υ bx' vx') a w' p'∧(∀b,okn (okc K w p) (τ.map p.rw) iv' w w' b→okc K w' p' b)∧(∀(i n:Nat),σ[i]? =some n→p'.lb n∧(σ.map p.bx)[i]? =some (p'.bx n))∧(∀(i n:Nat),υ[i]? =some n→p'.lv n∧iv'[i]? =some (p'.rw n))∧p'.bx=p.bx:=by
 let p':Pl:=⟨p.bx,fun n=>match idxOf υ n with |some i=>(iv'[i]?).getD undef |none=>p.rw n,p.lb,fun n=>n∈υ∨(n∉τ∧p.lv n)⟩
 have hivl:iv'.length=υ.length:=by rw[hpre.lenv,hυl]
 have rwo:∀n,n∉υ→p'.rw n=p.rw n:=fun n h=>by show(match idxOf υ n with |some i=>(iv'[i]?).getD undef |none=>p.rw n)=_;rw[F6.2 h]
 have rwn:∀(i n:Nat),υ[i]? =some n→iv'[i]? =some (p'.rw n):=fun i n h=>by
  have hi:i < iv'.length:=by rw[hivl];exact(List.getElem?_eq_some_iff.1 h).1
  show _=some (match idxOf υ n with |some i=>(iv'[i]?).getD undef |none=>p.rw n)
  rw[L4 hυ h];simp[List.getElem?_eq_getElem hi]
 have mem':∀n∈υ,p'.rw n∈iv':=fun n h=>by
  obtain⟨i,hi⟩:=List.mem_iff_getElem?.1 h
  exact List.mem_of_getElem? (rwn i n hi)
 have nu:∀n,n∉τ→p.lv n→n∉υ:=fun n h1 h2 h3=>(hυf n h3).elim h1 (fun h=>h h2)
 have hnot:∀{b:Nat},b∈σ.map p.bx→∃n∈σ,p.bx n=b:=fun h=>by simpa using h
 have hnotv:∀{v:Value},v∈τ.map p.rw→∃n∈τ,p.rw n=v:=fun h=>by simpa using h
 have hokn:∀b,okn (okc K w p) (τ.map p.rw) iv' w w' b→okc K w' p' b:=fun b h=>by
  obtain⟨h1,h2,h3⟩:=h
  refine⟨h2,?_,fun n hn' e=>?_,fun n hn' e=>?_⟩
  ·rcases h1 with h1 |h1 |⟨v,hv,he⟩
   ·exact h1.2.1
   ·exact .inr (.inl (Nat.le_trans R.size h1))
   ·obtain⟨n,hn',rfl⟩:=hnotv hv
    exact .inr (R.vlt (hτ n hn') he).1
  ·rcases h1 with h1 |h1 |⟨v,hv,he⟩
   ·exact h1.2.2.1 n hn' e
   ·have:=R.blt hn';have e':b=p.bx n:=e;omega
   ·obtain⟨m,hm,rfl⟩:=hnotv hv
    exact R.dbv n m hn' (hτ m hm) (by rw[he];congr 1)
  ·rcases hn' with hn' |⟨hn1,hn2⟩
   ·exact h3 _ (mem' n hn') e
   ·rw[rwo n (nu n hn1 hn2)] at e
    rcases h1 with h1 |h1 |⟨v,hv,he⟩
    ·exact h1.2.2.2 n hn2 e
    ·have:=(R.vlt hn2 e).2;omega
    ·obtain⟨m,hm,rfl⟩:=hnotv hv
     have hnm:n≠m:=fun e'=>hn1 (e'▸hm)
     rcases R.dvv n m hn2 (hτ m hm) hnm with h0 |h0
     ·rw[h0] at e;cases e
     ·exact h0 (by rw[e,he])
 have hoko:∀b,okc K w p b→okn (okc K w p) (τ.map p.rw) iv' w w' b:=fun b h=>⟨.inl h,Nat.lt_of_lt_of_le h.1 hf.size,fun u hu e=>by
  rcases hown u hu b e with h1 |⟨v,hv,he⟩
  ·have:=h.1;omega
  ·obtain⟨m,hm,rfl⟩:=hnotv hv
   exact h.2.2.2 m (hτ m hm) he⟩
 have hτb:∀b,(∀m∈τ,(p.rw m).blk≠some b)→∀v∈τ.map p.rw,v.blk≠some b:=fun b h v hv=>by
  obtain⟨m,hm,rfl⟩:=hnotv hv;exact h m hm
 have E:Evo K w w' p p' (fun _=>true) (fun m=>!τ.contains m):=
  ⟨hf.size,hf.os,hf.tape,hf.output,fun b hb hi=>hf.block b (Nat.lt_of_lt_of_le hb R.size) (fun h=>by
    obtain⟨n,hn',rfl⟩:=hnot h
    obtain⟨cs,hcs⟩:=Option.isSome_iff_exists.1 ((R.lbi n).1 (hσ n hn'))
    rcases(R.box n cs hcs).mine with h0 |h0
    ·omega
    ·exact hi h0) (hτb b fun m hm e=>by
    rcases(R.vlt (hτ m hm) e).1 with h0 |h0
    ·omega
    ·exact hi (.inr h0)),
   fun q hq=>Aq (hf.block _ hq.1 (fun h=>by obtain⟨n,hn',e⟩:=hnot h;exact hq.2.2.1 n (hσ n hn') e.symm) (hτb _ fun m hm e=>hq.2.2.2 m (hτ m hm) e)),
   fun b h=>hokn b (hoko b h),fun _ _ h=>⟨h,rfl⟩,fun m hm h=>by
    have hm':m∉τ:=by simpa using hm
    exact⟨.inr ⟨hm',h⟩,rwo m (nu m hm' h)⟩,hf.dr⟩
 have hback:∀(i n:Nat),σ[i]? =some n→p'.lb n∧(σ.map p.bx)[i]? =some (p'.bx n):=fun i n h=>⟨hσ n (List.mem_of_getElem? h),by simp[h];rfl⟩
 have hbackv:∀(i n:Nat),υ[i]? =some n→p'.lv n∧iv'[i]? =some (p'.rw n):=fun i n h=>⟨.inl (List.mem_of_getElem? h),rwn i n h⟩
 have hvd:∀n,p.lb n→∀u∈iv',u.blk≠some (p.bx n):=fun n hn' u hu e=>by
  rcases hown u hu _ e with h1 |⟨v,hv,he⟩
  ·have:=R.blt hn';omega
  ·obtain⟨m,hm,rfl⟩:=hnotv hv
   exact R.dbv n m hn' (hτ m hm) he
 have hvo:∀n,n∉τ→p.lv n→∀u∈iv',∀g,u.blk=some g→(p.rw n).blk≠some g:=fun n hn1 hn2 u hu g hg e=>by
  rcases hown u hu g hg with h1 |⟨v,hv,he⟩
  ·have:=(R.vlt hn2 e).2;omega
  ·obtain⟨m,hm,rfl⟩:=hnotv hv
   have hnm:n≠m:=fun e'=>hn1 (e'▸hm)
   rcases R.dvv n m hn2 (hτ m hm) hnm with h0 |h0
   ·rw[h0] at e;cases e
   ·exact h0 (by rw[e,he])
 refine⟨p',?_,hokn,hback,hbackv,rfl⟩
 exact {
  lb:=by
   funext m
   simp only[CN,St.lb,eq_iff_iff]
   rw[GP υ σ hl m,M9]
   have:=R.lbi m
   simp only[St.lb] at this
   rw[← this]
   exact⟨.inr,fun h=>h.elim (hσ m) id⟩
  lv:=by
   funext m
   simp only[CN,St.lv,eq_iff_iff]
   show(m∈υ∨(m∉τ∧p.lv m))↔_
   by_cases hm:m∈υ
   ·obtain⟨i,hi⟩:=List.mem_iff_getElem?.1 hm
    rw[(FD hυl hυ).1 i hi]
    have:i < vx'.length:=by rw[← hυl];exact(List.getElem?_eq_some_iff.1 hi).1
    simp[hm,List.getElem?_eq_getElem this]
   ·rw[(FD hυl hυ).2 hm,Iy]
    have:=R.lvi m
    simp only[St.lv] at this
    by_cases ht:m∈τ
    ·simp[hm,ht]
    ·simp[hm,ht,this]
  dfr:=R.dfr
  nt:=R.nt
  ntl:=R.ntl
  ion:=R.ion
  size:=Nat.le_trans R.size E.size
  os:=E.os.trans R.os
  tape:=E.tape.trans R.tape
  dr:=Nat.le_trans R.dr E.dr
  output:=E.output.trans R.output
  old:=fun b hb hi=>(E.old b hb hi).trans (R.old b hb hi)
  env:=fun t y h=>by
   obtain⟨x,hx,h0⟩:=M7 h
   rcases h0 with rfl |⟨rfl,hw⟩
   ·exact .undef
   ·exact E.ra (R.env t y hx) hw
  box:=fun m cs h=>by
   rcases GO υ σ hl hn h with ⟨i,c,h1,h2,rfl⟩ |⟨h1,h2⟩
   ·have hm:m∈σ:=List.mem_of_getElem? h1
    obtain⟨cs0,hcs0⟩:=Option.isSome_iff_exists.1 ((R.lbi m).1 (hσ m hm))
    obtain⟨⟨vs,ty,g1,g2,g3,g4⟩⟩:=hpre.at_ i (p.bx m) c (by simp[h1]) h2
    refine⟨⟨vs,ty,g1,by rw[Dc];simpa using g2,fun j x v hx hv=>?_,g4⟩,(R.box m cs0 hcs0).mine⟩
    rw[Dc] at hx
    simp only[List.getElem?_map,Option.map_eq_some_iff] at hx
    obtain⟨q,hq,rfl⟩:=hx
    exact(g3 j q v hq hv).back hokn hback hbackv
   ·obtain⟨cs0,k1,k2,k3⟩:=M8 h2
    have hm:p.lb m:=(R.lbi m).2 (by simp[St.lb,k1])
    exact E.box (R.box m cs0 k1) rfl (hf.block _ (R.blt hm) (fun h=>by
     obtain⟨n,hn',e⟩:=hnot h
     exact R.dbb n m (hσ n hn') hm (fun e'=>h1 (e'▸hn')) e) (hτb _ fun k hk e=>R.dbv m k hm (hτ k hk) e)) k2 k3
  vec:=fun m s h=>by
   by_cases hm:m∈υ
   ·obtain⟨i,hi⟩:=List.mem_iff_getElem?.1 hm
    have hs:vx'[i]? =some s:=by rw[← h];exact((FD hυl hυ).1 i hi).symm
    obtain⟨g1,g3⟩:=hpre.vat i (p'.rw m) s (rwn i m hi) hs
    refine⟨g1.mono (fun _ _=>rfl) hokn (fun _ _=>rfl),g3,fun g hg=>?_⟩
    rcases hown _ (mem' m hm) g hg with h1 |⟨v,hv,he⟩
    ·exact .inl (Nat.le_trans R.size h1)
    ·obtain⟨k,hk,rfl⟩:=hnotv hv
     exact(R.vlt (hτ k hk) he).1
   ·have h':get (M5 τ st.vec) m=some s:=by rw[← h];exact((FD hυl hυ).2 hm).symm
    rw[Iy] at h'
    split at h'
    ·cases h'
    ·rename_i ht
     have hml:p.lv m:=(R.lvi m).2 (by simp[St.lv,h'])
     exact E.vec (R.vec m s h') (rwo m hm) (fun g hg=>hf.block _ (R.vlt hml hg).2 (fun h'=>by
      obtain⟨n,hn',e⟩:=hnot h'
      exact R.dbv n m (hσ n hn') hml (by rw[hg,e])) (hτb _ fun k hk e=>by
      have hmk:m≠k:=fun e'=>ht (e'▸hk)
      rcases R.dvv m k hml (hτ k hk) hmk with h0 |h0
      ·rw[h0] at hg;cases hg
      ·exact h0 (by rw[hg,e])))
  dbb:=R.dbb
  dbv:=fun n m hn' hm=>by
   rcases hm with hm |⟨h1,h2⟩
   ·exact hvd n hn' _ (mem' m hm)
   ·rw[rwo m (nu m h1 h2)];exact R.dbv n m hn' h2
  dvv:=fun n m hn' hm hnm=>by
   rcases hn' with hn' |⟨a1,a2⟩ <;> rcases hm with hm |⟨b1,b2⟩
   ·obtain⟨i,hi⟩:=List.mem_iff_getElem?.1 hn'
    obtain⟨j,hj⟩:=List.mem_iff_getElem?.1 hm
    exact hpre.vdis i j _ _ (rwn i n hi) (rwn j m hj) (fun e=>hnm (by subst e;rw[hi] at hj;cases hj;rfl))
   ·rw[rwo m (nu m b1 b2)]
    cases hg:(p'.rw n).blk with
    |none=>exact .inl rfl
    |some g=>exact .inr (fun e=>hvo m b1 b2 _ (mem' n hn') g hg e.symm)
   ·rw[rwo n (nu n a1 a2)]
    cases hg:(p.rw n).blk with
    |none=>exact .inl rfl
    |some g=>exact .inr (fun e=>hvo n a1 a2 _ (mem' m hm) g e.symm hg)
   ·rw[rwo n (nu n a1 a2),rwo m (nu m b1 b2)];exact R.dvv n m a2 b2 hnm }
theorem HH {f:FuncId} {o:Oper} {c:Call} {y:Operand} {cs:Array Value} (ho:o.op=.call c) (hc:c.callee=.value y) (hy:a.eval y=.func (.func f) #[] cs) (hcall:∀(args:Array Value) (w:World),(callFunc f args).run P w=.ok (.enter f args) w):
  (execOp a.eval o).run P w=.ok (.enter f (c.args.map a.eval++cs)) w:=by
 simp[execOp,ho,resolve,hc,hy,Deferred.ofValue,invoke,hcall]
theorem L5 {α β:Type} {f:α→β} {l:List α} (h:l.Nodup) (hf:∀n∈l,∀m∈l,f n=f m→n=m):(l.map f).Nodup:=by
 induction l with
 |nil=>simp
 |cons x l ih=>
  rw[List.nodup_cons] at h
  rw[List.map_cons,List.nodup_cons]
  refine⟨fun hm=>?_,ih h.2 (fun n hn m hm=>hf n (by simp[hn]) m (by simp[hm]))⟩
  obtain⟨y,hy,e⟩:=List.mem_map.1 hm
  exact h.1 (hf y (by simp[hy]) x (by simp) e▸hy)
structure LD (st:St) (ops:Array Oper) (o:Oper) (c:Call) (y:Operand) (f:FuncId) (σ τ υ:List Nat) (bx:List (List AV)) (vx:List VS) (cargs:List AV) (bx':List (List AV)) (vx':List VS) (d:Nat):Prop where
 gd:gdA ops st o=some true
 dn:d < st.nt
 ndσ:σ.Nodup
 ndτ:τ.Nodup
 ndυ:υ.Nodup
 fn:∃caps,opd st y=.fn f caps∧(c.args.toList.map (opd st)++caps).map (AV.view [] τ σ)=cargs
 bxs:Bu st τ σ σ bx
 vxs:Du st τ vx
 len:bx.length=bx'.length
 lenυ:υ.length=vx'.length
 fresh:∀n∈υ,n∈τ∨get st.vec n=none
theorem LE (R:Rel K st a w p) {y:Operand} {f:FuncId} {caps:List AV} (h:opd st y=.fn f caps):∃cs:Array Value,a.eval y=.func (.func f) #[] cs∧cs.size=caps.length∧∀(i:Nat) (x:AV) (v:Value),caps[i]? =some x→cs[i]? =some v→RA w (okc K w p) p x v:=by
 have hy:=R.opd y
 rw[h] at hy
 generalize a.eval y=v at hy ⊢
 cases hy with
 |fn hl hh=>exact⟨_,rfl,hl,hh⟩
theorem S4 (R:Rel K st a w p) {args:Array Operand} {caps:List AV} {cs:Array Value} (hl:cs.size=caps.length) (h:∀(i:Nat) (x:AV) (v:Value),caps[i]? =some x→cs[i]? =some v→RA w (okc K w p) p x v):
  (args.map a.eval++cs).size=(args.toList.map (opd st)++caps).length∧∀(i:Nat) (x:AV) (v:Value),(args.toList.map (opd st)++caps)[i]? =some x→(args.map a.eval++cs)[i]? =some v→RA w (okc K w p) p x v:=by
 refine⟨by simp[hl],fun i x v hx hv=>?_⟩
 rw[List.getElem?_append] at hx
 rw[Array.getElem?_append] at hv
 simp only[List.length_map,Array.length_toList,Array.size_map] at hx hv
 split at hx
 ·rw[if_pos ‹_›] at hv
  simp only[List.getElem?_map,Option.map_eq_some_iff,Array.getElem?_toList] at hx
  obtain⟨q,hq,rfl⟩:=hx
  rw[Array.getElem?_map,hq] at hv
  cases hv
  exact R.opd q
 ·rw[if_neg ‹_›] at hv
  exact h _ x v hx hv
def QQ (G:List Value→List Value→Prop) (P:Program) (f:FuncId) (bx:List (List AV)) (vx:List VS) (args:List AV) (res:AV) (bx':List (List AV)) (vx':List VS):Prop:=
 ∀(w:World) (ok:Nat→Prop) (io:List Nat) (iv:List Value) (vs:Array Value),EG w ok io iv bx vx→vs.size=args.length→(∀(i:Nat) (x:AV) (v:Value),args[i]? =some x→vs[i]? =some v→RA w ok (Ag io iv) x v)→DX P w ok→
  Calls P f vs w fun e w'=>∃v iv',e=.returned v∧RA w' (okn ok iv iv' w w') (Ag io iv') res v∧EG w' (okn ok iv iv' w w') io iv' bx' vx'∧(∀u∈iv',∀g,u.blk=some g→w.heap.size≤g∨∃v∈iv,v.blk=some g)∧Frm io iv w w'∧G iv iv'
theorem DI.g {f:FuncId} {bx:List (List AV)} {vx:List VS} {cargs:List AV} {res:AV} {bx':List (List AV)} {vx':List VS} (C:DI P f bx vx cargs res bx' vx'):QQ (fun _ _=>True) P f bx vx cargs res bx' vx':=
 fun w ok io iv vs h1 h2 h3 h4=>(C w ok io iv vs h1 h2 h3 h4).mono fun e w' ⟨v,iv',a,b,c,d,e⟩=>⟨v,iv',a,b,c,d,e,trivial⟩
theorem Iz {G:List Value→List Value→Prop} {f:FuncId} {bx:List (List AV)} {vx:List VS} {cargs:List AV} {res:AV} {bx':List (List AV)} {vx':List VS} (C:QQ G P f bx vx cargs res bx' vx') (R:Rel K st a w p) {o:Oper} {c:Call} {y:Operand} {σ τ υ:List Nat} {d:Nat}
  (H:LD st ops o c y f σ τ υ bx vx cargs bx' vx' d) {cs:Array Value} (hcs:∃caps:List AV,cs.size=caps.length∧(∀(i:Nat) (x:AV) (v:Value),caps[i]? =some x→cs[i]? =some v→RA w (okc K w p) p x v)∧(c.args.toList.map (opd st)++caps).map (AV.view [] τ σ)=cargs):
  Calls P f (c.args.map a.eval++cs) w fun e w'=>∃v p',e=.returned v∧Rel K (CN st σ τ υ bx' vx') a w' p'∧RA w' (okc K w' p') p' (res.back υ σ) v∧∃iv',G (τ.map p.rw) iv'∧(∀(i n:Nat),υ[i]? =some n→p'.lv n∧iv'[i]? =some (p'.rw n))∧∀n,p.lb n→n∉σ→w'.heap[p'.bx n]? =w.heap[p.bx n]? :=by
 obtain⟨caps,hl,hh,hargs⟩:=hcs
 obtain⟨hsz,hra⟩:=S4 (args:=c.args) R hl hh
 obtain⟨hlen,hget⟩:=Hr H.bxs
 obtain⟨hvl,hvg⟩:=Dv H.vxs
 have hlive:∀n∈σ,p.lb n:=fun n hn=>by
  obtain⟨i,hi,rfl⟩:=List.getElem_of_mem hn
  obtain⟨cs0,h1,_⟩:=hget i σ[i] _ (List.getElem?_eq_getElem hi) (List.getElem?_eq_getElem (by omega))
  exact(R.lbi _).2 (by simp[St.lb,h1])
 have hτ:∀n∈τ,p.lv n:=fun n hn=>by
  obtain⟨i,hi,rfl⟩:=List.getElem_of_mem hn
  exact(R.lvi _).2 (by simp[St.lv,hvg (List.getElem?_eq_getElem hi) (List.getElem?_eq_getElem (by omega))])
 have hview:∀{x:AV} {v:Value},RA w (okc K w p) p x v→RA w (okc K w p) (Ag (σ.map p.bx) (τ.map p.rw)) (x.view [] τ σ) v:=fun h=>h.view (fun _ h=>h) (fun n s hs=>by simp[get] at hs)
 have hpre:EG w (okc K w p) (σ.map p.bx) (τ.map p.rw) bx vx:={
  len:=by simpa using hlen
  nodup:=L5 H.ndσ (fun n hn m hm e=>Classical.byContradiction fun hne=>R.dbb n m (hlive n hn) (hlive m hm) hne e)
  okb:=fun b hb=>⟨hb.1,fun hm=>by obtain⟨n,hn,rfl⟩:=List.mem_map.1 hm;exact hb.2.2.1 n (hlive n hn) rfl,fun v hv e=>by obtain⟨n,hn,rfl⟩:=List.mem_map.1 hv;exact hb.2.2.2 n (hτ n hn) e⟩
  at_:=fun i b cs hb hcs=>by
   rw[List.getElem?_map] at hb
   simp only[Option.map_eq_some_iff] at hb
   obtain⟨n,hn,rfl⟩:=hb
   obtain⟨cs0,h1,h2⟩:=hget i n cs hn hcs
   obtain⟨⟨vs,ty,g1,g2,g3,g4⟩,_⟩:=R.box n cs0 h1
   refine⟨⟨vs,ty,g1,by rw[g2,←h2,Db];simp,fun j x v hx hv=>?_,g4⟩⟩
   rw[← h2,Db] at hx
   simp only[List.getElem?_map,Option.map_eq_some_iff] at hx
   obtain⟨q,hq,rfl⟩:=hx
   exact hview (g3 j q v hq hv)
  lenv:=by simpa using hvl
  vat:=fun i v s hv hs=>by
   rw[List.getElem?_map] at hv
   simp only[Option.map_eq_some_iff] at hv
   obtain⟨n,hn,rfl⟩:=hv
   obtain⟨a1,a3,_⟩:=R.vec n s (hvg hn hs)
   exact⟨a1,a3⟩
  vdis:=fun i j v u hv hu hij=>by
   rw[List.getElem?_map] at hv hu
   simp only[Option.map_eq_some_iff] at hv hu
   obtain⟨n,hn,rfl⟩:=hv
   obtain⟨m,hm,rfl⟩:=hu
   refine R.dvv n m (hτ n (List.mem_of_getElem? hn)) (hτ m (List.mem_of_getElem? hm)) (fun e=>hij ?_)
   subst e
   exact(List.getElem?_inj (List.getElem?_eq_some_iff.1 hn).1 H.ndτ).1 (hn.trans hm.symm)
  vio:=fun v hv b hb=>by
   obtain⟨n,hn,rfl⟩:=List.mem_map.1 hv
   obtain⟨m,hm,rfl⟩:=List.mem_map.1 hb
   exact R.dbv m n (hlive m hm) (hτ n hn)}
 refine(C w (okc K w p) (σ.map p.bx) (τ.map p.rw) (c.args.map a.eval++cs) hpre (by rw[← hargs,hsz,List.length_map]) (fun i x v hx hv=>?_) R.glob).mono fun e w' he=>?_
 ·rw[← hargs,List.getElem?_map] at hx
  simp only[Option.map_eq_some_iff] at hx
  obtain⟨q,hq,rfl⟩:=hx
  exact hview (hra i q v hq hv)
 ·obtain⟨v,iv',rfl,hres,hpre',hown,hfrm,hG⟩:=he
  obtain⟨p',R',hok,hbk,hvk,hbe⟩:=R.calledV H.ndσ hlive (hlen.trans H.len) hτ H.ndυ H.lenυ (fun n hn=>(H.fresh n hn).imp id (fun h h'=>by
   have:=(R.lvi n).1 h'
   simp[St.lv,h] at this)) hfrm hpre' hown
  refine⟨v,p',rfl,R',hres.back hok hbk hvk,iv',hG,hvk,fun n hn hns=>?_⟩
  rw[hbe]
  refine hfrm.block _ (R.blt hn) (fun hm=>?_) (fun v hv e=>?_)
  ·obtain⟨m,hm,e⟩:=List.mem_map.1 hm
   exact R.dbb m n (hlive m hm) hn (fun e2=>hns (e2▸hm)) e
  ·obtain⟨m,hm,rfl⟩:=List.mem_map.1 hv
   exact R.dbv n m hn (hτ m hm) e
theorem KQ {f:FuncId} {bx:List (List AV)} {vx:List VS} {cargs:List AV} {res:AV} {bx':List (List AV)} {vx':List VS} (C:DI P f bx vx cargs res bx' vx') (R:Rel K st a w p) {o:Oper} {c:Call} {y:Operand} {σ τ υ:List Nat} {d:Nat}
  (H:LD st ops o c y f σ τ υ bx vx cargs bx' vx' d) {cs:Array Value} (hcs:∃caps:List AV,cs.size=caps.length∧(∀(i:Nat) (x:AV) (v:Value),caps[i]? =some x→cs[i]? =some v→RA w (okc K w p) p x v)∧(c.args.toList.map (opd st)++caps).map (AV.view [] τ σ)=cargs):
  Calls P f (c.args.map a.eval++cs) w fun e w'=>∃v p',e=.returned v∧Rel K (CN st σ τ υ bx' vx') a w' p'∧RA w' (okc K w' p') p' (res.back υ σ) v:=
 (Iz C.g R H hcs).mono fun e w' ⟨v,p',a,b,c,_⟩=>⟨v,p',a,b,c⟩
theorem I0 {f:FuncId} {bx:List (List AV)} {vx:List VS} {cargs:List AV} {res:AV} {bx':List (List AV)} {vx':List VS} {o:Oper} {c:Call} {y:Operand} {l:List Oper} {d:Nat} (σ τ υ:List Nat) (C:DI P f bx vx cargs res bx' vx') (ho:o.op=.call c) (hc:c.callee=.value y) (hd:o.dst=some d)
  (hcall:∀(args:Array Value) (w:World),(callFunc f args).run P w=.ok (.enter f args) w) (H:LD st ops o c y f σ τ υ bx vx cargs bx' vx' d)
  (h:Az P K ops l ((CN st σ τ υ bx' vx').put d (res.back υ σ)) Q):Az P K ops (o::l) st Q:=by
 intro a w p R
 unfold wpList
 rw[A9 R H.gd,if_pos rfl]
 refine .inl ?_
 unfold Oper.wp
 obtain⟨caps,hf,hargs⟩:=H.fn
 obtain⟨cs,hy,hl,hh⟩:=LE R hf
 rw[HH ho hc hy hcall]
 show Calls P f (c.args.map a.eval++cs) w _
 refine(KQ C R H ⟨caps,hl,hh,hargs⟩).mono fun e w' ⟨v,p',he,R',hv⟩=>?_
 subst he
 show wpList P ops (Pst K Q) l (a.put o.dst v) w'
 rw[hd]
 exact h _ _ _ (R'.put hv H.dn)
theorem PE {f:FuncId} {bx:List (List AV)} {cargs:List AV} {res:AV} {bx':List (List AV)} {o:Oper} {c:Call} {l:List Oper} {d:Nat} (σ:List Nat) (C:Ac P f bx cargs res bx') (hg:gdA ops st o=some true) (ho:o.op=.call c) (hc:c.callee=.value (.func f)) (hd:o.dst=some d)
  (hcall:∀(args:Array Value) (w:World),(callFunc f args).run P w=.ok (.enter f args) w) (hdn:d < st.nt) (hσ:σ.Nodup) (hargs:(c.args.toList.map (opd st)).map (AV.view [] [] σ)=cargs) (hbx:Bu st [] σ σ bx) (hl:bx.length=bx'.length)
  (h:Az P K ops l ({ st with box:=A1 [] σ σ bx' st.box }.put d (res.back [] σ)) Q):Az P K ops (o::l) st Q:=
 I0 σ [] [] C ho hc hd hcall ⟨hg,hdn,hσ,List.nodup_nil,List.nodup_nil,⟨[],rfl,by rw[List.append_nil];exact hargs⟩,hbx,trivial,hl,rfl,fun n hn=>by simp at hn⟩ h
end
end Go.Vl
