/- The value logic: arguments of any plain type that came in. Conditions: none. -/
import Derived.Test.YtbnfogbfphakmaaGreatDoorVmZ
import Derived.Test.YtbnfogbfphakmaaGreatDoorVmU
import Derived.ChangeArms
set_option linter.unusedSimpArgs false
set_option linter.unusedVariables false
namespace Go.Vl
open Go Go.RowKit Go.ChangeShapes Go.WideShapes Go.ChangeAt
def Shp (P:Program):Nat→TypeId→List D→Prop
 |0,_,_=>False
 |n+1,t,ds=>match P.underlying t with
  |some .bool=>∃b,ds=[.bool b]
  |some (.int k)=>∃m,ds=[.int k m]∧(Lit.int k m).wf=true
  |some .string=>∃s,ds=[.str s]∧s.size≤9223372036854775807
  |some (.slice e)=>∃rows,ds=[.slice rows]∧∀r∈rows,Shp P n e r
  |some (.struct fs)=>ds.length=P.cellsOf t∧∀f∈fs.toList,Shp P n f.type ((ds.drop f.offset).take (P.cellsOf f.type))
  |_=>False
def CM (P:Program):Nat→TypeId→Bool
 |0,_=>false
 |n+1,t=>match P.underlying t with
  |some .bool |some (.int _) |some .string=>P.cellsOf t==1
  |some (.slice e)=>P.cellsOf t==1&&decide (0 < P.cellsOf e)&&CM P n e
  |some (.struct fs)=>go n 0 fs.toList (P.cellsOf t)
  |_=>false
where
 go (n:Nat):Nat→List Field→Nat→Bool
  |o,[],z=>o==z
  |o,f::fs,z=>f.offset==o&&CM P n f.type&&go n (o+P.cellsOf f.type) fs z
section
variable {P:Program} {H:Type} {enc:TypeId×Value→H} {w:World} {sp:Nat→Bool} {held:Bool}
theorem block_lt {a:Addr} {v:Value} (h:w.cell? a=some v):a.block < w.heap.size:=by
 cases hq:w.heap[a.block]? with
 |none=>exact absurd h (by simp[World.cell?,hq])
 |some o=>exact(Array.getElem?_eq_some_iff.1 hq).1
theorem Py {a:Addr} {n:Nat} {cs:List Value} (h:w.cells? 0 a n=some cs):cs.length=n∧∀i,i < n→w.cell? (a.add i)=cs[i]? :=by
 unfold World.cells? at h
 rw[if_pos (Nat.zero_le _)] at h
 have hl:=mapM_some_length h
 simp at hl
 refine⟨hl,fun i hi=>?_⟩
 have:=mapM_some_get h i i (by simp[hi])
 rw[← this]
theorem Sr:∀(m fuel:Nat) (t:TypeId) (cs:List Value) (x:DataW H×List MemPlace),CM P m t=true→DataW.trod enc P w 0 sp held fuel t cs=some x→cs.length=P.cellsOf t→
  ∃ds,ds.length=cs.length∧(∀(i:Nat) (d:D) (v:Value),ds[i]? =some d→cs[i]? =some v→RD w (· < w.heap.size) d v)∧Shp P m t ds:=by
 intro m
 induction m with
 |zero=>intro fuel t cs x hp;simp[CM] at hp
 |succ n ih=>
  intro fuel t cs x hp h hlen
  have one:∀{d:D} {v:Value},RD w (· < w.heap.size) d v→∀(i:Nat) (d':D) (v':Value),[d][i]? =some d'→[v][i]? =some v'→RD w (· < w.heap.size) d' v':=fun {d v} hr i d' v' h1 h2=>by
   cases i with
   |zero=>simp at h1 h2;subst h1;subst h2;exact hr
   |succ i=>simp at h1
  simp only[CM] at hp
  cases ht:P.underlying t with
  |none=>rw[ht] at hp;cases hp
  |some desc=>
   rw[ht] at hp
   cases desc with
   |bool=>
    obtain⟨b,rfl,_⟩:=DataW.trod_bool ht h
    exact⟨[.bool b],rfl,one .bool,by simp only[Shp,ht];exact⟨b,rfl⟩⟩
   |int k=>
    obtain⟨m,rfl,_,hw⟩:=DataW.trod_int ht h
    exact⟨[.int k m],rfl,one .int,by simp only[Shp,ht];exact⟨m,rfl,hw⟩⟩
   |string=>
    obtain⟨s,rfl,_,hsz⟩:=DataW.trod_string ht h
    exact⟨[.str s],rfl,one .str,by simp only[Shp,ht];exact⟨s,rfl,hsz⟩⟩
   |slice e=>
    simp only[Bool.and_eq_true,decide_eq_true_eq] at hp
    obtain⟨⟨_,hz⟩,hpe⟩:=hp
    rcases DataW.trod_slice ht h with ⟨rfl,_⟩ |⟨a,len,cap,elems,rest,m,hm,rfl,_,_,hlc,_,hel,hE,_⟩
    ·exact⟨[.slice []],rfl,one .snil,by simp only[Shp,ht];exact⟨[],rfl,fun r hr=>by simp at hr⟩⟩
    ·subst hm
     have key:∀i,i < len→∃ds:List D,ds.length=P.cellsOf e∧(∀(j:Nat),j < P.cellsOf e→∃v,w.cell? (a.add (i * P.cellsOf e+j))=some v∧∀d,ds[j]? =some d→RD w (· < w.heap.size) d v)∧Shp P n e ds:=fun i hi=>by
      have:=hE i hi
      rw[List.getElem?_eq_getElem (show i < elems.length by omega)] at this
      simp only[Option.bind_eq_some_iff] at this
      obtain⟨c1,h1,h2⟩:=this
      obtain⟨k1,k2⟩:=Py h1
      obtain⟨ds,g1,g2,g3⟩:=ih _ e c1 _ hpe h2 k1
      refine⟨ds,by omega,fun j hj=>?_,g3⟩
      have hc:=k2 j hj
      rw[add_add,List.getElem?_eq_getElem (show j < c1.length by omega)] at hc
      exact⟨_,hc,fun d hd=>g2 j d _ hd (List.getElem?_eq_getElem (show j < c1.length by omega))⟩
     let rows:List (List D):=(List.range len).map fun i=>if hi:i < len then Classical.choose (key i hi) else []
     have hrl:rows.length=len:=by simp[rows]
     have hrow:∀i (hi:i < len),rows[i]? =some (Classical.choose (key i hi)):=fun i hi=>by simp[rows,hi]
     have hrz:∀r∈rows,r.length=P.cellsOf e:=fun r hr=>by
      obtain⟨i,hi⟩:=List.mem_iff_getElem?.1 hr
      have hil:i < len:=by have:=(List.getElem?_eq_some_iff.1 hi).1;omega
      rw[hrow i hil] at hi;cases hi
      exact(Classical.choose_spec (key i hil)).1
     refine⟨[.slice rows],rfl,one ?_,by
      simp only[Shp,ht]
      refine⟨rows,rfl,fun r hr=>?_⟩
      obtain⟨i,hi⟩:=List.mem_iff_getElem?.1 hr
      have hil:i < len:=by have:=(List.getElem?_eq_some_iff.1 hi).1;omega
      rw[hrow i hil] at hi;cases hi
      exact(Classical.choose_spec (key i hil)).2.2⟩
     cases len with
     |zero=>
      have:rows=[]:=List.eq_nil_of_length_eq_zero hrl
      rw[this];exact .snil
     |succ len=>
      have h0:=(Classical.choose_spec (key 0 (by omega))).2.1 0 hz
      obtain⟨v0,hv0,_⟩:=h0
      have hblk:=block_lt hv0
      rw[block_add] at hblk
      have hfl:rows.flatten.length=(len+1) * P.cellsOf e:=by rw[A4 hrz,hrl]
      have split:∀j,j < (len+1) * P.cellsOf e→j / P.cellsOf e < len+1∧j % P.cellsOf e < P.cellsOf e∧j / P.cellsOf e * P.cellsOf e+j % P.cellsOf e=j:=fun j hj=>
       ⟨(Nat.div_lt_iff_lt_mul hz).2 hj,Nat.mod_lt _ hz,by rw[Nat.mul_comm];exact Nat.div_add_mod j _⟩
      have:=RD.slice (w:=w) (ok:=(· < w.heap.size)) (rows:=rows) (a:=a) (c:=cap) (P.cellsOf e) (fun j=>(w.cell? (a.add j)).getD undef) hrz hblk (by omega)
       (fun j hj=>by
        rw[hfl] at hj
        obtain⟨s1,s2,s3⟩:=split j hj
        obtain⟨v,hv,_⟩:=(Classical.choose_spec (key _ s1)).2.1 _ s2
        rw[s3] at hv;simp[hv])
       (fun j d hd=>by
        have hj:j < (len+1) * P.cellsOf e:=by rw[← hfl];exact(List.getElem?_eq_some_iff.1 hd).1
        obtain⟨s1,s2,s3⟩:=split j hj
        obtain⟨v,hv,hr⟩:=(Classical.choose_spec (key _ s1)).2.1 _ s2
        rw[s3] at hv
        rw[← s3,flat_get hrz (hrow _ s1) s2] at hd
        simp only[hv,Option.getD_some]
        exact hr d hd)
      rw[hrl] at this
      exact this
   |struct fs=>
    obtain⟨xs,n',rfl,_,_,hxl,hx⟩:=DataW.trod_struct ht h
    have go:∀(l:List Field) (o:Nat),CM.go P n o l (P.cellsOf t)=true→o≤cs.length→(∀f∈l,∃x,DataW.trod enc P w 0 sp held n' f.type ((cs.drop f.offset).take (P.cellsOf f.type))=some x)→
      ∃ds:List D,o+ds.length=cs.length∧(∀(i:Nat) (d:D) (v:Value),ds[i]? =some d→cs[o+i]? =some v→RD w (· < w.heap.size) d v)∧∀f∈l,o≤f.offset∧Shp P n f.type ((ds.drop (f.offset - o)).take (P.cellsOf f.type)):=fun l=>by
     induction l with
     |nil=>
      intro o hg ho _
      simp only[CM.go,beq_iff_eq] at hg
      exact⟨[],by simp;omega,fun i d v hd=>by simp at hd,fun f hf=>by simp at hf⟩
     |cons f l ihl=>
      intro o hg ho hf
      simp only[CM.go,Bool.and_eq_true,beq_iff_eq] at hg
      obtain⟨⟨hfo,hpf⟩,hg'⟩:=hg
      have bound:∀(l:List Field) (o:Nat),CM.go P n o l (P.cellsOf t)=true→o≤P.cellsOf t:=fun l=>by
       induction l with
       |nil=>intro o h;simp only[CM.go,beq_iff_eq] at h;omega
       |cons f l ih2=>intro o h;simp only[CM.go,Bool.and_eq_true] at h;have:=ih2 _ h.2;omega
      have hb:=bound _ _ hg'
      obtain⟨x,hx⟩:=hf f (by simp)
      have hl1:((cs.drop f.offset).take (P.cellsOf f.type)).length=P.cellsOf f.type:=by simp;omega
      obtain⟨d1,e1,e2,e3⟩:=ih _ f.type _ x hpf hx hl1
      obtain⟨d2,k1,k2,k3⟩:=ihl (o+P.cellsOf f.type) hg' (by omega) fun g hg=>hf g (by simp[hg])
      rw[hl1] at e1
      refine⟨d1++d2,by simp;omega,fun i d v hd hv=>?_,fun g hg=>?_⟩
      ·by_cases hi:i < d1.length
       ·rw[List.getElem?_append_left hi] at hd
        refine e2 i d v hd ?_
        rw[List.getElem?_take_of_lt (by omega),List.getElem?_drop,hfo];exact hv
       ·rw[List.getElem?_append_right (by omega)] at hd
        refine k2 (i - d1.length) d v hd ?_
        rw[← hv];congr 1;omega
      ·rcases List.mem_cons.1 hg with rfl |hg
       ·refine⟨by omega,?_⟩
        rw[hfo,Nat.sub_self,List.drop_zero,List.take_append_of_le_length (by omega),List.take_of_length_le (by omega)]
        exact e3
       ·obtain⟨q1,q2⟩:=k3 g hg
        refine⟨by omega,?_⟩
        rw[show g.offset - o=d1.length+(g.offset - (o+P.cellsOf f.type)) by omega,←List.drop_drop,List.drop_left]
        exact q2
    obtain⟨ds,k1,k2,k3⟩:=go fs.toList 0 hp (Nat.zero_le _) fun f hf=>by
     obtain⟨i,hi⟩:=List.mem_iff_getElem?.1 hf
     have hi2:i < xs.length:=by have:=(List.getElem?_eq_some_iff.1 hi).1;simp at this;omega
     have:=hx i f (by simpa using hi)
     exact⟨xs[i],by rw[this];exact List.getElem?_eq_getElem hi2⟩
    refine⟨ds,by omega,fun i d v hd hv=>k2 i d v hd (by simpa using hv),?_⟩
    simp only[Shp,ht]
    refine⟨by omega,fun f hf=>?_⟩
    have:=(k3 f hf).2
    simpa using this
   |_=>cases hp
theorem Yx {t:TypeId} {r:Reach} {b0:Nat} {v:Value} {d:DataW H} {ps:List MemPlace} {pl:Pl} (m:Nat) (hp:CM P m t=true) (hval:Value.okWide P w r b0 t v) (h:DataW.Trod enc P w 0 sp held t v d ps):
  ∃ds:List D,Shp P m t ds∧((∃fs,P.underlying t=some (.struct fs))→RA w (· < w.heap.size) pl (.agg (ds.map .d)) v)∧((∀fs,P.underlying t≠some (.struct fs))→∃x,ds=[x]∧RA w (· < w.heap.size) pl (.d x) v):=by
 obtain⟨fuel,hf⟩:=h
 have hcell:(v.cells).size=P.cellsOf t∧((∃fs,P.underlying t=some (.struct fs))→∃cs,v=.agg cs)∧((∀fs,P.underlying t≠some (.struct fs))→v.cells= #[v]):=by
  cases m with
  |zero=>simp[CM] at hp
  |succ n=>
   simp only[CM] at hp
   cases ht:P.underlying t with
   |none=>rw[ht] at hp;cases hp
   |some desc=>
    rw[ht] at hp
    cases desc with
    |bool=>
     obtain⟨b,rfl⟩:=okWide_bool ht hval
     simp only[beq_iff_eq] at hp
     exact⟨by simp[Value.cells,hp],fun ⟨fs,h⟩=>(by simp at h),fun _=>rfl⟩
    |int k=>
     obtain⟨b,rfl⟩:=okWide_int ht hval
     simp only[beq_iff_eq] at hp
     exact⟨by simp[Value.cells,hp],fun ⟨fs,h⟩=>(by simp at h),fun _=>rfl⟩
    |string=>
     obtain⟨b,rfl⟩:=okWide_string ht hval
     simp only[beq_iff_eq] at hp
     exact⟨by simp[Value.cells,hp],fun ⟨fs,h⟩=>(by simp at h),fun _=>rfl⟩
    |slice e=>
     obtain⟨a,l,c,rfl⟩:=okWide_slice ht hval
     simp only[Bool.and_eq_true,beq_iff_eq] at hp
     exact⟨by simp[Value.cells,hp.1.1],fun ⟨fs,h⟩=>(by simp at h),fun _=>rfl⟩
    |struct fs=>
     simp only[Value.okWide,ht] at hval
     obtain⟨cs,rfl,hs,_⟩:=hval
     exact⟨hs,fun _=>⟨cs,rfl⟩,fun h=>absurd rfl (h fs)⟩
    |_=>cases hp
 obtain⟨h1,h2,h3⟩:=hcell
 obtain⟨ds,g1,g2,g3⟩:=Sr m fuel t v.cells.toList (d,ps) hp hf (by simpa using h1)
 refine⟨ds,g3,fun hs=>?_,fun hs=>?_⟩
 ·obtain⟨cs,rfl⟩:=h2 hs
  simp only[Value.cells] at g1 g2
  simp at g1
  refine .agg (by simp[g1]) (fun i a u ha hu=>?_) (fun i u hu=>?_)
  ·rw[List.getElem?_map] at ha
   cases hd:ds[i]? with
   |none=>rw[hd] at ha;cases ha
   |some x=>rw[hd] at ha;cases ha;exact .d (g2 i x u hd (by simpa using hu))
  ·have hi:i < ds.length:=by have:=(Array.getElem?_eq_some_iff.1 hu).1;omega
   exact(g2 i ds[i] u (List.getElem?_eq_getElem hi) (by simpa using hu)).one
 ·have hc:=h3 hs
  rw[hc] at g1 g2
  match ds,g1 with
  |[x],_=>exact⟨x,rfl,.d (g2 0 x v rfl rfl)⟩
theorem O4 {α:Type} {f:α→List D}:∀{rows:List (List D)},(∀r∈rows,∃x,r=f x)→∃l:List α,rows=AB f l
 |[],_=>⟨[],rfl⟩
 |r::rows,h=>by
  obtain⟨x,hx⟩:=h r (by simp)
  obtain⟨l,hl⟩:=O4 (rows:=rows) fun r hr=>h r (by simp[hr])
  exact⟨x::l,by rw[F9,←hx,←hl]⟩
theorem WJ {m t:Nat} {k:IntKind} (hu:P.underlying t=some (.int k)) {ds:List D} (h:Shp P m t ds):∃n:Int,ds=AH k n:=by
 cases m with
 |zero=>exact h.elim
 |succ m=>simp only[Shp,hu] at h;obtain⟨n,h,_⟩:=h;exact⟨n,h⟩
theorem Pz {m t e:Nat} (hu:P.underlying t=some (.slice e)) {α:Type} {f:α→List D} (hf:∀m ds,Shp P m e ds→∃x,ds=f x) {ds:List D} (h:Shp P m t ds):∃l,ds=DJ f l:=by
 cases m with
 |zero=>exact h.elim
 |succ m=>
  simp only[Shp,hu] at h
  obtain⟨rows,rfl,hr⟩:=h
  obtain⟨l,rfl⟩:=O4 fun r hm=>hf m r (hr r hm)
  exact⟨l,rfl⟩
end
end Go.Vl
