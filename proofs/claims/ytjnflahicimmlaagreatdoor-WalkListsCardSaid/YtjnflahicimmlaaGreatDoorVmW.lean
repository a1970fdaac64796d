/- The value logic: arguments of any plain type that came in. Conditions: none. -/
import Derived.Test.YtjnflahicimmlaaGreatDoorVmZ
import Derived.Test.YtjnflahicimmlaaGreatDoorVmPu
import Derived.ChangeArms
set_option linter.unusedSimpArgs false
set_option linter.unusedVariables false
namespace Go.Vl
open Go Go.RowKit Go.ChangeShapes Go.WideShapes Go.ChangeAt
def BB (P:Program):Nat→TypeId→List D→Prop
 |0,_,_=>False
 |n+1,t,ds=>match P.underlying t with
  |some .bool=>∃b,ds=[.bool b]
  |some (.int k)=>∃m,ds=[.int k m]∧(Lit.int k m).wf=true
  |some .string=>∃s,ds=[.str s]∧s.size≤9223372036854775807
  |some (.slice e)=>∃rows,ds=[.slice rows]∧∀r∈rows,BB P n e r
  |some (.struct fs)=>ds.length=P.cellsOf t∧∀f∈fs.toList,BB P n f.type ((ds.drop f.offset).take (P.cellsOf f.type))
  |_=>False
def kn (P:Program):Nat→TypeId→Bool
 |0,_=>false
 |n+1,t=>match P.underlying t with
  |some .bool |some (.int _) |some .string=>P.cellsOf t==1
  |some (.slice e)=>P.cellsOf t==1&&decide (0 < P.cellsOf e)&&kn P n e
  |some (.struct fs)=>go n 0 fs.toList (P.cellsOf t)
  |_=>false
where
 go (n:Nat):Nat→List Field→Nat→Bool
  |o,[],z=>o==z
  |o,f::fs,z=>f.offset==o&&kn P n f.type&&go n (o+P.cellsOf f.type) fs z
section
variable {P:Program} {H:Type} {enc:TypeId×Value→H} {w:World} {sp:Nat→Bool} {held:Bool}
theorem TQ {a:Addr} {v:Value} (h:w.cell? a=some v):a.block < w.heap.size:=by
 cases hq:w.heap[a.block]? with
 |none=>exact absurd h (by simp[World.cell?,hq])
 |some o=>exact(aL.1 hq).1
theorem Qe {a:Addr} {n:Nat} {cs:List Value} (h:w.cells? 0 a n=some cs):cs.length=n∧∀i,i < n→w.cell? (a.add i)=cs[i]? :=by
 unfold World.cells? at h;rw[ai (cE _)] at h;have hl:=mapM_some_length h;simp at hl;refine⟨hl,λi hi=>?_⟩;have:=mapM_some_get h i i (by simp[hi]);rw[← this]
theorem Q2:∀(m fuel:Nat) (t:TypeId) (cs:List Value) (x:DataW H×List MemPlace),kn P m t=true→DataW.trod enc P w 0 sp held fuel t cs=some x→cs.length=P.cellsOf t→
  ∃ds,ds.length=cs.length∧(∀(i:Nat) (d:D) (v:Value),ds[i]? =some d→cs[i]? =some v→RD w (· < w.heap.size) d v)∧BB P m t ds:=by
 intro m
 induction m with
 |zero=>intro fuel t cs x hp;simp[kn] at hp
 |succ n ih=>
  intro fuel t cs x hp h hlen;have one:∀{d:D} {v:Value},RD w (· < w.heap.size) d v→∀(i:Nat) (d':D) (v':Value),[d][i]? =some d'→[v][i]? =some v'→RD w (· < w.heap.size) d' v':=λ{d v} hr i d' v' h1 h2=>by
   cases i with
   |zero=>simp at h1 h2;subst h1;subst h2;exact hr
   |succ i=>simp at h1
  simp only[kn] at hp;cases ht:P.underlying t with
  |none=>rw[ht] at hp;cases hp
  |some desc=>
   rw[ht] at hp;cases desc with
   |bool=>
    obtain⟨b,rfl,_⟩:=DataW.trod_bool ht h;exact⟨[.bool b],rfl,one .bool,by simp only[BB,ht];exact⟨b,rfl⟩⟩
   |int k=>
    obtain⟨m,rfl,_,hw⟩:=DataW.trod_int ht h;exact⟨[.int k m],rfl,one .int,by simp only[BB,ht];exact⟨m,rfl,hw⟩⟩
   |string=>
    obtain⟨s,rfl,_,gS⟩:=DataW.trod_string ht h;exact⟨[.str s],rfl,one .str,by simp only[BB,ht];exact⟨s,rfl,gS⟩⟩
   |slice e=>
    simp only[aR,bg] at hp;obtain⟨⟨_,hz⟩,hpe⟩:=hp;rcases DataW.trod_slice ht h with ⟨rfl,_⟩ |⟨a,len,cap,elems,rest,m,hm,rfl,_,_,hlc,_,hel,hE,_⟩
    ·exact⟨[.slice []],rfl,one .pQ,by simp only[BB,ht];exact⟨[],rfl,λr hr=>by simp at hr⟩⟩
    ·subst hm
     have key:∀i,i < len→∃ds:List D,ds.length=P.cellsOf e∧(∀(j:Nat),j < P.cellsOf e→∃v,w.cell? (a.add (i * P.cellsOf e+j))=some v∧∀d,ds[j]? =some d→RD w (· < w.heap.size) d v)∧BB P n e ds:=λi hi=>by
      have:=hE i hi;rw[ae (show i < elems.length by omega)] at this;simp only[jW] at this;obtain⟨c1,h1,h2⟩:=this;obtain⟨k1,k2⟩:=Qe h1;obtain⟨ds,g1,g2,g3⟩:=ih _ e c1 _ hpe h2 k1;refine⟨ds,by omega,λj hj=>?_,g3⟩;have hc:=k2 j hj;rw[add_add,ae (show j < c1.length by omega)] at hc;exact⟨_,hc,λd hd=>g2 j d _ hd (ae (show j < c1.length by omega))⟩
     let rows:List (List D):=(List.range len).map λi=>if hi:i < len then Classical.choose (key i hi) else []
     have zB:rows.length=len:=by simp[rows]
     have iE:∀i (hi:i < len),rows[i]? =some (Classical.choose (key i hi)):=λi hi=>by simp[rows,hi]
     have hrz:∀r∈rows,r.length=P.cellsOf e:=λr hr=>by
      obtain⟨i,hi⟩:=bJ.1 hr;have ph:i < len:=by have:=(aj.1 hi).1;omega
      rw[iE i ph] at hi;cases hi;exact(de (key i ph)).1
     refine⟨[.slice rows],rfl,one ?_,by
      simp only[BB,ht];refine⟨rows,rfl,λr hr=>?_⟩;obtain⟨i,hi⟩:=bJ.1 hr;have ph:i < len:=by have:=(aj.1 hi).1;omega
      rw[iE i ph] at hi;cases hi;exact(de (key i ph)).2.2⟩
     cases len with
     |zero=>
      have:rows=[]:=aI zB;rw[this];exact .pQ
     |succ len=>
      have h0:=(de (key 0 (by omega))).2.1 0 hz;obtain⟨v0,N',_⟩:=h0;have hblk:=TQ N';rw[block_add] at hblk;have tW:rows.flatten.length=(len+1) * P.cellsOf e:=by rw[ir hrz,zB]
      have split:∀j,j < (len+1) * P.cellsOf e→j / P.cellsOf e < len+1∧j % P.cellsOf e < P.cellsOf e∧j / P.cellsOf e * P.cellsOf e+j % P.cellsOf e=j:=λj hj=>
       ⟨(Nat.div_lt_iff_lt_mul hz).2 hj,Nat.mod_lt _ hz,by rw[kT];exact Nat.div_add_mod j _⟩
      have:=RD.slice (w:=w) (ok:=(· < w.heap.size)) (rows:=rows) (a:=a) (c:=cap) (P.cellsOf e) (λj=>(w.cell? (a.add j)).getD undef) hrz hblk (by omega)
       (λj hj=>by
        rw[tW] at hj;obtain⟨s1,s2,s3⟩:=split j hj;obtain⟨v,hv,_⟩:=(de (key _ s1)).2.1 _ s2;rw[s3] at hv;simp[hv])
       (λj d hd=>by
        have hj:j < (len+1) * P.cellsOf e:=by rw[← tW];exact(aj.1 hd).1
        obtain⟨s1,s2,s3⟩:=split j hj;obtain⟨v,hv,hr⟩:=(de (key _ s1)).2.1 _ s2;rw[s3] at hv;rw[← s3,flat_get hrz (iE _ s1) s2] at hd;simp only[hv,cg];exact hr d hd)
      rw[zB] at this;exact this
   |struct fs=>
    obtain⟨xs,n',rfl,_,_,N6,hx⟩:=DataW.trod_struct ht h;have go:∀(l:List Field) (o:Nat),kn.go P n o l (P.cellsOf t)=true→o≤cs.length→(∀f∈l,∃x,DataW.trod enc P w 0 sp held n' f.type ((cs.drop f.offset).take (P.cellsOf f.type))=some x)→
      ∃ds:List D,o+ds.length=cs.length∧(∀(i:Nat) (d:D) (v:Value),ds[i]? =some d→cs[o+i]? =some v→RD w (· < w.heap.size) d v)∧∀f∈l,o≤f.offset∧BB P n f.type ((ds.drop (f.offset - o)).take (P.cellsOf f.type)):=λl=>by
     induction l with
     |nil=>
      intro o hg ho _;simp only[kn.go,ew] at hg;exact⟨[],by simp;omega,λi d v hd=>by simp at hd,λf hf=>by simp at hf⟩
     |cons f l ihl=>
      intro o hg ho hf;simp only[kn.go,aR,ew] at hg;obtain⟨⟨Xy,hpf⟩,LK⟩:=hg;have bound:∀(l:List Field) (o:Nat),kn.go P n o l (P.cellsOf t)=true→o≤P.cellsOf t:=λl=>by
       induction l with
       |nil=>intro o h;simp only[kn.go,ew] at h;omega
       |cons f l ih2=>intro o h;simp only[kn.go,aR] at h;have:=ih2 _ h.2;omega
      have hb:=bound _ _ LK;obtain⟨x,hx⟩:=hf f (by simp);have PM:((cs.drop f.offset).take (P.cellsOf f.type)).length=P.cellsOf f.type:=by simp;omega
      obtain⟨d1,e1,e2,e3⟩:=ih _ f.type _ x hpf hx PM;obtain⟨d2,k1,k2,k3⟩:=ihl (o+P.cellsOf f.type) LK (by omega) λg hg=>hf g (by simp[hg])
      rw[PM] at e1;refine⟨d1++d2,by simp;omega,λi d v hd hv=>?_,λg hg=>?_⟩
      ·by_cases hi:i < d1.length
       ·rw[ek hi] at hd
        refine e2 i d v hd ?_;rw[dR (by omega),dc,Xy];exact hv
       ·rw[fF (by omega)] at hd
        refine k2 (i - d1.length) d v hd ?_;rw[← hv];congr 1;omega
      ·rcases aZ.1 hg with rfl |hg
       ·refine⟨by omega,?_⟩
        rw[Xy,Nat.sub_self,tf,nY (by omega),fP (by omega)];exact e3
       ·obtain⟨q1,q2⟩:=k3 g hg
        refine⟨by omega,?_⟩;rw[show g.offset - o=d1.length+(g.offset - (o+P.cellsOf f.type)) by omega,←List.drop_drop,List.drop_left];exact q2
    obtain⟨ds,k1,k2,k3⟩:=go fs.toList 0 hp (cE _) λf hf=>by
     obtain⟨i,hi⟩:=bJ.1 hf;have Xv:i < xs.length:=by have:=(aj.1 hi).1;simp at this;omega
     have:=hx i f (by simpa using hi);exact⟨xs[i],by rw[this];exact ae Xv⟩
    refine⟨ds,by omega,λi d v hd hv=>k2 i d v hd (by simpa using hv),?_⟩;simp only[BB,ht];refine⟨by omega,λf hf=>?_⟩;have:=(k3 f hf).2;simpa using this
   |_=>cases hp
theorem IA {t:TypeId} {r:Reach} {b0:Nat} {v:Value} {d:DataW H} {ps:List MemPlace} {pl:Pl} (m:Nat) (hp:kn P m t=true) (sA:Value.okWide P w r b0 t v) (h:DataW.Trod enc P w 0 sp held t v d ps):
  ∃ds:List D,BB P m t ds∧((∃fs,P.underlying t=some (.struct fs))→RA w (· < w.heap.size) pl (.agg (ds.map .d)) v)∧((∀fs,P.underlying t≠some (.struct fs))→∃x,ds=[x]∧RA w (· < w.heap.size) pl (.d x) v):=by
 obtain⟨fuel,hf⟩:=h;have eY:(v.cells).size=P.cellsOf t∧((∃fs,P.underlying t=some (.struct fs))→∃cs,v=.agg cs)∧((∀fs,P.underlying t≠some (.struct fs))→v.cells= #[v]):=by
  cases m with
  |zero=>simp[kn] at hp
  |succ n=>
   simp only[kn] at hp;cases ht:P.underlying t with
   |none=>rw[ht] at hp;cases hp
   |some desc=>
    rw[ht] at hp;cases desc with
    |bool=>
     obtain⟨b,rfl⟩:=okWide_bool ht sA;simp only[ew] at hp;exact⟨by simp[Value.cells,hp],λ⟨fs,h⟩=>(by simp at h),λ_=>rfl⟩
    |int k=>
     obtain⟨b,rfl⟩:=okWide_int ht sA;simp only[ew] at hp;exact⟨by simp[Value.cells,hp],λ⟨fs,h⟩=>(by simp at h),λ_=>rfl⟩
    |string=>
     obtain⟨b,rfl⟩:=okWide_string ht sA;simp only[ew] at hp;exact⟨by simp[Value.cells,hp],λ⟨fs,h⟩=>(by simp at h),λ_=>rfl⟩
    |slice e=>
     obtain⟨a,l,c,rfl⟩:=okWide_slice ht sA;simp only[aR,ew] at hp;exact⟨by simp[Value.cells,hp.1.1],λ⟨fs,h⟩=>(by simp at h),λ_=>rfl⟩
    |struct fs=>
     simp only[Value.okWide,ht] at sA;obtain⟨cs,rfl,hs,_⟩:=sA;exact⟨hs,λ_=>⟨cs,rfl⟩,λh=>absurd rfl (h fs)⟩
    |_=>cases hp
 obtain⟨h1,h2,h3⟩:=eY;obtain⟨ds,g1,g2,g3⟩:=Q2 m fuel t v.cells.toList (d,ps) hp hf (by simpa using h1);refine⟨ds,g3,λhs=>?_,λhs=>?_⟩
 ·obtain⟨cs,rfl⟩:=h2 hs
  simp only[Value.cells] at g1 g2;simp at g1;refine .agg (by simp[g1]) (λi a u ha hu=>?_) (λi u hu=>?_)
  ·rw[aA] at ha
   cases hd:ds[i]? with
   |none=>rw[hd] at ha;cases ha
   |some x=>rw[hd] at ha;cases ha;exact .d (g2 i x u hd (by simpa using hu))
  ·have hi:i < ds.length:=by have:=(aL.1 hu).1;omega
   exact(g2 i ds[i] u (ae hi) (by simpa using hu)).one
 ·have hc:=h3 hs
  rw[hc] at g1 g2
  match ds,g1 with
  |[x],_=>exact⟨x,rfl,.d (g2 0 x v rfl rfl)⟩
theorem NF {α:Type} {f:α→List D}:∀{rows:List (List D)},(∀r∈rows,∃x,r=f x)→∃l:List α,rows=ak f l
 |[],_=>⟨[],rfl⟩
 |r::rows,h=>by
  obtain⟨x,hx⟩:=h r (by simp);obtain⟨l,hl⟩:=NF (rows:=rows) λr hr=>h r (by simp[hr])
  exact⟨x::l,by rw[wE,←hx,←hl]⟩
theorem oc {m t:Nat} {k:IntKind} (hu:P.underlying t=some (.int k)) {ds:List D} (h:BB P m t ds):∃n:Int,ds=aH k n:=by
 cases m with
 |zero=>exact h.elim
 |succ m=>simp only[BB,hu] at h;obtain⟨n,h,_⟩:=h;exact⟨n,h⟩
theorem D2 {m t:Nat} (hu:P.underlying t=some .string) {ds:List D} (h:BB P m t ds):∃b,ds=mW b∧b.size≤9223372036854775807:=by
 cases m with
 |zero=>exact h.elim
 |succ m=>simp only[BB,hu] at h;exact h
theorem BO {m t e:Nat} (hu:P.underlying t=some (.slice e)) {α:Type} {f:α→List D} (hf:∀m ds,BB P m e ds→∃x,ds=f x) {ds:List D} (h:BB P m t ds):∃l,ds=uE f l:=by
 cases m with
 |zero=>exact h.elim
 |succ m=>
  simp only[BB,hu] at h;obtain⟨rows,rfl,hr⟩:=h;obtain⟨l,rfl⟩:=NF λr hm=>hf m r (hr r hm)
  exact⟨l,rfl⟩
theorem wz {m t:Nat} {fs:Array Field} (hu:P.underlying t=some (.struct fs)) {ds:List D} (h:BB P m t ds):∃m',ds.length=P.cellsOf t∧∀f∈fs.toList,BB P m' f.type ((ds.drop f.offset).take (P.cellsOf f.type)):=by
 cases m with
 |zero=>exact h.elim
 |succ m=>simp only[BB,hu] at h;exact⟨m,h⟩
theorem JP {α:Type} {f:α→List D} {q:α→Prop}:∀{rows:List (List D)},(∀r∈rows,∃x,r=f x∧q x)→∃l:List α,rows=ak f l∧∀x∈l,q x
 |[],_=>⟨[],rfl,λx hx=>by simp at hx⟩
 |r::rows,h=>by
  obtain⟨x,hx,hq⟩:=h r (by simp);obtain⟨l,hl,PK⟩:=JP (rows:=rows) λr hr=>h r (by simp[hr])
  exact⟨x::l,by rw[wE,←hx,←hl],λy hy=>by rcases aZ.1 hy with rfl |hy;exact hq;exact PK y hy⟩
theorem zJ {m t e:Nat} (hu:P.underlying t=some (.slice e)) {α:Type} {f:α→List D} {q:α→Prop} (hf:∀m ds,BB P m e ds→∃x,ds=f x∧q x) {ds:List D} (h:BB P m t ds):∃l,ds=uE f l∧∀x∈l,q x:=by
 cases m with
 |zero=>exact h.elim
 |succ m=>
  simp only[BB,hu] at h;obtain⟨rows,rfl,hr⟩:=h;obtain⟨l,rfl,hl⟩:=JP λr hm=>hf m r (hr r hm)
  exact⟨l,rfl,hl⟩
end
end Go.Vl
