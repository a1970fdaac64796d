/- The value logic: an element put in ahead of an owned row of integers by the library (slices.Insert at 0). Conditions: none. -/
import Derived.Test.YthpiljonjcfgcaaGreatVmZd
import Derived.Shelf.Spec.SlicesInsertGrow
set_option linter.unusedSimpArgs false
set_option linter.unusedVariables false
namespace Go.Vl
open Go Go.RowKit Go.Sort
set_option linter.unusedSectionVars false
theorem heap_setCells {b:Nat} {ty:TypeId} {fr:Nat×Nat}:∀(vs:List Value) (o:Nat) {w:World} {cur:Array Value},w.heap[b]? =some (.cells cur ty fr)→∃cur':Array Value,(w.setCells b o vs).heap[b]? =some (.cells cur' ty fr)∧cur'.size=cur.size∧∀j,cur'[j]? =if o≤j∧j < o+vs.length∧j < cur.size then vs[j - o]? else cur[j]?
 |[],o,w,cur,h=>⟨cur,h,rfl,fun j=>by rw[if_neg (by simp;omega)]⟩
 |v::r,o,w,cur,h=>by
  have h1:(w.setCell ⟨b,o,none⟩ v).heap[b]? =some (.cells (cur.setIfInBounds o v) ty fr):=by
   simp only[World.setCell,Array.getElem?_modify,if_pos,h,Option.map_some]
   rfl
  obtain⟨cur',a1,a2,a3⟩:=heap_setCells r (o+1) h1
  refine⟨cur',a1,by simpa using a2,fun j=>?_⟩
  rw[a3 j]
  simp only[Array.size_setIfInBounds,List.length_cons]
  by_cases hj:o+1≤j∧j < o+1+r.length∧j < cur.size
  ·rw[if_pos hj,if_pos (by omega),show j - o=(j - (o+1))+1 by omega,List.getElem?_cons_succ]
  ·rw[if_neg hj,Array.getElem?_setIfInBounds]
   by_cases ho:o=j
   ·subst ho
    rw[if_pos rfl]
    by_cases hs:o < cur.size
    ·rw[if_pos hs,if_pos (by omega),Nat.sub_self,List.getElem?_cons_zero]
    ·rw[if_neg hs,if_neg (by omega),Array.getElem?_eq_none (by omega)]
   ·rw[if_neg ho,if_neg (by omega)]
theorem size_setCells' (b:Nat):∀(vs:List Value) (o:Nat) (w:World),(w.setCells b o vs).heap.size=w.heap.size
 |[],_,_=>rfl
 |v::r,o,w=>by rw[World.setCells,size_setCells' b r];simp[World.setCell]
theorem other_setCells (b:Nat) {i:Nat} (hne:i≠b):∀(vs:List Value) (o:Nat) (w:World),(w.setCells b o vs).heap[i]? =w.heap[i]?
 |[],_,_=>rfl
 |v::r,o,w=>by
  rw[World.setCells,other_setCells b hne r]
  simp only[World.setCell,Array.getElem?_modify]
  rw[if_neg (Ne.symm hne)]
theorem rest_setCells (b:Nat):∀(vs:List Value) (o:Nat) (w:World),(w.setCells b o vs).os=w.os∧(w.setCells b o vs).tape=w.tape∧(w.setCells b o vs).output=w.output
 |[],_,_=>⟨rfl,rfl,rfl⟩
 |v::r,o,w=>rest_setCells b r (o+1) (w.setCell ⟨b,o,none⟩ v)
theorem len2 {α:Type} {l:List α} (h:l.length=2):∃v u,l=[v,u]:=by
 match l,h with
 |[v,u],_=>exact⟨v,u,rfl⟩
section
variable {P:Program} {f:FuncId} {e:TypeId}
theorem two_rows (he:e < 1000000) {w:World} {ok:Nat→Prop} {io:List Nat} {iv:List Value} {vs:Array Value} {l m:List Int} (hpre:FnPre w ok io iv [] [⟨e,1,rowsF (iRow .i64) l⟩,⟨e,1,rowsF (iRow .i64) m⟩]) (hvs:vs.size=3)
  (hargs:∀(i:Nat) (x:AV) (v:Value),[AV.vec (InV 0),.d (.int .i64 0),.vec (InV 1)][i]? =some x→vs[i]? =some v→RA w ok (ioPl io iv) x v):
  ∃v u,io=[]∧iv=[v,u]∧vs= #[v,.int .i64 0,u]∧w.ownsRow 0 e 1 v l.length (l.map (Value.int .i64))∧w.ownsRow 0 e 1 u m.length (m.map (Value.int .i64))∧(v.blk=none∨v.blk≠u.blk):=by
 have hio:io=[]:=List.eq_nil_of_length_eq_zero (by simpa using hpre.len)
 obtain⟨v,u,rfl⟩:=len2 (by simpa using hpre.lenv)
 subst hio
 have row:∀{v:Value} {l:List Int},VecIn w ok v ⟨e,1,rowsF (iRow .i64) l⟩→w.ownsRow 0 e 1 v l.length (l.map (Value.int .i64)):=fun {v l} ⟨hat,h3⟩=>by
  obtain⟨xs,h1,h2⟩:=hat.row (isM_lt he)
  have h1':w.ownsRow 0 e 1 v l.length xs:=by simpa using h1
  have hxs:=ivals h1'.1 h2
  subst hxs
  exact h1'
 refine⟨v,u,rfl,rfl,?_,row (hpre.vat 0 v _ rfl rfl),row (hpre.vat 1 u _ rfl rfl),hpre.vdis 0 1 v u rfl rfl (by decide)⟩
 have h0:vs[0]? =some vs[0]:=Array.getElem?_eq_getElem (by omega)
 have h1:vs[1]? =some vs[1]:=Array.getElem?_eq_getElem (by omega)
 have h2:vs[2]? =some vs[2]:=Array.getElem?_eq_getElem (by omega)
 have a0:=hargs 0 _ _ rfl h0
 have a1:=hargs 1 _ _ rfl h1
 have a2:=hargs 2 _ _ rfl h2
 have e0:vs[0]=v:=by
  generalize vs[0]=y at a0
  cases a0
  simp[ioPl,InV]
 have e1:vs[1]=.int .i64 0:=by
  generalize vs[1]=y at a1
  cases a1 with
  |d h=>cases h;rfl
 have e2:vs[2]=u:=by
  generalize vs[2]=y at a2
  cases a2
  simp[ioPl,InV]
 have:vs= #[vs[0],vs[1],vs[2]]:=by
  refine Array.ext (by simp[hvs]) fun i h1 h2=>?_
  have:i=0∨i=1∨i=2:=by simp at h2;omega
  rcases this with rfl |rfl |rfl <;> rfl
 rw[this,e0,e1,e2]
theorem insert_row (hS:∀(b n c vb vc:Nat) (cs vs:List Value) (w:World),0 < n→n+1≤c→c≤9223372036854775807→vb≠b→cs.length=n→vs.length=1→
   (∀j v,cs[j]? =some v→w.cell? ⟨b,0+j,none⟩=some v)→(∀j,j < n+1→(w.cell? ⟨b,0+j,none⟩).isSome=true)→(∀j,j < n+1→w.frozen? ⟨b,0+j,none⟩=false)→
   (∀j v,vs[j]? =some v→w.cell? ⟨vb,0+j,none⟩=some v)→(∀v∈cs,v.oneCell'=true)→(∀v∈vs,v.oneCell'=true)→
   ∀(tA tB:TypeId) (kA kB:Nat),w.shape? vb=some (tA,kA)→w.shape? b=some (tB,kB)→kB≠0→w.frozen? ⟨vb,0,none⟩=false→w.frozen? ⟨vb,kA,none⟩=false→
   Calls P f #[.slice (some ⟨b,0,none⟩) n c,.int .i64 (0:Nat),.slice (some ⟨vb,0,none⟩) 1 vc] w fun e w'=>
    e=.returned (.slice (some ⟨b,0,none⟩) (n+1) c)∧w'=(w.drew.setCells b (0+(0+1)) (cs.drop 0)).setCells b (0+0) vs)
  (hG:∀(b n c vb vc:Nat) (cs vs:List Value) (w:World),0 < n→n≤c→c < n+1→(n+1) * 8≤140737488355328→cs.length=n→vs.length=1→
   (∀j v,cs[j]? =some v→w.cell? ⟨b,0+j,none⟩=some v)→(∀j v,vs[j]? =some v→w.cell? ⟨vb,0+j,none⟩=some v)→(∀v∈cs,v.oneCell'=true)→(∀v∈vs,v.oneCell'=true)→
   Calls P f #[.slice (some ⟨b,0,none⟩) n c,.int .i64 (0:Nat),.slice (some ⟨vb,0,none⟩) 1 vc] w fun en w'=>
    en=.returned (.slice (some ⟨w.heap.size,0,none⟩) (n+1) (grownCap w (n+1) c e))∧
    w'=(((w.alloc (.cells ((cs.take 0).toArray++Builtin.zeroCells (Value.int .i64 0).cells (n+1 - 0)++Builtin.zeroCells (Value.int .i64 0).cells (grownCap w (n+1) c e - (n+1))) e)).drew.setCells w.heap.size 0 vs).drew).setCells w.heap.size (0+1) (cs.drop 0))
  (l:List Int) (x:Int) (hl0:l≠[]) (hlen:l.length≤268435455) (he:e < 1000000:=by decide):
  FnOKv P f [] [⟨e,1,rowsF (iRow .i64) l⟩,⟨e,1,rowsF (iRow .i64) [x]⟩] [.vec (InV 0),.d (.int .i64 0),.vec (InV 1)] (.vec (InV 0)) [] [⟨e,1,rowsF (iRow .i64) (x::l)⟩]:=by
 intro w ok io iv vs hpre hvs hargs _
 obtain⟨v,u,rfl,rfl,rfl,hown,hown2,hap⟩:=two_rows he hpre hvs hargs
 have hlp:0 < l.length:=List.length_pos_iff.2 hl0
 have fin:∀w' v',w'.ownsRow 0 e 1 v' (x::l).length ((x::l).map (Value.int .i64))→Frm [] [v,u] w w'→(∀g,v'.blk=some g→w.heap.size≤g∨v.blk=some g)→
   ∃r iv',Ending.returned v'=.returned r∧RA w' (okn ok [v,u] iv' w w') (ioPl [] iv') (.vec (InV 0)) r∧FnPre w' (okn ok [v,u] iv' w w') [] iv' [] [⟨e,1,rowsF (iRow .i64) (x::l)⟩]∧(∀r∈iv',∀g,r.blk=some g→w.heap.size≤g∨∃v'∈[v,u],v'.blk=some g)∧Frm [] [v,u] w w':=fun w' v' hrow hfrm hvb=>by
  refine⟨_,[v'],rfl,RA.vec_at (io_lv.2 (by simp)) (io_rw rfl),⟨rfl,List.nodup_nil,fun b hb=>⟨hb.2.1,by simp,hb.2.2⟩,fun i b cs h=>by simp at h,rfl,fun i r s hu hs=>?_,fun i j r r' hu hu' hij=>?_,fun _ _ _ h=>by simp at h⟩,fun r hr g hg=>?_,hfrm⟩
  ·cases i with
   |zero=>
    simp only[List.getElem?_cons_zero,Option.some.injEq] at hu hs
    subst hu;subst hs
    exact⟨.of (isM_lt he) ⟨_,by simpa using hrow,irows⟩,fun r hr=>by simp[rowsF,iRow] at hr;rcases hr with rfl |⟨x,_,rfl⟩ <;> rfl⟩
   |succ i=>simp at hu
  ·cases i with
   |zero=>cases j with
    |zero=>exact absurd rfl hij
    |succ j=>simp at hu'
   |succ i=>simp at hu
  ·have:r=v':=by simpa using hr
   subst this
   exact(hvb g hg).imp id fun h=>⟨v,by simp,h⟩
 rcases hown.2 with ⟨_,h0⟩ |⟨b,c,cur,hv0,_,hb,h1,h2,h3,h4⟩
 ·omega
 rcases hown2.2 with ⟨_,h0⟩ |⟨vb,vc,cuv,hu0,_,hvb,k1,k2,k3,k4⟩
 ·simp at h0
 subst hv0;subst hu0
 simp only[List.length_cons,List.length_nil] at k1 k4 ⊢
 have hne:vb≠b:=fun h=>by
  rcases hap with h' |h'
  ·simp[Value.blk,Value.ownBlock] at h'
  ·exact h' (by simp[Value.blk,Value.ownBlock,h])
 have hcs:∀j v,(l.map (Value.int .i64))[j]? =some v→w.cell? ⟨b,0+j,none⟩=some v:=fun j v hj=>by
  rw[← h4,List.getElem?_take] at hj
  split at hj
  ·simp only[World.cell?,hb]
   simpa using hj
  ·cases hj
 have hvs':∀j v,([x].map (Value.int .i64))[j]? =some v→w.cell? ⟨vb,0+j,none⟩=some v:=fun j v hj=>by
  rw[← k4,List.getElem?_take] at hj
  split at hj
  ·simp only[World.cell?,hvb]
   simpa using hj
  ·cases hj
 have h1c:∀v∈l.map (Value.int .i64),v.oneCell'=true:=fun v hv=>by
  obtain⟨y,_,rfl⟩:=List.mem_map.1 hv;rfl
 have h1v:∀v∈[x].map (Value.int .i64),v.oneCell'=true:=fun v hv=>by
  obtain⟨y,_,rfl⟩:=List.mem_map.1 hv;rfl
 have hlm:(l.map (Value.int .i64)).length=l.length:=by simp
 have hbl:b < w.heap.size:=(Array.getElem?_eq_some_iff.1 hb).1
 have key:∀{cur1:Array Value} {cap:Nat},l.length+1≤cap→cur1.size=cap→(∀j,j < l.length+1→cur1[j]? =((x::l).map (Value.int .i64))[j]?)→cur1.toList.take ((l.length+1) * 1)=(x::l).map (Value.int .i64):=fun {cur1 cap} hc hs hh=>by
  refine List.ext_getElem? fun j=>?_
  rw[List.getElem?_take]
  split
  ·rw[Array.getElem?_toList];exact hh j (by omega)
  ·rw[List.getElem?_eq_none (by simp;omega)]
 by_cases hroom:l.length+1≤c
 ·refine Calls.mono (hS b l.length c vb vc (l.map (Value.int .i64)) ([x].map (Value.int .i64)) w hlp hroom (by simp only[maxLen] at h2;omega) hne hlm rfl hcs (fun j hj=>?_) (fun j hj=>?_) hvs' h1c h1v e e cuv.size cur.size (by simp[World.shape?,hvb]) (by simp[World.shape?,hb]) (by omega) (by simp[World.frozen?,hvb]) (by simp[World.frozen?,hvb])) fun en w' ⟨h5,h6⟩=>?_
  ·simp only[World.cell?,hb]
   rw[Array.getElem?_eq_getElem (by simp;omega)];rfl
  ·simp[World.frozen?,hb]
  ·subst h5
   have hb':w.drew.heap[b]? =some (.cells cur e (0,0)):=hb
   obtain⟨c1,a1,a2,a3⟩:=heap_setCells ((l.map (Value.int .i64)).drop 0) (0+(0+1)) hb'
   obtain⟨c2,b1,b2,b3⟩:=heap_setCells ([x].map (Value.int .i64)) (0+0) a1
   refine fin w' _ ⟨by simp,.inr ⟨b,c,c2,rfl,Nat.zero_le _,by rw[h6];exact b1,hroom,h2,by rw[b2,a2,h3],key hroom (by rw[b2,a2,h3];omega) fun j hj=>?_⟩⟩ ⟨?_,?_,?_,Nat.zero_le _,?_,fun g hg _ hgv=>?_⟩ (fun g hg=>.inr hg)
   ·rw[b3 j,a3 j]
    simp only[List.drop_zero,List.length_map,List.length_cons,List.length_nil]
    cases j with
    |zero=>rw[if_pos (by omega)];rfl
    |succ j=>rw[if_neg (by omega),if_pos (by omega)];simp
   ·rw[h6,size_setCells',size_setCells'];exact Nat.le_refl _
   ·rw[h6,(rest_setCells b _ _ _).1,(rest_setCells b _ _ _).1];rfl
   ·rw[h6,(rest_setCells b _ _ _).2.1,(rest_setCells b _ _ _).2.1];rfl
   ·rw[h6,(rest_setCells b _ _ _).2.2,(rest_setCells b _ _ _).2.2];rfl
   ·have hgb:g≠b:=fun h=>hgv _ (List.mem_cons_self) (by rw[h];rfl)
    rw[h6,other_setCells b hgb,other_setCells b hgb];rfl
 ·refine Calls.mono (hG b l.length c vb vc (l.map (Value.int .i64)) ([x].map (Value.int .i64)) w hlp h1 (by omega) (by omega) hlm rfl hcs hvs' h1c h1v) fun en w' ⟨h5,h6⟩=>?_
  subst h5
  have hge:=grownCap_ge w (l.length+1) c e
  have hcm:grownCap w (l.length+1) c e≤maxLen:=grownCap_le_maxLen w _ _ e (by simp only[maxLen];omega)
  generalize grownCap w (l.length+1) c e=G at *
  generalize hROW:((l.map (Value.int .i64)).take 0).toArray++Builtin.zeroCells (Value.int .i64 0).cells (l.length+1 - 0)++Builtin.zeroCells (Value.int .i64 0).cells (G - (l.length+1))=ROW at *
  have hRs:ROW.size=G:=by
   rw[← hROW]
   simp[size_zeroCells,Value.cells]
   omega
  have hb':(w.alloc (.cells ROW e)).drew.heap[w.heap.size]? =some (.cells ROW e (0,0)):=heap_alloc_new w _
  obtain⟨c1,a1,a2,a3⟩:=heap_setCells ([x].map (Value.int .i64)) 0 hb'
  have a1':((w.alloc (.cells ROW e)).drew.setCells w.heap.size 0 ([x].map (Value.int .i64))).drew.heap[w.heap.size]? =some (.cells c1 e (0,0)):=a1
  obtain⟨c2,b1,b2,b3⟩:=heap_setCells ((l.map (Value.int .i64)).drop 0) (0+1) a1'
  refine fin w' _ ⟨by simp,.inr ⟨w.heap.size,G,c2,rfl,Nat.zero_le _,by rw[h6];exact b1,hge,hcm,by rw[b2,a2,hRs];omega,key hge (by rw[b2,a2,hRs]) fun j hj=>?_⟩⟩ ⟨?_,?_,?_,Nat.zero_le _,?_,fun g hg _ hgv=>?_⟩ (fun g hg=>.inl (by cases hg;exact Nat.le_refl _))
  ·rw[b3 j,a3 j]
   simp only[List.drop_zero,List.length_map,List.length_cons,List.length_nil]
   cases j with
   |zero=>rw[if_neg (by omega),if_pos (by omega)];rfl
   |succ j=>rw[if_pos (by omega)];simp
  ·rw[h6,size_setCells']
   show w.heap.size≤((w.alloc (.cells ROW e)).drew.setCells w.heap.size 0 ([x].map (Value.int .i64))).heap.size
   rw[size_setCells']
   show w.heap.size≤(w.alloc (.cells ROW e)).heap.size
   simp
  ·rw[h6,(rest_setCells _ _ _ _).1]
   show((w.alloc (.cells ROW e)).drew.setCells w.heap.size 0 ([x].map (Value.int .i64))).os=_
   rw[(rest_setCells _ _ _ _).1];rfl
  ·rw[h6,(rest_setCells _ _ _ _).2.1]
   show((w.alloc (.cells ROW e)).drew.setCells w.heap.size 0 ([x].map (Value.int .i64))).tape=_
   rw[(rest_setCells _ _ _ _).2.1];rfl
  ·rw[h6,(rest_setCells _ _ _ _).2.2]
   show((w.alloc (.cells ROW e)).drew.setCells w.heap.size 0 ([x].map (Value.int .i64))).output=_
   rw[(rest_setCells _ _ _ _).2.2];rfl
  ·have hgb:g≠w.heap.size:=by omega
   rw[h6,other_setCells _ hgb]
   show((w.alloc (.cells ROW e)).drew.setCells w.heap.size 0 ([x].map (Value.int .i64))).heap[g]? =_
   rw[other_setCells _ hgb]
   show(w.alloc (.cells ROW e)).heap[g]? =_
   exact heap_alloc_old w _ hg
end
end Go.Vl
