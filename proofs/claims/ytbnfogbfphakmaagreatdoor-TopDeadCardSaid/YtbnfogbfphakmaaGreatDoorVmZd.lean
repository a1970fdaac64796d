/- The value logic: an owned row of integers sorted, or made compact, by the library. Conditions: none. -/
import Derived.Test.YtbnfogbfphakmaaGreatDoorVmV
import Derived.Sort.OwnSortedInts
import Derived.Lib.SlicesCompact
set_option linter.unusedSimpArgs false
set_option linter.unusedVariables false
namespace Go.Vl
open Go Go.RowKit Go.Sort
theorem WM (l:List Int):(AB (AH .i64) l).flatten=l.map (D.int .i64):=by
 induction l with
 |nil=>rfl
 |cons x l ih=>simp only[AB,List.map_cons,List.flatten_cons,AH,List.singleton_append] at ih ⊢;rw[ih]
theorem Y6 {w:World} {ok:Nat→Prop} {l:List Int} {xs:List Value} (hl:xs.length=l.length * 1) (h:∀(j:Nat) (d:D) (u:Value),(AB (AH .i64) l).flatten[j]? =some d→xs[j]? =some u→RD w ok d u):xs=l.map (Value.int .i64):=by
 refine List.ext_getElem (by simpa using hl) fun j h1 h2=>?_
 have hj:j < l.length:=by simpa using h2
 have:=h j (.int .i64 l[j]) xs[j] (by rw[WM];simp[hj]) (List.getElem?_eq_getElem h1)
 generalize xs[j]=u at this
 cases this
 simp
theorem WN {w:World} {ok:Nat→Prop} {l:List Int}:∀(j:Nat) (d:D) (u:Value),(AB (AH .i64) l).flatten[j]? =some d→(l.map (Value.int .i64))[j]? =some u→RD w ok d u:=fun j d u h1 h2=>by
 rw[WM,List.getElem?_map] at h1
 rw[List.getElem?_map] at h2
 cases hq:l[j]? with
 |none=>rw[hq] at h1;cases h1
 |some x=>rw[hq] at h1 h2;cases h1;cases h2;exact .int
section
variable {P:Program} {f:FuncId} {e:TypeId}
theorem ON (he:e < 1000000) {w:World} {ok:Nat→Prop} {io:List Nat} {iv:List Value} {vs:Array Value} {l:List Int} (hpre:EG w ok io iv [] [⟨e,1,AB (AH .i64) l⟩]) (hvs:vs.size=1)
  (hargs:∀(i:Nat) (x:AV) (v:Value),[AV.vec (InV 0)][i]? =some x→vs[i]? =some v→RA w ok (Ag io iv) x v):
  ∃v,io=[]∧iv=[v]∧vs= #[v]∧w.ownsRow 0 e 1 v l.length (l.map (Value.int .i64)):=by
 have hio:io=[]:=List.eq_nil_of_length_eq_zero (by simpa using hpre.len)
 obtain⟨v,rfl⟩:∃v,iv=[v]:=List.length_eq_one_iff.1 (by simpa using hpre.lenv)
 subst hio
 obtain⟨hat,h3⟩:=hpre.vat 0 v _ rfl rfl
 obtain⟨xs,h1,h2⟩:=hat.row (CK he)
 have h1':w.ownsRow 0 e 1 v l.length xs:=by simpa using h1
 have hxs:=Y6 h1'.1 h2
 subst hxs
 refine⟨v,rfl,rfl,?_,h1'⟩
 have h0:vs[0]? =some vs[0]:=Array.getElem?_eq_getElem (by omega)
 have:=hargs 0 _ _ rfl h0
 have e1:vs[0]=v:=by
  generalize vs[0]=u at this
  cases this
  simp[Ag,InV]
 have:vs= #[vs[0]]:=by
  refine Array.ext (by simp[hvs]) fun i h1 h2=>?_
  have:i=0:=by simp at h2;omega
  subst this;rfl
 rw[this,e1]
theorem Q0 (hC:∀(blk off cap:Nat) (zs:List Int) (w:World),Holds (Value.int .i64) w blk off zs.toArray→blk < w.heap.size→zs.length < 4611686018427387904→
   Calls P f #[.slice (some ⟨blk,off,none⟩) zs.length cap] w fun e w'=>e=.returned (.tuple #[])∧∃n os,w'=grow (putRow (Value.int .i64) (Sort.ahead w n) blk off (zs.mergeSort fun x y=>decide (x≤y)).toArray) os)
  (hN:∀(p:Option Addr) (cap:Nat) (w:World),Calls P f #[.slice p 0 cap] w fun e w'=>e=.returned (.tuple #[])∧w'=w) (l:List Int) (hlen:l.length≤268435456) (he:e < 1000000:=by decide):
  Ka P f [] [⟨e,1,AB (AH .i64) l⟩] [.vec (InV 0)] (.tup []) [] [⟨e,1,AB (AH .i64) (l.mergeSort fun x y=>decide (x≤y))⟩]:=by
 intro w ok io iv vs hpre hvs hargs _
 obtain⟨v,rfl,rfl,rfl,hown⟩:=ON he hpre hvs hargs
 have fin:∀w',(∃n os g cap cur,v=.slice (some ⟨g,0,none⟩) l.length cap∧w.heap[g]? =some (.cells cur e (0,0))∧l.length≤cap∧cap≤maxLen∧cur.size=cap * 1∧w'=grow (putRow (Value.int .i64) (Sort.ahead w n) g 0 (l.mergeSort fun x y=>decide (x≤y)).toArray) os)∨(v.blk=none∧l=[]∧w'=w)→
   ∃u iv',Ending.returned (.tuple #[])=.returned u∧RA w' (okn ok [v] iv' w w') (Ag [] iv') (.tup []) u∧EG w' (okn ok [v] iv' w w') [] iv' [] [⟨e,1,AB (AH .i64) (l.mergeSort fun x y=>decide (x≤y))⟩]∧(∀u∈iv',∀g,u.blk=some g→w.heap.size≤g∨∃v'∈[v],v'.blk=some g)∧Frm [] [v] w w'∧iv'=[v]:=fun w' h=>by
  have hrow:w'.ownsRow 0 e 1 v (l.mergeSort fun x y=>decide (x≤y)).length ((l.mergeSort fun x y=>decide (x≤y)).map (Value.int .i64))∧Frm [] [v] w w':=by
   rcases h with ⟨n,os,g,cap,cur,rfl,hb,h1,h2,h3,rfl⟩ |⟨h0,rfl,rfl⟩
   ·have:=ownsRow_sortedI (n:=n) (os:=os) (ss:=l) (ts:=l.mergeSort fun x y=>decide (x≤y)) (by simp) (Nat.zero_le g) hb h1 h2 h3
    refine⟨by rw[show (l.mergeSort fun x y=>decide (x≤y)).length=l.length by simp];exact this,?_⟩
    obtain⟨g1,g2,g3,g4,g5⟩:=grownBy_sortedI (w:=w) (g:=g) (n:=n) (os:=os) (l.mergeSort fun x y=>decide (x≤y)).toArray
    exact⟨g4,g1,g2,Nat.zero_le _,g3,fun b hb _ hv=>g5 b hb fun e=>hv (.slice (some ⟨g,0,none⟩) l.length cap) (by simp) e.symm⟩
   ·exact⟨by simpa using hown,⟨Nat.le_refl _,rfl,rfl,Nat.le_refl _,rfl,fun _ _ _ _=>rfl⟩⟩
  refine⟨_,[v],rfl,.tup rfl (fun i a v h=>by simp at h),⟨rfl,List.nodup_nil,fun b hb=>⟨hb.2.1,by simp,hb.2.2⟩,fun i b cs h=>by simp at h,rfl,fun i u s hu hs=>?_,fun i j u u' hu hu' hij=>?_,fun _ _ _ h=>by simp at h⟩,fun u hu g hg=>.inr ⟨u,hu,hg⟩,hrow.2,rfl⟩
  ·cases i with
   |zero=>
    simp only[List.getElem?_cons_zero,Option.some.injEq] at hu hs
    subst hu;subst hs
    exact⟨.of (CK he) ⟨_,by simpa using hrow.1,WN⟩,fun r hr=>by simp[AB,AH] at hr;obtain⟨x,_,rfl⟩:=hr;rfl⟩
   |succ i=>simp at hu
  ·cases i with
   |zero=>cases j with
    |zero=>exact absurd rfl hij
    |succ j=>simp at hu'
   |succ i=>simp at hu
 rcases hown.2 with ⟨hv0,h0⟩ |⟨g,cap,cur,hv0,_,hb,h1,h2,h3,h4⟩ <;> subst hv0
 ·have hl:l=[]:=List.eq_nil_of_length_eq_zero h0
  refine Calls.mono (hN none 0 w) fun en w' ⟨h5,h6⟩=>?_
  subst h5
  exact fin w' (.inr ⟨rfl,hl,h6⟩)
 ·have hH:=holds_of_blockI (ss:=l) hb (by simpa using h4)
  refine Calls.mono (hC g 0 cap l w hH (Array.getElem?_eq_some_iff.1 hb).1 (by omega)) fun en w' ⟨h5,n,os,h6⟩=>?_
  subst h5
  exact fin w' (.inl ⟨n,os,g,cap,cur,rfl,hb,h1,h2,h3,h6⟩)
theorem MK (zs:List Int):(Lib.compact zs).length≤zs.length:=by
 simp only[Lib.compact,Lib.compactUpTo,List.length_map]
 exact Nat.le_trans (List.length_filter_le _ _) (by simp)
theorem ML (hC:∀(blk off cap:Nat) (zs:List Int) (w:World),Holds (Value.int .i64) w blk off zs.toArray→zs.length≤9223372036854775807→zs.length≤cap→
   Calls P f #[.slice (some ⟨blk,off,none⟩) zs.length cap] w fun e w'=>e=.returned (.slice (some ⟨blk,off,none⟩) (Lib.compact zs).length cap)∧∃q,w'=putRow (Value.int .i64) (Sort.ahead w q) blk off (Lib.compact zs++List.replicate (zs.length - (Lib.compact zs).length) 0).toArray)
  (hN:∀(a:Option Addr) (cap:Nat) (w:World),Calls P f #[.slice a 0 cap] w fun e w'=>e=.returned (.slice a 0 cap)∧w'=w) (l:List Int) (hlen:l.length≤268435456) (he:e < 1000000:=by decide):
  DI P f [] [⟨e,1,AB (AH .i64) l⟩] [.vec (InV 0)] (.vec (InV 0)) [] [⟨e,1,AB (AH .i64) (Lib.compact l)⟩]:=by
 intro w ok io iv vs hpre hvs hargs _
 obtain⟨v,rfl,rfl,rfl,hown⟩:=ON he hpre hvs hargs
 have fin:∀w' v',w'.ownsRow 0 e 1 v' (Lib.compact l).length ((Lib.compact l).map (Value.int .i64))→Frm [] [v] w w'→v'.blk=v.blk→
   ∃u iv',Ending.returned v'=.returned u∧RA w' (okn ok [v] iv' w w') (Ag [] iv') (.vec (InV 0)) u∧EG w' (okn ok [v] iv' w w') [] iv' [] [⟨e,1,AB (AH .i64) (Lib.compact l)⟩]∧(∀u∈iv',∀g,u.blk=some g→w.heap.size≤g∨∃v'∈[v],v'.blk=some g)∧Frm [] [v] w w':=fun w' v' hrow hfrm hvb=>by
  refine⟨_,[v'],rfl,RA.vec_at (OA.2 (by simp)) (OB rfl),⟨rfl,List.nodup_nil,fun b hb=>⟨hb.2.1,by simp,hb.2.2⟩,fun i b cs h=>by simp at h,rfl,fun i u s hu hs=>?_,fun i j u u' hu hu' hij=>?_,fun _ _ _ h=>by simp at h⟩,fun u hu g hg=>.inr ⟨v,by simp,by
   have:u=v':=by simpa using hu
   rw[← hvb,←this];exact hg⟩,hfrm⟩
  ·cases i with
   |zero=>
    simp only[List.getElem?_cons_zero,Option.some.injEq] at hu hs
    subst hu;subst hs
    exact⟨.of (CK he) ⟨_,by simpa using hrow,WN⟩,fun r hr=>by simp[AB,AH] at hr;obtain⟨x,_,rfl⟩:=hr;rfl⟩
   |succ i=>simp at hu
  ·cases i with
   |zero=>cases j with
    |zero=>exact absurd rfl hij
    |succ j=>simp at hu'
   |succ i=>simp at hu
 have hcl:=MK l
 rcases hown.2 with ⟨hv0,h0⟩ |⟨g,cap,cur,hv0,_,hb,h1,h2,h3,h4⟩ <;> subst hv0
 ·have hl:l=[]:=List.eq_nil_of_length_eq_zero h0
  subst hl
  refine Calls.mono (hN none 0 w) fun en w' ⟨h5,h6⟩=>?_
  subst h5;subst h6
  exact fin _ _ ⟨by simp[Lib.compact,Lib.compactUpTo],.inl ⟨rfl,by simp[Lib.compact,Lib.compactUpTo]⟩⟩ ⟨Nat.le_refl _,rfl,rfl,Nat.le_refl _,rfl,fun _ _ _ _=>rfl⟩ rfl
 ·have hH:=holds_of_blockI (ss:=l) hb (by simpa using h4)
  refine Calls.mono (hC g 0 cap l w hH (by omega) h1) fun en w' ⟨h5,q,h6⟩=>?_
  subst h5;subst h6
  have hd:(Lib.compact l++List.replicate (l.length - (Lib.compact l).length) 0).length=l.length:=by simp;omega
  have hrow:=heap_sortedI (n:=q) (os:=#[]) (Lib.compact l++List.replicate (l.length - (Lib.compact l).length) 0).toArray hb
  have hg0:∀w:World,grow w #[]=w:=fun w=>by simp[grow]
  rw[hg0] at hrow
  obtain⟨g1,g2,g3,g4,g5⟩:=grownBy_sortedI (w:=w) (g:=g) (n:=q) (os:=#[]) (Lib.compact l++List.replicate (l.length - (Lib.compact l).length) 0).toArray
  rw[hg0] at g1 g2 g3 g4 g5
  refine fin _ _ ⟨by simp,.inr ⟨g,cap,_,rfl,Nat.zero_le _,hrow,Nat.le_trans hcl h1,h2,by simp[putCells,h3],?_⟩⟩ ⟨g4,g1,g2,Nat.zero_le _,g3,fun b hb _ hv=>g5 b hb fun e=>hv (.slice (some ⟨g,0,none⟩) l.length cap) (by simp) e.symm⟩ rfl
  rw[Nat.mul_one]
  have h7:=take_putCellsI cur (Lib.compact l++List.replicate (l.length - (Lib.compact l).length) 0) (by rw[hd];omega)
  have h8:=congrArg (List.take (Lib.compact l).length) h7
  rw[List.take_take,Nat.min_eq_left (by rw[hd];exact hcl)] at h8
  rw[h8,List.map_append,List.take_left' (by simp)]
end
end Go.Vl
