/- The value logic: an owned row of plain cells (integers, booleans, strings; k to an element) turned in its place by the library: put in order, turned around. Conditions: none. -/
import Derived.Test.YtjnflahicimmlaaGreatVmZd
import Derived.Shelf.GgSortFunc.RowK
set_option linter.unusedSimpArgs false
set_option linter.unusedVariables false
namespace Go.Vl
open Go Go.RowKit Go.Sort
def dval:D→Value
 | .int k n=>.int k n
 | .bool b=>.bool b
 | .str s=>.string s
 |_=>.tuple #[]
def plainD:D→Bool
 | .int _ _ | .bool _ | .str _=>true
 |_=>false
theorem dval_one {d:D} (h:plainD d=true):(dval d).oneCell'=true:=by cases d <;> first |rfl |cases h
theorem rd_plain {w:World} {ok:Nat→Prop} {d:D} {u:Value} (hp:plainD d=true) (h:RD w ok d u):u=dval d:=by
 cases h <;> first |rfl |cases hp
theorem rd_dval {w:World} {ok:Nat→Prop} {d:D} (hp:plainD d=true):RD w ok d (dval d):=by
 cases d with
 |int k n=>exact .int
 |bool b=>exact .bool
 |str s=>exact .str
 |_=>cases hp
section
variable {P:Program} {f:FuncId} {e k:Nat} {α:Type} [Inhabited α] {row:α→List D}
def encR (row:α→List D) (x:α):List Value:=(row x).map dval
theorem rflat_get (hk:∀x,(row x).length=k):∀(l:List α) (t:Nat),t < l.length * k→((rowsF row l).flatten.map dval)[t]? =some ((encR row (l.getD (t / k) default))[t % k]!)
 |[],t,h=>by simp at h
 |x::l,t,h=>by
  have k0:0 < k:=Nat.pos_of_ne_zero fun e=>by subst e;simp at h
  simp only[rowsF,List.map_cons,List.flatten_cons,List.map_append]
  by_cases ht:t < k
  ·rw[List.getElem?_append_left (by rw[List.length_map,hk];exact ht),Nat.div_eq_of_lt ht,Nat.mod_eq_of_lt ht]
   have h1:t < (encR row x).length:=by unfold encR;rw[List.length_map,hk];exact ht
   rw[show (List.map dval (row x))=encR row x from rfl,List.getElem?_eq_getElem h1]
   simp[h1]
  ·rw[List.getElem?_append_right (by rw[List.length_map,hk];omega),List.length_map,hk]
   have ih:=rflat_get hk l (t - k) (by rw[List.length_cons,Nat.add_mul] at h;omega)
   have e1:t / k=(t - k) / k+1:=by
    rw[show t=(t - k)+k by omega,Nat.add_div_right _ k0];simp
   have e2:t % k=(t - k) % k:=by rw[show t=(t - k)+k by omega,Nat.add_mod_right];simp
   rw[e1,e2]
   simpa[rowsF] using ih
omit [Inhabited α] in
theorem rflat_len (hk:∀x,(row x).length=k):∀l:List α,(rowsF row l).flatten.length=l.length * k
 |[]=>by simp[rowsF]
 |x::l=>by
  have:=rflat_len hk l
  simp only[rowsF,List.map_cons,List.flatten_cons,List.length_append,List.length_cons,hk] at this ⊢
  rw[this,Nat.add_mul,Nat.one_mul,Nat.add_comm]
theorem flatK_row (hk:∀x,(row x).length=k) (l:List α):flatK (encR row) k l.toArray=((rowsF row l).flatten.map dval).toArray:=by
 refine Array.ext (by rw[size_flatK,List.size_toArray,List.size_toArray,List.length_map,rflat_len hk]) fun t h1 h2=>?_
 have ht:t < l.length * k:=by rw[size_flatK,List.size_toArray] at h1;exact h1
 have:=rflat_get hk l t ht
 rw[List.getElem?_eq_getElem (by rw[List.length_map,rflat_len hk];exact ht)] at this
 have e1:=get_flatK (encR row) k l.toArray t (by simpa using ht)
 have e0:(flatK (encR row) k l.toArray)[t]! =(flatK (encR row) k l.toArray)[t]:=getElem!_pos (flatK (encR row) k l.toArray) t h1
 have h3:((rowsF row l).flatten.map dval).toArray[t]=((rowsF row l).flatten.map dval)[t]'(by simpa using h2):=by rw[List.getElem_toArray]
 have hd:t / k < l.length:=Nat.div_lt_of_lt_mul (by rw[Nat.mul_comm];exact ht)
 rw[h3,Option.some.inj this,←e0,e1]
 have:l.toArray[t / k]! =l.getD (t / k) default:=by simp[List.getD,hd]
 rw[this]
omit [Inhabited α] in
theorem pvals {w:World} {ok:Nat→Prop} {l:List α} {xs:List Value} (hp:∀x,∀d∈row x,plainD d=true) (hk:∀x,(row x).length=k) (hl:xs.length=l.length * k) (h:∀(j:Nat) (d:D) (u:Value),(rowsF row l).flatten[j]? =some d→xs[j]? =some u→RD w ok d u):xs=(rowsF row l).flatten.map dval:=by
 refine List.ext_getElem (by rw[List.length_map,rflat_len hk,hl]) fun j h1 h2=>?_
 have hj:j < (rowsF row l).flatten.length:=by rw[List.length_map] at h2;exact h2
 have hd:plainD (rowsF row l).flatten[j]=true:=by
  have hm:=List.getElem_mem hj
  obtain⟨r,hr,hm⟩:=List.mem_flatten.1 hm
  simp only[rowsF,List.mem_map] at hr
  obtain⟨x,_,rfl⟩:=hr
  exact hp x _ hm
 rw[List.getElem_map]
 exact rd_plain hd (h j _ _ (List.getElem?_eq_getElem hj) (List.getElem?_eq_getElem h1))
omit [Inhabited α] in
theorem prows {w:World} {ok:Nat→Prop} {l:List α} (hp:∀x,∀d∈row x,plainD d=true):∀(j:Nat) (d:D) (u:Value),(rowsF row l).flatten[j]? =some d→((rowsF row l).flatten.map dval)[j]? =some u→RD w ok d u:=fun j d u h1 h2=>by
 rw[List.getElem?_map,h1] at h2
 obtain rfl:=Option.some.inj h2
 have hm:=List.mem_of_getElem? h1
 obtain⟨r,hr,hm⟩:=List.mem_flatten.1 hm
 simp only[rowsF,List.mem_map] at hr
 obtain⟨x,_,rfl⟩:=hr
 exact rd_dval (hp x d hm)
theorem holds_id {w:World} {g:Nat} {cur:Array Value} {xs:List Value} {m:Nat} (hb:w.heap[g]? =some (.cells cur e (0,0))) (hm:m=xs.length) (ht:cur.toList.take m=xs):Holds id w g 0 xs.toArray:=by
 subst hm
 intro j hj
 have hj':j < xs.length:=by simpa using hj
 refine⟨?_,by simp[World.frozen?,hb]⟩
 have h1:(cur.toList.take xs.length)[j]? =xs[j]? :=by rw[ht]
 rw[List.getElem?_take_of_lt hj'] at h1
 simp only[World.cell?,hb,Nat.zero_add]
 simp only[Option.isSome_none,Bool.false_eq_true,if_false]
 rw[← Array.getElem?_toList,h1]
 simp[hj']
theorem heap_id {w:World} {g n:Nat} {os:Array Obj} {cur:Array Value} {fr:Nat×Nat} (d:Array Value) (hb:w.heap[g]? =some (.cells cur e fr)):
  (grow (putRow id (Sort.ahead w n) g 0 d) os).heap[g]? =some (.cells (putCells id 0 d cur) e fr):=by
 have hg:g < w.heap.size:=(Array.getElem?_eq_some_iff.1 hb).1
 rw[heap_grow_old _ _ (by simpa using hg)]
 simp[putRow,mapBlock,Sort.ahead,Array.getElem?_modify,hb,onCells]
theorem grownBy_id {w:World} {g n:Nat} {os:Array Obj} (d:Array Value):w.grownBy (grow (putRow id (Sort.ahead w n) g 0 d) os) (some g):=by
 refine⟨rfl,rfl,rfl,by simp,fun k hk hne=>?_⟩
 rw[heap_grow_old _ _ (by simpa using hk)]
 have:g≠k:=fun e=>hne (by rw[e])
 simp[putRow,mapBlock,Sort.ahead,Array.getElem?_modify,this]
theorem take_putCells_id (cur:Array Value) (ts:List Value) (h:ts.length≤cur.size):(putCells id 0 ts.toArray cur).toList.take ts.length=ts:=by
 apply List.ext_getElem?
 intro j
 by_cases hj:j < ts.length
 ·rw[List.getElem?_take_of_lt hj,Array.getElem?_toList]
  simp[putCells,hj,show j < cur.size by omega]
 ·rw[List.getElem?_take_eq_none (by omega),List.getElem?_eq_none (by omega)]
omit [Inhabited α] in
/-- what a call is handed: an owned row of plain cells, and what else stands among the arguments -/
theorem one_rowK (he:e < 1000000) (hp:∀x,∀d∈row x,plainD d=true) (hk:∀x,(row x).length=k) {w:World} {ok:Nat→Prop} {io:List Nat} {iv:List Value} {l:List α} (hpre:FnPre w ok io iv [] [⟨e,k,rowsF row l⟩]):
  ∃v,io=[]∧iv=[v]∧w.ownsRow 0 e k v l.length ((rowsF row l).flatten.map dval):=by
 have hio:io=[]:=List.eq_nil_of_length_eq_zero (by simpa using hpre.len)
 obtain⟨v,rfl⟩:∃v,iv=[v]:=List.length_eq_one_iff.1 (by simpa using hpre.lenv)
 subst hio
 obtain⟨hat,h3⟩:=hpre.vat 0 v _ rfl rfl
 obtain⟨xs,h1,h2⟩:=hat.row (isM_lt he)
 have h1':w.ownsRow 0 e k v l.length xs:=by simpa[rowsF] using h1
 have hxs:=pvals hp hk h1'.1 h2
 subst hxs
 exact⟨v,rfl,rfl,h1'⟩
theorem turn_row (F:List α→List α) (hF:∀l,(F l).length=l.length) (hp:∀x,∀d∈row x,plainD d=true) (hk:∀x,(row x).length=k) (more:List AV) (mv:List Value)
  (hmore:∀(w:World) (ok:Nat→Prop) (io:List Nat) (iv:List Value) (vs:Array Value),vs.size=1+more.length→(∀(i:Nat) (x:AV) (v:Value),(AV.vec (InV 0)::more)[i]? =some x→vs[i]? =some v→RA w ok (ioPl io iv) x v)→∃v,vs= #[v]++mv.toArray)
  (l:List α)
  (hC:∀(g cap:Nat) (w:World),(∃ok:Nat→Prop,GlobAt P w ok∧¬ok g∧∀b,ok b→b < w.heap.size)→HoldsK (encR row) k w g 0 l.toArray→g < w.heap.size→
   Calls P f (#[.slice (some ⟨g,0,none⟩) l.length cap]++mv.toArray) w fun en w'=>en=.returned (.tuple #[])∧∃n os,w'=grow (putRowK (encR row) k (Sort.ahead w n) g 0 (F l).toArray) os)
  (hN:∀(p:Option Addr) (cap:Nat) (w:World),Calls P f (#[.slice p 0 cap]++mv.toArray) w fun en w'=>en=.returned (.tuple #[])∧w'=w) (he:e < 1000000:=by decide):
  FnOKh P f [] [⟨e,k,rowsF row l⟩] (.vec (InV 0)::more) (.tup []) [] [⟨e,k,rowsF row (F l)⟩]:=by
 intro w ok io iv vs hpre hvs hargs hgl
 obtain⟨v,rfl,rfl,hown⟩:=one_rowK he hp hk hpre
 obtain⟨v',rfl⟩:=hmore w ok [] [v] vs (by simpa[Nat.add_comm] using hvs) hargs
 have ev:v'=v:=by
  have h0:=hargs 0 _ v' rfl (by simp)
  cases h0
  simp[ioPl,InV]
 subst ev
 have fin:∀w',(∃n os g cap cur,v'=.slice (some ⟨g,0,none⟩) l.length cap∧w.heap[g]? =some (.cells cur e (0,0))∧l.length≤cap∧cap≤maxLen∧cur.size=cap * k∧w'=grow (putRowK (encR row) k (Sort.ahead w n) g 0 (F l).toArray) os)∨(v'.blk=none∧l=[]∧w'=w)→
   ∃u iv',Ending.returned (.tuple #[])=.returned u∧RA w' (okn ok [v'] iv' w w') (ioPl [] iv') (.tup []) u∧FnPre w' (okn ok [v'] iv' w w') [] iv' [] [⟨e,k,rowsF row (F l)⟩]∧(∀u∈iv',∀g,u.blk=some g→w.heap.size≤g∨∃v∈[v'],v.blk=some g)∧Frm [] [v'] w w'∧iv'=[v']:=fun w' h=>by
  have hrow:w'.ownsRow 0 e k v' (F l).length ((rowsF row (F l)).flatten.map dval)∧Frm [] [v'] w w':=by
   rcases h with ⟨n,os,g,cap,cur,rfl,hb,h1,h2,h3,rfl⟩ |⟨h0,rfl,rfl⟩
   ·have hfl:flatK (encR row) k (F l).toArray=((rowsF row (F l)).flatten.map dval).toArray:=flatK_row hk _
    have hln:((rowsF row (F l)).flatten.map dval).length=l.length * k:=by rw[List.length_map,rflat_len hk,hF]
    unfold putRowK
    rw[hfl]
    refine⟨⟨by rw[hln,hF],.inr ⟨g,cap,_,by rw[hF],Nat.zero_le _,heap_id _ hb,by rw[hF];exact h1,h2,by simp[putCells,h3],?_⟩⟩,?_⟩
    ·rw[hF,←hln]
     exact take_putCells_id cur _ (by rw[hln,h3];exact Nat.mul_le_mul_right k h1)
    ·obtain⟨g1,g2,g3,g4,g5⟩:=grownBy_id (w:=w) (g:=g) (n:=n) (os:=os) ((rowsF row (F l)).flatten.map dval).toArray
     exact⟨g4,g1,g2,Nat.zero_le _,g3,fun b hb _ hv=>g5 b hb fun e=>hv (.slice (some ⟨g,0,none⟩) l.length cap) (by simp) e.symm⟩
   ·have:F []=[]:=List.eq_nil_of_length_eq_zero (by rw[hF];rfl)
    rw[this]
    exact⟨hown,⟨Nat.le_refl _,rfl,rfl,Nat.le_refl _,rfl,fun _ _ _ _=>rfl⟩⟩
  refine⟨_,[v'],rfl,.tup rfl (fun i a v h=>by simp at h),⟨rfl,List.nodup_nil,fun b hb=>⟨hb.2.1,by simp,hb.2.2⟩,fun i b cs h=>by simp at h,rfl,fun i u s hu hs=>?_,fun i j u u' hu hu' hij=>?_,fun _ _ _ h=>by simp at h⟩,fun u hu g hg=>.inr ⟨u,hu,hg⟩,hrow.2,rfl⟩
  ·cases i with
   |zero=>
    simp only[List.getElem?_cons_zero,Option.some.injEq] at hu hs
    subst hu;subst hs
    exact⟨.of (isM_lt he) ⟨_,by simpa[rowsF] using hrow.1,prows hp⟩,fun r hr=>by simp[rowsF] at hr;obtain⟨x,_,rfl⟩:=hr;exact hk x⟩
   |succ i=>simp at hu
  ·cases i with
   |zero=>cases j with
    |zero=>exact absurd rfl hij
    |succ j=>simp at hu'
   |succ i=>simp at hu
 rcases hown.2 with ⟨hv0,h0⟩ |⟨g,cap,cur,hv0,_,hb,h1,h2,h3,h4⟩ <;> subst hv0
 ·have hl:l=[]:=List.eq_nil_of_length_eq_zero h0
  refine Calls.mono (hN none 0 w) fun en w' ⟨h5,h6⟩=>?_
  subst h5
  exact fin w' (.inr ⟨rfl,hl,h6⟩)
 ·have hH:HoldsK (encR row) k w g 0 l.toArray:=by
   unfold HoldsK
   rw[flatK_row hk]
   exact holds_id hb (by rw[List.length_map,rflat_len hk]) h4
  refine Calls.mono (hC g cap w ⟨ok,hgl,fun h=>(hpre.okb g h).2.2 (.slice (some ⟨g,0,none⟩) l.length cap) (by simp) rfl,fun b h=>(hpre.okb b h).1⟩ hH (Array.getElem?_eq_some_iff.1 hb).1) fun en w' ⟨h5,n,os,h6⟩=>?_
  subst h5
  exact fin w' (.inl ⟨n,os,g,cap,cur,rfl,hb,h1,h2,h3,h6⟩)
omit [Inhabited α] in
theorem encR_len (hk:∀x,(row x).length=k) (x:α):(encR row x).length=k:=by unfold encR;rw[List.length_map,hk]
omit [Inhabited α] in
theorem encR_one (hp:∀x,∀d∈row x,plainD d=true) (x:α):∀v∈encR row x,v.oneCell'=true:=fun v hv=>by
 unfold encR at hv
 obtain⟨d,hd,rfl⟩:=List.mem_map.1 hv
 exact dval_one (hp x d hd)
end
theorem more_fn (g:FuncId) (w:World) (ok:Nat→Prop) (io:List Nat) (iv:List Value) (vs:Array Value) (hs:vs.size=1+[AV.fn g []].length) (h:∀(i:Nat) (x:AV) (v:Value),[AV.vec (InV 0),.fn g []][i]? =some x→vs[i]? =some v→RA w ok (ioPl io iv) x v):∃v,vs= #[v]++[Value.func (.func g) #[] #[]].toArray:=by
 have h1:vs.size=2:=by simpa using hs
 have h2:=h 1 (.fn g []) vs[1] rfl (Array.getElem?_eq_getElem (by omega))
 have h3:vs[1]=Value.func (.func g) #[] #[]:=by
  generalize vs[1]=u at h2
  cases h2 with
  |fn hl hh=>
   rename_i cs
   have:cs= #[]:=Array.eq_empty_of_size_eq_zero (by simpa using hl)
   rw[this]
 refine⟨vs[0],Array.ext (by simp[h1]) fun i h4 h5=>?_⟩
 have:i=0∨i=1:=by omega
 rcases this with rfl |rfl
 ·simp
 ·simpa using h3
end Go.Vl
