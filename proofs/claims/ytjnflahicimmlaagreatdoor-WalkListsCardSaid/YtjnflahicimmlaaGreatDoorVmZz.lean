/- The value logic: the package-level variables of a program at the world of a row. Conditions: none. -/
import Derived.Test.YtjnflahicimmlaaGreatDoorVmZv
import Derived.Sort.OwnSortedInts
import Derived.Lib.SlicesCompact
import Derived.Shelf.GgSortFunc.RowK
import Derived.Shelf.SlSortCmp.NoneTotal
set_option linter.unusedSimpArgs false
set_option linter.unusedVariables false
namespace Go.Vl
open Go
def KQ (P:Program) (g:Nat):Bool:=P.globals.toList.zipIdx.all λq=>q.2==g||(q.1.name != "leakresponse/notice.deadlines" &&q.1.name != "leakresponse/severity.levels" &&q.1.name != "internal/strconv.uint64pow10")
theorem KO {P:Program} {g:Nat} (h:KQ P g=true) {b:Nat} (hb:b≠g):wQ P b=[]:=by
 unfold wQ Tn;split
 ·rename_i q hq
  have hm:(q,b)∈P.globals.toList.zipIdx:=by
   rw[List.mem_zipIdx_iff_getElem?,bo];exact hq
  have:=bE.1 h _ hm;simp only[cj,ew,aR,bne_iff_ne,ne_eq] at this;rcases this with h1 |⟨⟨h1,h2⟩,h3⟩
  ·exact absurd h1 hb
  ·rw[ah h1,ah h2,ah h3]
 ·rfl
theorem MW {P:Program} {g:Nat} {zs:List Int} {W:World} (h:KQ P g=true) (hz:wQ P g=zs) (hc:∀(i:Nat) (x:Int),zs[i]? =some x→W.cell? ⟨g,i,none⟩=some (.int (KP P g) x)) (he:zs≠[]→W.cell? ⟨g,zs.length,none⟩=none):mB P W (· < W.heap.size):=λb i x hx=>by
 by_cases hb:b=g
 ·subst hb
  rw[hz] at hx;have:=hc i x hx;refine⟨?_,this,by rw[hz];exact he (by rintro rfl;simp at hx)⟩;unfold World.cell? at this;split at this
  ·rename_i h1;exact(aL.1 h1).1
  ·cases this
 ·rw[KO h hb] at hx;simp at hx
theorem mB.grown {P:Program} {w W:World} {ok:Nat→Prop} (h:mB P w ok) (gD:∀k,ok k→k < w.heap.size) (hs:w.heap.size≤W.heap.size) (hb:∀k,k < w.heap.size→W.heap[k]? =w.heap[k]?):mB P W (· < W.heap.size):=λb i x hx=>by
 obtain⟨h1,h2,h3⟩:=h b i x hx;have iN:=gD b h1;refine⟨bu iN hs,?_,?_⟩
 ·rw[← h2];exact gF (hb b iN)
 ·rw[← h3];exact gF (hb b iN)
end Go.Vl
namespace Go.Vl
open Go Go.RowKit Go.Sort
theorem abL (l:List Int):(ak (aH .i64) l).flatten=l.map (D.int .i64):=by
 induction l with
 |nil=>rfl
 |cons x l ih=>simp only[ak,aW,eG,aH,jo] at ih ⊢;rw[ih]
theorem W6 {w:World} {ok:Nat→Prop} {l:List Int}:∀(j:Nat) (d:D) (u:Value),(ak (aH .i64) l).flatten[j]? =some d→(l.map (Value.int .i64))[j]? =some u→RD w ok d u:=λj d u h1 h2=>by
 rw[abL,aA] at h1;rw[aA] at h2;cases hq:l[j]? with
 |none=>rw[hq] at h1;cases h1
 |some x=>rw[hq] at h1 h2;cases h1;cases h2;exact .int
section
variable {P:Program} {f:FuncId} {e:TypeId}
end
end Go.Vl
namespace Go.Vl
open Go Go.RowKit Go.Sort
def xA:D→Value
 | .int k n=>.int k n
 | .bool b=>.bool b
 | .str s=>.string s
 |_=>.tuple #[]
def tK:D→Bool
 | .int _ _ | .bool _ | .str _=>true
 |_=>false
theorem TA {d:D} (h:tK d=true):(xA d).oneCell'=true:=by cases d <;> first |rfl |cases h
theorem Rq {w:World} {ok:Nat→Prop} {d:D} {u:Value} (hp:tK d=true) (h:RD w ok d u):u=xA d:=by
 cases h <;> first |rfl |cases hp
theorem Vb {w:World} {ok:Nat→Prop} {d:D} (hp:tK d=true):RD w ok d (xA d):=by
 cases d with
 |int k n=>exact .int
 |bool b=>exact .bool
 |str s=>exact .str
 |_=>cases hp
section
variable {P:Program} {f:FuncId} {e k:Nat} {α:Type} [Inhabited α] {row:α→List D}
def vr (row:α→List D) (x:α):List Value:=(row x).map xA
theorem GU (hk:∀x,(row x).length=k):∀(l:List α) (t:Nat),t < l.length * k→((ak row l).flatten.map xA)[t]? =some ((vr row (l.getD (t / k) default))[t % k]!)
 |[],t,h=>by simp at h
 |x::l,t,h=>by
  have k0:0 < k:=Nat.pos_of_ne_zero λe=>by subst e;simp at h
  simp only[ak,aW,eG,bV];by_cases ht:t < k
  ·rw[ek (by rw[bq,hk];exact ht),Nat.div_eq_of_lt ht,Nat.mod_eq_of_lt ht]
   have h1:t < (vr row x).length:=by unfold vr;rw[bq,hk];exact ht
   rw[show (List.map xA (row x))=vr row x from rfl,ae h1];simp[h1]
  ·rw[fF (by rw[bq,hk];omega),bq,hk]
   have ih:=GU hk l (t - k) (by rw[cQ,dQ] at h;omega);have e1:t / k=(t - k) / k+1:=by
    rw[show t=(t - k)+k by omega,Nat.add_div_right _ k0];simp
   have e2:t % k=(t - k) % k:=by rw[show t=(t - k)+k by omega,Nat.add_mod_right];simp
   rw[e1,e2];simpa[ak] using ih
omit [Inhabited α] in
theorem tq (hk:∀x,(row x).length=k):∀l:List α,(ak row l).flatten.length=l.length * k
 |[]=>by simp[ak]
 |x::l=>by
  have:=tq hk l;simp only[ak,aW,eG,bF,cQ,hk] at this ⊢;rw[this,dQ,Nat.one_mul,Nat.add_comm]
theorem Hz (hk:∀x,(row x).length=k) (l:List α):flatK (vr row) k l.toArray=((ak row l).flatten.map xA).toArray:=by
 refine sw (by rw[size_flatK,mD,mD,bq,tq hk]) λt h1 h2=>?_
 have ht:t < l.length * k:=by rw[size_flatK,mD] at h1;exact h1
 have:=GU hk l t ht;rw[ae (by rw[bq,tq hk];exact ht)] at this;have e1:=get_flatK (vr row) k l.toArray t (by simpa using ht);have e0:(flatK (vr row) k l.toArray)[t]! =(flatK (vr row) k l.toArray)[t]:=getElem!_pos (flatK (vr row) k l.toArray) t h1;have h3:((ak row l).flatten.map xA).toArray[t]=((ak row l).flatten.map xA)[t]'(by simpa using h2):=by rw[List.getElem_toArray]
 have hd:t / k < l.length:=Nat.div_lt_of_lt_mul (by rw[kT];exact ht);rw[h3,af this,←e0,e1];have:l.toArray[t / k]! =l.getD (t / k) default:=by simp[List.getD,hd]
 rw[this]
omit [Inhabited α] in
theorem aaX {w:World} {ok:Nat→Prop} {l:List α} {xs:List Value} (hp:∀x,∀d∈row x,tK d=true) (hk:∀x,(row x).length=k) (hl:xs.length=l.length * k) (h:∀(j:Nat) (d:D) (u:Value),(ak row l).flatten[j]? =some d→xs[j]? =some u→RD w ok d u):xs=(ak row l).flatten.map xA:=by
 refine uy (by rw[bq,tq hk,hl]) λj h1 h2=>?_
 have hj:j < (ak row l).flatten.length:=by rw[bq] at h2;exact h2
 have hd:tK (ak row l).flatten[j]=true:=by
  have hm:=bC hj;obtain⟨r,hr,hm⟩:=uv.1 hm;simp only[ak,aG] at hr;obtain⟨x,_,rfl⟩:=hr;exact hp x _ hm
 rw[lp];exact Rq hd (h j _ _ (ae hj) (ae h1))
omit [Inhabited α] in
theorem aaY {w:World} {ok:Nat→Prop} {l:List α} (hp:∀x,∀d∈row x,tK d=true):∀(j:Nat) (d:D) (u:Value),(ak row l).flatten[j]? =some d→((ak row l).flatten.map xA)[j]? =some u→RD w ok d u:=λj d u h1 h2=>by
 rw[aA,h1] at h2;obtain rfl:=af h2;have hm:=bm h1;obtain⟨r,hr,hm⟩:=uv.1 hm;simp only[ak,aG] at hr;obtain⟨x,_,rfl⟩:=hr;exact Vb (hp x d hm)
theorem SP {w:World} {g:Nat} {cur:Array Value} {xs:List Value} {m:Nat} (hb:w.heap[g]? =some (.cells cur e (0,0))) (hm:m=xs.length) (ht:cur.toList.take m=xs):Holds id w g 0 xs.toArray:=by
 subst hm;intro j hj;have wm:j < xs.length:=by simpa using hj
 refine⟨?_,by simp[World.frozen?,hb]⟩;have h1:(cur.toList.take xs.length)[j]? =xs[j]? :=by rw[ht]
 rw[dR wm] at h1;simp only[World.cell?,hb,gg];simp only[Option.isSome_none,bz,cS];rw[← bo,h1];simp[wm]
theorem VZ {w:World} {g n:Nat} {os:Array Obj} {cur:Array Value} {fr:Nat×Nat} (d:Array Value) (hb:w.heap[g]? =some (.cells cur e fr)):
  (grow (putRow id (Sort.ahead w n) g 0 d) os).heap[g]? =some (.cells (putCells id 0 d cur) e fr):=by
 have hg:g < w.heap.size:=(aL.1 hb).1;rw[heap_grow_old _ _ (by simpa using hg)];simp[putRow,mapBlock,Sort.ahead,dJ,hb,onCells]
theorem Fi {w:World} {g n:Nat} {os:Array Obj} (d:Array Value):w.grownBy (grow (putRow id (Sort.ahead w n) g 0 d) os) (some g):=by
 refine⟨rfl,rfl,rfl,by simp,λk hk iA=>?_⟩;rw[heap_grow_old _ _ (by simpa using hk)];have:g≠k:=λe=>iA (by rw[e])
 simp[putRow,mapBlock,Sort.ahead,dJ,this]
theorem BM (cur:Array Value) (ts:List Value) (h:ts.length≤cur.size):(putCells id 0 ts.toArray cur).toList.take ts.length=ts:=by
 apply eH;intro j;by_cases hj:j < ts.length
 ·rw[dR hj,bo]
  simp[putCells,hj,show j < cur.size by omega]
 ·rw[List.getElem?_take_eq_none (by omega),fy (by omega)]
omit [Inhabited α] in
theorem RU (he:e < 1000000) (hp:∀x,∀d∈row x,tK d=true) (hk:∀x,(row x).length=k) {w:World} {ok:Nat→Prop} {io:List Nat} {iv:List Value} {l:List α} (dN:qP w ok io iv [] [⟨e,k,ak row l⟩]):
  ∃v,io=[]∧iv=[v]∧w.ownsRow 0 e k v l.length ((ak row l).flatten.map xA):=by
 have xg:io=[]:=aI (by simpa using dN.len);obtain⟨v,rfl⟩:∃v,iv=[v]:=List.length_eq_one_iff.1 (by simpa using dN.xj);subst xg;obtain⟨sJ,h3⟩:=dN.X1 0 v _ rfl rfl;obtain⟨xs,h1,h2⟩:=sJ.row (pz he);have h1':w.ownsRow 0 e k v l.length xs:=by simpa[ak] using h1
 have KB:=aaX hp hk h1'.1 h2;subst KB;exact⟨v,rfl,rfl,h1'⟩
theorem Jx (F:List α→List α) (hF:∀l,(F l).length=l.length) (hp:∀x,∀d∈row x,tK d=true) (hk:∀x,(row x).length=k) (more:List AV) (mv:List Value)
  (acs:∀(w:World) (ok:Nat→Prop) (io:List Nat) (iv:List Value) (vs:Array Value),vs.size=1+more.length→(∀(i:Nat) (x:AV) (v:Value),(AV.vec (wa 0)::more)[i]? =some x→vs[i]? =some v→RA w ok (dM io iv) x v)→∃v,vs= #[v]++mv.toArray)
  (l:List α)
  (hC:∀(g cap:Nat) (w:World),(∃ok:Nat→Prop,mB P w ok∧¬ok g∧∀b,ok b→b < w.heap.size)→HoldsK (vr row) k w g 0 l.toArray→g < w.heap.size→
   Calls P f (#[.slice (some ⟨g,0,none⟩) l.length cap]++mv.toArray) w λen w'=>en=.returned (.tuple #[])∧∃n os,w'=grow (putRowK (vr row) k (Sort.ahead w n) g 0 (F l).toArray) os)
  (hN:∀(p:Option Addr) (cap:Nat) (w:World),Calls P f (#[.slice p 0 cap]++mv.toArray) w λen w'=>en=.returned (.tuple #[])∧w'=w) (he:e < 1000000:=by decide):
  FO P f [] [⟨e,k,ak row l⟩] (.vec (wa 0)::more) (.ia []) [] [⟨e,k,ak row (F l)⟩]:=by
 intro w ok io iv vs dN zw eZ xh;obtain⟨v,rfl,rfl,eC⟩:=RU he hp hk dN;obtain⟨v',rfl⟩:=acs w ok [] [v] vs (by simpa[Nat.add_comm] using zw) eZ;have ev:v'=v:=by
  have h0:=eZ 0 _ v' rfl (by simp);cases h0;simp[dM,wa]
 subst ev;have fin:∀w',(∃n os g cap cur,v'=.slice (some ⟨g,0,none⟩) l.length cap∧w.heap[g]? =some (.cells cur e (0,0))∧l.length≤cap∧cap≤maxLen∧cur.size=cap * k∧w'=grow (putRowK (vr row) k (Sort.ahead w n) g 0 (F l).toArray) os)∨(v'.fN=none∧l=[]∧w'=w)→
   ∃u iv',Ending.returned (.tuple #[])=.returned u∧RA w' (Av ok [v'] iv' w w') (dM [] iv') (.ia []) u∧qP w' (Av ok [v'] iv' w w') [] iv' [] [⟨e,k,ak row (F l)⟩]∧(∀u∈iv',∀g,u.fN=some g→w.heap.size≤g∨∃v∈[v'],v.fN=some g)∧T7 [] [v'] w w'∧iv'=[v']:=λw' h=>by
  have iE:w'.ownsRow 0 e k v' (F l).length ((ak row (F l)).flatten.map xA)∧T7 [] [v'] w w':=by
   rcases h with ⟨n,os,g,cap,cur,rfl,hb,h1,h2,h3,rfl⟩ |⟨h0,rfl,rfl⟩
   ·have tW:flatK (vr row) k (F l).toArray=((ak row (F l)).flatten.map xA).toArray:=Hz hk _
    have S4:((ak row (F l)).flatten.map xA).length=l.length * k:=by rw[bq,tq hk,hF]
    unfold putRowK;rw[tW];refine⟨⟨by rw[S4,hF],.inr ⟨g,cap,_,by rw[hF],cE _,VZ _ hb,by rw[hF];exact h1,h2,by simp[putCells,h3],?_⟩⟩,?_⟩
    ·rw[hF,←S4]
     exact BM cur _ (by rw[S4,h3];exact dy k h1)
    ·obtain⟨g1,g2,g3,g4,g5⟩:=Fi (w:=w) (g:=g) (n:=n) (os:=os) ((ak row (F l)).flatten.map xA).toArray
     exact⟨g4,g1,g2,cE _,g3,λb hb _ hv=>g5 b hb λe=>hv (.slice (some ⟨g,0,none⟩) l.length cap) (by simp) e.symm⟩
   ·have:F []=[]:=aI (by rw[hF];rfl)
    rw[this];exact⟨eC,⟨aM _,rfl,rfl,aM _,rfl,λ_ _ _ _=>rfl⟩⟩
  refine⟨_,[v'],rfl,.ia rfl (λi a v h=>by simp at h),⟨rfl,dL,λb hb=>⟨hb.2.1,by simp,hb.2.2⟩,λi b cs h=>by simp at h,rfl,λi u s hu hs=>?_,λi j u u' hu E8 rY=>?_,λ_ _ _ h=>by simp at h⟩,λu hu g hg=>.inr ⟨u,hu,hg⟩,iE.2,rfl⟩
  ·cases i with
   |zero=>
    simp only[aS,ba] at hu hs;subst hu;subst hs;exact⟨.of (pz he) ⟨_,by simpa[ak] using iE.1,aaY hp⟩,λr hr=>by simp[ak] at hr;obtain⟨x,_,rfl⟩:=hr;exact hk x⟩
   |succ i=>simp at hu
  ·cases i with
   |zero=>cases j with
    |zero=>exact absurd rfl rY
    |succ j=>simp at E8
   |succ i=>simp at hu
 rcases eC.2 with ⟨N',h0⟩ |⟨g,cap,cur,N',_,hb,h1,h2,h3,h4⟩ <;> subst N'
 ·have hl:l=[]:=aI h0
  refine qE (hN none 0 w) λen w' ⟨h5,h6⟩=>?_
  subst h5;exact fin w' (.inr ⟨rfl,hl,h6⟩)
 ·have hH:HoldsK (vr row) k w g 0 l.toArray:=by
   unfold HoldsK;rw[Hz hk];exact SP hb (by rw[bq,tq hk]) h4
  refine qE (hC g cap w ⟨ok,xh,λh=>(dN.px g h).2.2 (.slice (some ⟨g,0,none⟩) l.length cap) (by simp) rfl,λb h=>(dN.px b h).1⟩ hH (aL.1 hb).1) λen w' ⟨h5,n,os,h6⟩=>?_
  subst h5;exact fin w' (.inl ⟨n,os,g,cap,cur,rfl,hb,h1,h2,h3,h6⟩)
omit [Inhabited α] in
theorem Tw (hk:∀x,(row x).length=k) (x:α):(vr row x).length=k:=by unfold vr;rw[bq,hk]
omit [Inhabited α] in
theorem Tv (hp:∀x,∀d∈row x,tK d=true) (x:α):∀v∈vr row x,v.oneCell'=true:=λv hv=>by
 unfold vr at hv;obtain⟨d,hd,rfl⟩:=aG.1 hv;exact TA (hp x d hd)
end
theorem NV (g:FuncId) (w:World) (ok:Nat→Prop) (io:List Nat) (iv:List Value) (vs:Array Value) (hs:vs.size=1+[AV.fn g []].length) (h:∀(i:Nat) (x:AV) (v:Value),[AV.vec (wa 0),.fn g []][i]? =some x→vs[i]? =some v→RA w ok (dM io iv) x v):∃v,vs= #[v]++[Value.func (.func g) #[] #[]].toArray:=by
 have h1:vs.size=2:=by simpa using hs
 have h2:=h 1 (.fn g []) vs[1] rfl (bp (by omega));have h3:vs[1]=Value.func (.func g) #[] #[]:=by
  generalize vs[1]=u at h2;cases h2 with
  |fn hl hh=>
   rename_i cs;have:cs= #[]:=jt (by simpa using hl);rw[this]
 refine⟨vs[0],sw (by simp[h1]) λi h4 h5=>?_⟩;have:i=0∨i=1:=by omega
 rcases this with rfl |rfl
 ·simp
 ·simpa using h3
end Go.Vl
namespace Go.Vl
open Go Go.RowKit Go.Sort Go.Proofs Go.Shelf
section
variable {P:Program} {ρ:Ren} {e k g:Nat} {T:Type} {row:T→List D}
theorem MV {w:World} {fN:Nat} {d:Array Value} {m:Nat} {os:Array Obj} (h:∃ok:Nat→Prop,mB P w ok∧¬ok fN∧∀b,ok b→b < w.heap.size):
  ∃ok:Nat→Prop,mB P (grow (putRow id (Sort.ahead w m) fN 0 d) os) ok∧∀b,ok b→b < (grow (putRow id (Sort.ahead w m) fN 0 d) os).heap.size:=by
 obtain⟨ok,h1,h2,h3⟩:=h;obtain⟨_,_,_,g4,g5⟩:=Fi (w:=w) (g:=fN) (n:=m) (os:=os) d;refine⟨ok,λb i x hx=>?_,λb hb=>bu (h3 b hb) g4⟩;obtain⟨k1,k2,k3⟩:=h1 b i x hx;refine⟨k1,?_,?_⟩
 ·rw[← k2]
  exact gF (g5 b (h3 b k1) λe=>h2 (af e▸k1))
 ·rw[← k3]
  exact gF (g5 b (h3 b k1) λe=>h2 (af e▸k1))
def XR (P:Program) (g:Nat) (row:T→List D) (cf:T→T→Int) (x y:T):Prop:=
 ∀W:World,(∃ok:Nat→Prop,mB P W ok∧∀b,ok b→b < W.heap.size)→Calls P g #[.agg ((row x).map xA).toArray,.agg ((row y).map xA).toArray] W λe w'=>e=.returned (.int .i64 (cf x y))∧∃q RR,w'=grow (W.drewN q) RR
theorem Pt {l:List T} (le:T→T→Bool):((l.attach).mergeSort λx y=>le x.1 y.1).map (·.1)=l.mergeSort le:=by
 have h:=List.map_mergeSort (r:=λx y:{x // x∈l}=>le x.1 y.1) (s:=le) (f:=λx:{x // x∈l}=>x.1) (l:=l.attach) (λ_ _ _ _=>rfl);rw[List.attach_map_subtype_val] at h;exact h
theorem OY (L:SlLaysF0.n6 P ρ) (aE:∀w,(isAgg (ρ.t 24)).run P w=.ok true w) (zE:∀w,(Go.sizeOf (ρ.t 24)).run P w=.ok k w) (hp:∀x,∀d∈row x,tK d=true) (hk:∀x,(row x).length=k)
  (cf:T→T→Int) (l:List T) (hO:SWO (ltOf λx y:{x // x∈l}=>cf x.1 y.1)) (hT:∀x∈l,∀y∈l,¬cf x y < 0→¬cf y x < 0→x=y)
  (eg:∀args w,(callFunc g args).run P w=.ok (.enter g args) w) (Zi:∀x∈l,∀y∈l,XR P g row cf x y) (hlen:l.length≤268435456) (he:e < 1000000:=by decide):
  FO P (ρ.f 6) [] [⟨e,k,ak row l⟩] [.vec (wa 0),.fn g []] (.ia []) [] [⟨e,k,ak row (l.mergeSort λx y=>!decide (cf y x < 0))⟩]:=by
 have hN:∀(p:Option Addr) (cap:Nat) (w:World),Calls P (ρ.f 6) (#[.slice p 0 cap]++[Value.func (.func g) #[] #[]].toArray) w λen w'=>en=.returned (.tuple #[])∧w'=w:=λp cap w=>AnyF.slices_SortFunc_none L p cap _ w
 cases hl:l with
 |nil=>
  have:Inhabited Unit:=⟨()⟩;have ab9:∀x:Unit,((λ_:Unit=>List.replicate k (D.bool true)) x).length=k:=λ_=>by simp
  have:=Jx (P:=P) (f:=ρ.f 6) (e:=e) (k:=k) (row:=λ_:Unit=>List.replicate k (D.bool true)) (λl=>l) (λ_=>rfl) (λ_ d hd=>by rw[List.eq_of_mem_replicate hd];rfl) ab9 [.fn g []] [Value.func (.func g) #[] #[]] (NV g) [] (λg' cap w _ hH hb=>by
   refine(hN _ cap w).mono λen w' ⟨h1,h2⟩=>⟨h1,0,#[],?_⟩
   rw[h2,grow_empty];show w=putRow id (Sort.ahead w 0) g' 0 (flatK (vr λ_:Unit=>List.replicate k (D.bool true)) k ([]:List Unit).toArray);have hz:flatK (vr λ_:Unit=>List.replicate k (D.bool true)) k ([]:List Unit).toArray= #[]:=jt (by simp);rw[hz];exact(putRow_self id w g' 0 #[] (λj hj=>by simp at hj)).symm) hN he
  simpa[ak] using this
 |cons x0 l0=>
  rw[← hl];have:Inhabited {x // x∈l}:=⟨⟨x0,by rw[hl];simp⟩⟩;have iE:ak row l=ak (λx:{x // x∈l}=>row x.1) l.attach:=by
   unfold ak;rw[show (λx:{x // x∈l}=>row x.1)=row∘(λx:{x // x∈l}=>x.1) from rfl,←kU,List.attach_map_subtype_val]
  have SK:ak row (l.mergeSort λx y=>!decide (cf y x < 0))=ak (λx:{x // x∈l}=>row x.1) (l.attach.mergeSort λx y=>!(ltOf λx y:{x // x∈l}=>cf x.1 y.1) y x):=by
   have:=Pt (l:=l) (λx y=>!decide (cf y x < 0));unfold ak;rw[show (λx:{x // x∈l}=>row x.1)=row∘(λx:{x // x∈l}=>x.1) from rfl,←kU,←this]
   rfl
  rw[iE,SK];refine Jx (P:=P) (f:=ρ.f 6) (e:=e) (k:=k) (row:=λx:{x // x∈l}=>row x.1) (λm=>m.mergeSort λx y=>!(ltOf λx y:{x // x∈l}=>cf x.1 y.1) y x) (λm=>ui _) (λx=>hp x.1) (λx=>hk x.1) [.fn g []] [Value.func (.func g) #[] #[]] (NV g) l.attach (λg' cap w hG hH hb=>?_) hN he;have gS:l.attach.toArray.size < 4611686018427387904:=by simp;omega
  refine(AnyQ.slices_SortFunc_total L k aE zE (vr λx:{x // x∈l}=>row x.1) (Tw λx=>hk x.1) (Tv λx=>hp x.1) (λx y:{x // x∈l}=>cf x.1 y.1) hO g #[] g' 0 cap l.attach.toArray w eg (λm os dk hs x y=>Zi x.1 x.2 y.1 y.2 _ (MV hG)) hH hb gS (λx y h1 h2=>Subtype.ext (hT x.1 x.2 y.1 y.2 (by simpa[ltOf] using h1) (by simpa[ltOf] using h2)))).mono λen w' ⟨h1,n,os,h2⟩=>⟨h1,n,os,h2⟩
end
end Go.Vl
