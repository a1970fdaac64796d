/- access.Linked: slices.Backward and the search over it. Conditions: none. -/
import Derived.Test.YtbnfogbfphakmaaGreatDoorProg
import Derived.RangeFuncFrom
import Derived.RangeFuncBox
import Derived.RangeFuncNested
import Derived.RangeFuncLeaves
import Derived.Shelf.Abstract
import Derived.WalkKit
import Derived.OwnWalkIn
import Derived.TacticsInMore
import Derived.LoopNIn
import Derived.LoopIn
import Derived.Test.YtbnfogbfphakmaaGreatDoorVmRd
import Derived.Test.YtbnfogbfphakmaaGreatDoorVmZ
import Derived.Test.YtbnfogbfphakmaaGreatDoorVmZh
import Derived.Test.YtbnfogbfphakmaaGreatDoorLs
set_option maxHeartbeats 4000000
set_option linter.unusedSimpArgs false
set_option linter.unusedVariables false
namespace Go.Vl
open Go Go.Proofs Go.RowKit Go.Shelf
attribute [local go_sem] Oper.semAt_some
def acV (x:Ab):Array Value:=#[.int .i64 x.Time,.int .i64 x.Kind,.int .i64 x.Place,.int .i64 x.Principal,.int .i64 x.Until,.int .i64 x.Content,.int .i64 x.From]
def DL (zs:List Ab) (k:Nat):List (Nat×Ab):=(List.range k).map fun j=>(zs.length - 1 - j,zs.getD (zs.length - 1 - j) default)
theorem Jo (zs:List Ab) (k:Nat):DL zs (k+1)=DL zs k++[(zs.length - 1 - k,zs.getD (zs.length - 1 - k) default)]:=by simp[DL,List.range_succ]
theorem Lb (zs:List Ab) (k:Nat):(DL zs k).length=k:=by simp[DL]
set_option maxRecDepth 100000 in
theorem SQ (F:Fence) (n:Nat) (h7:F.fn 151) (hro:F.round=none) (hn:1≤n) (l Bs n₀ b off cap:Nat) (zs:List Ab) (hreach:zs.length≤1000000) (J Jx:List (Nat×Ab)→World→Prop)
  (hY:∀pre x W,J pre W→pre.length < zs.length→YieldAt F (n - 1) Tryz.prog l #[.int .i64 (x.1:Int),.agg (acV x.2)] W fun e W'=>
   (e=.returned (.bool true)∧J (pre++[x]) W'∧Below n₀ W W')∨(e=.returned (.bool false)∧Jx (pre++[x]) W'))
  (W:World) (ad:Option Addr) (hBs:W.cell? ⟨Bs,0,none⟩=some (.slice ad zs.length cap)) (hBl:Bs < n₀) (had:0 < zs.length→ad=some ⟨b,off,none⟩∧b < n₀) (hc:∀j,j < zs.length→∀i,i < 7→W.cell? ⟨b,off+j * 7+i,none⟩=some ((acV (zs.getD j default)).getD i undef)) (h0:J [] W):
  CallsIn F n Tryz.prog 151 #[.func (.yield l) #[] #[],.pointer (some ⟨Bs,0,none⟩)] W fun e W'=>(∃v,e=.returned v)∧
   ((∃ys,ys=DL zs zs.length∧J ys W')∨(∃pre,(∃k,k≤zs.length∧pre=DL zs k)∧Jx pre W')):=by
 refine callsIn_of_wp Tryz.func151 rfl h7 ?_ hro
 simp only[Tryz.ntmps151,List.size_toArray,List.length_cons,List.length_nil,Nat.reduceAdd,Nat.reduceSub,Array.replicate_succ,Array.replicate_zero,List.push_toArray,List.append_toArray,List.nil_append,List.cons_append]
 gi_wp2
 gi_loopw [3] (fun i wr=>∃k:Nat,k≤zs.length∧i=.int .i64 ((zs.length:Int) - 1 - k)∧J (DL zs k) wr∧Below n₀ W wr)
  (fun i _=>((intOf i)+1).toNat)
 case atStart=>exact⟨0,Nat.zero_le _,by simp,h0,Below.refl _ _⟩
 case round=>
  obtain⟨k,hk,rfl,hJs,hnx⟩:=hrel
  by_cases hlt:k < zs.length
  ·obtain⟨rfl,hb⟩:=had (by omega)
   obtain⟨fn,tmps,assign,body,hy,hR⟩:=hY _ (zs.length - 1 - k,zs.getD (zs.length - 1 - k) default) wr hJs (by rw[Lb];exact hlt)
   dsimp only at hy
   rw[show (((zs.length - 1 - k:Nat)):Int)=(zs.length:Int) - 1 - k by omega] at hy
   have hBs':wr.cell? ⟨Bs,0,none⟩=some (.slice (some ⟨b,off,none⟩) zs.length cap):=(hnx.cell (p:=⟨Bs,0,none⟩) hBl).trans hBs
   have hge:(0:Int)≤(zs.length:Int) - 1 - k:=by omega
   have hcw:∀i,i < 7→wr.cell? ⟨b,off+(zs.length - 1 - k) * 7+i,none⟩=some ((acV (zs.getD (zs.length - 1 - k) default)).getD i undef):=fun i hi=>(hnx.cell (p:=⟨b,_,none⟩) hb).trans (hc _ (by omega) i hi)
   obtain⟨z,hz⟩:∃z,zs.getD (zs.length - 1 - k) default=z:=⟨_,rfl⟩
   rw[hz] at hcw hy hR
   have hc0:wr.cell? ⟨b,off+(zs.length - 1 - k) * 7,none⟩=some (.int .i64 z.Time):=hcw 0 (by decide)
   have hc1:wr.cell? ⟨b,off+(zs.length - 1 - k) * 7+1,none⟩=some (.int .i64 z.Kind):=hcw 1 (by decide)
   have hc2:wr.cell? ⟨b,off+(zs.length - 1 - k) * 7+2,none⟩=some (.int .i64 z.Place):=hcw 2 (by decide)
   have hc3:wr.cell? ⟨b,off+(zs.length - 1 - k) * 7+3,none⟩=some (.int .i64 z.Principal):=hcw 3 (by decide)
   have hc4:wr.cell? ⟨b,off+(zs.length - 1 - k) * 7+4,none⟩=some (.int .i64 z.Until):=hcw 4 (by decide)
   have hc5:wr.cell? ⟨b,off+(zs.length - 1 - k) * 7+5,none⟩=some (.int .i64 z.Content):=hcw 5 (by decide)
   have hc6:wr.cell? ⟨b,off+(zs.length - 1 - k) * 7+6,none⟩=some (.int .i64 z.From):=hcw 6 (by decide)
   clear hcw
   unfold acV at hy
   gi_wp2
   refine hR.mono ?_
   rintro e W3 (⟨rfl,hJ3,hk3⟩ |⟨rfl,hJx3⟩)
   ·gi_wp2
    go_roundw
    case rel=>exact⟨k+1,by omega,by simp;omega,by rw[Jo,hz];exact hJ3,hnx.trans hk3⟩
    case measure=>simp[intOf];omega
   ·gi_wp2
    refine bodyPost_ret (results_none rfl _ _ _) rfl ?_
    exact⟨⟨_,rfl⟩,.inr ⟨_,⟨k+1,by omega,by rw[Jo,hz]⟩,hJx3⟩⟩
  ·obtain rfl:k=zs.length:=by omega
   gi_wp2
   go_end0
   exact⟨⟨_,rfl⟩,.inl ⟨_,rfl,hJs⟩⟩
theorem Mk (F:Fence) (n:Nat) (h5:F.fn 121) (hro:F.round=none) (a:Option Addr) (len cap:Nat) (w:World):
  CallsIn F n Tryz.prog 121 #[.slice a len cap] w fun e w'=>e=.returned (.func (.func 151) #[] #[.pointer (some ⟨w.heap.size,0,none⟩)])∧w'=w.alloc (.cells #[.slice a len cap] 31):=by
 refine callsIn_of_wp Tryz.func121 rfl h5 ?_ hro
 simp only[Tryz.ntmps121,List.size_toArray,List.length_cons,List.length_nil,Nat.reduceAdd,Nat.reduceSub,Array.replicate_succ,Array.replicate_zero,List.push_toArray,List.append_toArray,List.nil_append,List.cons_append]
 gi_wp2
 go_ret
 exact⟨rfl,rfl⟩
theorem Nt (F:Fence) (n:Nat) (h7:F.fn 151) (hro:F.round=none) (hn:1≤n) (Bs n₀ b off cap:Nat) (zs:List Ab) (hreach:zs.length≤1000000) (w:World) (ad:Option Addr) (hBs:Bs < w.heap.size) (hBl:Bs < n₀) (hn₀:n₀≤w.heap.size)
  (hc:w.cell? ⟨Bs,0,none⟩=some (.slice ad zs.length cap)) (had:0 < zs.length→ad=some ⟨b,off,none⟩∧b < n₀) (hcs:∀j,j < zs.length→∀i,i < 7→w.cell? ⟨b,off+j * 7+i,none⟩=some ((acV (zs.getD j default)).getD i undef)):
  SeqStopsK F n Tryz.prog 151 #[.pointer (some ⟨Bs,0,none⟩)] (fun x:Nat×Ab=>#[Value.int .i64 (x.1:Int),.agg (acV x.2)]) (Below n₀) (fun ys=>ys=DL zs zs.length) (fun pre=>∃k,k≤zs.length∧pre=DL zs k) zs.length w:=fun l J Jx W hW _ _ hY h0=>
 SQ F n h7 hro hn l Bs n₀ b off cap zs hreach J Jx hY W ad ((hW.cell (p:=⟨Bs,0,none⟩) hBs).trans hc) hBl had (fun j hj i hi=>(hW.cell (p:=⟨b,_,none⟩) (Nat.lt_of_lt_of_le (had (by omega)).2 hn₀)).trans (hcs j hj i hi)) h0
theorem CX {X Y:World} {row:Option Nat} {Bq B:Nat} {cs:Array Value} {t:TypeId} {fz:Nat×Nat} (h:X.heap[B]? =some (.cells cs t fz)) (hg:X.grownBy Y row) (hr:∀r,row=some r→Bq≤r∧∃o:Obj,X.heap[r]? =some o∧o.isCells=false):Y.heap[B]? =some (.cells cs t fz):=
 (hg.block B (Array.getElem?_eq_some_iff.1 h).1 (fun e=>by obtain⟨_,o,ho,hc⟩:=hr B e.symm;rw[h] at ho;cases ho;cases hc)).trans h
def Ei (place t:Int) (x:Nat×Ab):Option (Int×Bool):=
 if(decide (t < x.2.Time)||x.2.Place != place)=true then none else if(x.2.Kind==4)=true then some (0,false) else if(x.2.Kind==3&&decide (t < x.2.Until))=true then some ((x.1:Int),true) else none
noncomputable def access_LinkedK (y:Bool) (a0:AJ) (a1:Int) (a2:Int):Option (Int×Bool):=
 if(!y)=true then some (0,false) else(ck (a0.Events.length≤1000000)).bind fun _=>some (((DL a0.Events a0.Events.length).findSome? (Ei a1 a2)).getD (0,false))
theorem Nu {w:World} {ok:Nat→Prop} {k:IntKind} {n:Int} {v:Value} (h:RD w ok (.int k n) v):v=.int k n:=by cases h;rfl
theorem SR {w:World} {ok:Nat→Prop} {zs:List Ab} {v:Value} (h:RD w ok (.slice (AB AK zs)) v):∃ad cap b off,v=.slice ad zs.length cap∧(0 < zs.length→ad=some ⟨b,off,none⟩∧ok b)∧∀j,j < zs.length→∀i,i < 7→w.cell? ⟨b,off+j * 7+i,none⟩=some ((acV (zs.getD j default)).getD i undef):=by
 generalize hr:AB AK zs=rows at h
 cases h with
 |snil=>
  have:zs=[]:=by cases zs with |nil=>rfl |cons x l=>simp[AB] at hr
  subst this
  exact⟨_,_,0,0,rfl,fun h=>absurd h (by simp),fun j hj=>absurd hj (by simp)⟩
 |slice z vs hz hok hc hcell hrd=>
  rename_i a c
  subst hr
  have hl:(AB AK zs).length=zs.length:=by simp[AB]
  rw[hl] at hc ⊢
  have hfl:(AB AK zs).flatten.length=zs.length * 7:=by
   rw[A4 (z:=7) (fun r hr=>by unfold AB at hr;obtain⟨x,_,rfl⟩:=List.mem_map.1 hr;rfl),hl]
  rw[hfl] at hcell
  have hget:∀j,j < zs.length→∀i,i < 7→(AB AK zs).flatten[j * 7+i]? =(AK (zs.getD j default))[i]? :=fun j hj i hi=>by
   have:∀(l:List Ab) (j:Nat),j < l.length→(AB AK l).flatten[j * 7+i]? =(AK (l.getD j default))[i]? :=by
    intro l
    induction l with
    |nil=>intro j hj;simp at hj
    |cons x l ih=>
     intro j hj
     have hx:AB AK (x::l)=AK x::AB AK l:=rfl
     rw[hx,List.flatten_cons]
     cases j with
     |zero=>
      rw[List.getElem?_append_left (by simp;omega),Nat.zero_mul,Nat.zero_add]
      simp
     |succ j=>
      rw[List.getElem?_append_right (by simp;omega)]
      have e:(j+1) * 7+i - (AK x).length=j * 7+i:=by simp;omega
      rw[e,ih j (by simpa using hj)]
      simp
   exact this zs j hj
  by_cases h0:0 < zs.length
  ·have h1:=hcell 0 (by omega)
   have hsp:a.spot=none:=by
    rw[show a.add 0=a from rfl] at h1
    unfold World.cell? at h1
    split at h1
    ·split at h1
     ·cases h1
     ·rename_i hh;simpa using hh
    ·cases h1
   obtain⟨b,off,sp⟩:=a
   dsimp only at hsp
   subst hsp
   refine⟨_,c,b,off,rfl,fun _=>⟨rfl,hok⟩,fun j hj i hi=>?_⟩
   have h2:=hcell (j * 7+i) (by omega)
   rw[Addr.add_lit] at h2
   rw[Nat.add_assoc,h2]
   have h3:=hget j hj i hi
   generalize zs.getD j default=x at h3 ⊢
   match i,hi with
   |0,_=>exact congrArg some (Nu (hrd _ _ h3))
   |1,_=>exact congrArg some (Nu (hrd _ _ h3))
   |2,_=>exact congrArg some (Nu (hrd _ _ h3))
   |3,_=>exact congrArg some (Nu (hrd _ _ h3))
   |4,_=>exact congrArg some (Nu (hrd _ _ h3))
   |5,_=>exact congrArg some (Nu (hrd _ _ h3))
   |6,_=>exact congrArg some (Nu (hrd _ _ h3))
   |i+7,h=>omega
  ·exact⟨some a,c,0,0,rfl,fun h=>absurd h h0,fun j hj=>by omega⟩
theorem al5 (w:World) (o1 o2 o3 o4 o5:Obj):(((((w.alloc o1).alloc o2).alloc o3).alloc o4).alloc o5).heap[w.heap.size]? =some o1∧(((((w.alloc o1).alloc o2).alloc o3).alloc o4).alloc o5).heap[w.heap.size+1]? =some o2∧(((((w.alloc o1).alloc o2).alloc o3).alloc o4).alloc o5).heap[w.heap.size+1+1]? =some o3∧(((((w.alloc o1).alloc o2).alloc o3).alloc o4).alloc o5).heap[w.heap.size+1+1+1]? =some o4∧(((((w.alloc o1).alloc o2).alloc o3).alloc o4).alloc o5).heap[w.heap.size+1+1+1+1]? =some o5:=by
 have n1:=heap_alloc_new w o1
 have n2:=heap_alloc_new (w.alloc o1) o2
 have n3:=heap_alloc_new ((w.alloc o1).alloc o2) o3
 have n4:=heap_alloc_new (((w.alloc o1).alloc o2).alloc o3) o4
 have n5:=heap_alloc_new ((((w.alloc o1).alloc o2).alloc o3).alloc o4) o5
 simp only[World.size_alloc] at n2 n3 n4 n5
 have g:∀(W:World) (o:Obj) (k:Nat),k < W.heap.size→(W.alloc o).heap[k]? =W.heap[k]? :=fun W o k h=>heap_alloc_old W o k h
 refine⟨?_,?_,?_,?_,n5⟩
 ·rw[g _ _ _ (by simp only[World.size_alloc];omega),g _ _ _ (by simp only[World.size_alloc];omega),g _ _ _ (by simp only[World.size_alloc];omega),g _ _ _ (by simp only[World.size_alloc];omega)];exact n1
 ·rw[g _ _ _ (by simp only[World.size_alloc];omega),g _ _ _ (by simp only[World.size_alloc];omega),g _ _ _ (by simp only[World.size_alloc];omega)];exact n2
 ·rw[g _ _ _ (by simp only[World.size_alloc];omega),g _ _ _ (by simp only[World.size_alloc];omega)];exact n3
 ·rw[g _ _ _ (by simp only[World.size_alloc];omega)];exact n4
set_option maxRecDepth 100000 in
theorem Pr {a0:AJ} {a1 a2:Int} {y:Bool} {r:Int×Bool} (hkn:Ac Tryz.prog 120 [] [.agg (AX a0),.d (.int .i64 a1)] (.d (.bool y)) []) (h0:access_LinkedK y a0 a1 a2=some r):
  Ac Tryz.prog 67 [] [.agg (AX a0),.d (.int .i64 a1),.d (.int .i64 a2)] (.tup [.d (.int .i64 r.1),.d (.bool r.2)]) []:=by
 intro w ok io iv vs hpre hvs hargs hgl
 obtain rfl:io=[]:=List.eq_nil_of_length_eq_zero hpre.len
 obtain rfl:iv=[]:=List.eq_nil_of_length_eq_zero hpre.lenv
 obtain⟨v0,v1,v2,rfl⟩:∃v0 v1 v2,vs= #[v0,v1,v2]:=by
  obtain⟨l⟩:=vs
  match l,hvs with
  |[v0,v1,v2],_=>exact⟨v0,v1,v2,rfl⟩
 have g0:=hargs 0 _ v0 rfl rfl
 have g1:=hargs 1 _ v1 rfl rfl
 have g2:=hargs 2 _ v2 rfl rfl
 clear hargs hvs
 cases g1 with |d g1=>
 cases g1
 cases g2 with |d g2=>
 cases g2
 cases g0 with |agg hl hc h1=>
 rename_i cs
 obtain⟨u0,sl,rfl⟩:∃u0 sl,cs= #[u0,sl]:=by
  obtain⟨l⟩:=cs
  match l,hl with
  |[u0,sl],_=>exact⟨u0,sl,rfl⟩
 have hu0:=hc 0 _ u0 rfl rfl
 cases hu0 with |d hu0=>
 cases hu0
 have hsl:=hc 1 _ sl rfl rfl
 cases hsl with |d hsl=>
 clear hc h1 hl
 obtain⟨ad,cap,b,off,rfl,had,hcs⟩:=SR hsl
 have hRD:=hsl
 clear hsl
 have hkr:=fun (W:World) (hB:Below w.heap.size w W)=>hkn.run W #[.agg #[.int .i64 a0.Places,.slice ad a0.Events.length cap],.int .i64 a1] rfl (by
  have hB':=hB
  intro i x v hx hv
  match i with
  |0=>
   simp at hx hv
   subst hx;subst hv
   refine .agg rfl (fun i x v hx hv=>?_) (fun i v hv=>?_)
   ·match i with
    |0=>simp at hx hv;subst hx;subst hv;exact .d .int
    |1=>simp at hx hv;subst hx;subst hv;exact .d (hRD.mono (fun p hp=>Aq (hB.block _ (hpre.okb _ hp).1)) fun b hb=>Nat.lt_of_lt_of_le (hpre.okb _ hb).1 hB.size)
    |i+2=>simp at hx
   ·match i with
    |0=>simp at hv;subst hv;rfl
    |1=>simp at hv;subst hv;rfl
    |i+2=>simp at hv
  |1=>simp at hx hv;subst hx;subst hv;exact .d .int
  |i+2=>simp at hx) (hgl.grown (fun k hk=>(hpre.okb k hk).1) hB.size fun k hk=>hB.block k hk)
 refine callsIn_wide (n:=5).1 ?_
 have hkr:=fun (n:Nat) (W:World) (hB:Below w.heap.size w W)=>(callsIn_wide (n:=n)).2 (hkr W hB)
 have hfn:∀f,Fence.wide.fn f:=fun f=>trivial
 have hro:Fence.wide.round=none:=rfl
 generalize Fence.wide=F at hkr hfn hro ⊢
 have h67:=hfn 67
 have h120:=hfn 120
 have h121:=hfn 121
 have h151:=hfn 151
 clear hfn
 refine callsIn_of_wp_marks Tryz.func67 rfl h67 ?_ hro
 simp only[Tryz.ntmps67,List.size_toArray,List.length_cons,List.length_nil,Nat.reduceAdd,Nat.reduceSub,Array.replicate_succ,Array.replicate_zero,List.push_toArray,List.append_toArray,List.nil_append,List.cons_append]
 have hB5:∀o1 o2 o3 o4 o5:Obj,Below w.heap.size w (((((w.alloc o1).alloc o2).alloc o3).alloc o4).alloc o5):=fun o1 o2 o3 o4 o5=>(((((Below.refl _ w).alloc (Nat.le_refl _) _).alloc (by simp) _).alloc (by simp;omega) _).alloc (by simp;omega) _).alloc (by simp;omega) _
 have fin:∀W':World,Below w.heap.size w W'→∃v iv',Ending.returned (.tuple #[.int .i64 r.1,.bool r.2])=.returned v∧RA W' (okn ok [] iv' w W') (Ag [] iv') (.tup [.d (.int .i64 r.1),.d (.bool r.2)]) v∧EG W' (okn ok [] iv' w W') [] iv' [] []∧(∀u∈iv',∀g,u.blk=some g→w.heap.size≤g∨∃v,v∈([]:List Value)∧v.blk=some g)∧Frm [] [] w W':=fun W' hB=>by
  refine⟨_,[],rfl,.tup rfl (fun i x v hx hv=>?_),⟨rfl,List.nodup_nil,fun b hb=>⟨hb.2.1,by simp,by simp⟩,fun i b cs h=>by simp at h,rfl,fun i b cs h=>by simp at h,fun i j v u h=>by simp at h,fun v h=>by simp at h⟩,fun u hu=>by simp at hu,⟨hB.size,hB.os,hB.tape,Nat.le_refl _,hB.output,fun b hb _ _=>hB.block b hb⟩⟩
  match i with
  |0=>simp at hx hv;subst hx;subst hv;exact .d .int
  |1=>simp at hx hv;subst hx;subst hv;exact .d .bool
  |i+2=>simp at hx
 generalize hR:(fun e w'=>∃v iv',e=Ending.returned v∧RA w' (okn ok [] iv' w w') (Ag [] iv') (.tup [.d (.int .i64 r.1),.d (.bool r.2)]) v∧EG w' (okn ok [] iv' w w') [] iv' [] []∧(∀u∈iv',∀g,u.blk=some g→w.heap.size≤g∨∃v,v∈([]:List Value)∧v.blk=some g)∧Frm [] [] w w')=R
 replace fin:∀W':World,Below w.heap.size w W'→R (.returned (.tuple #[.int .i64 r.1,.bool r.2])) W':=fun W' h=>by rw[← hR];exact fin W' h
 have hok:=fun b hb=>(hpre.okb b hb).1
 clear hR hkn hgl hpre hRD
 gi_wp2_with (first
  |(gi_at_call 120;refine(hkr _ _ (hB5 _ _ _ _ _)).mono ?_;rintro e w1 ⟨v,rfl,hv,hB2⟩;obtain rfl:v=.bool y:=(by cases hv with |d h=>cases h;rfl)
    clear hv
    have hB1:Below w.heap.size w w1:=(hB5 _ _ _ _ _).trans (hB2.mono (by simp;omega))
    obtain⟨b3,b4,b5,b6,b7⟩:w1.heap[w.heap.size]? =some (.cells #[.int .i64 a0.Places,.slice ad a0.Events.length cap] 33 (0,0))∧Boxed w1 (w.heap.size+1) 3 (.int .i64 a1)∧Boxed w1 (w.heap.size+1+1) 3 (.int .i64 a2)∧Boxed w1 (w.heap.size+1+1+1) 3 (.int .i64 0)∧Boxed w1 (w.heap.size+1+1+1+1) 4 (.bool false):=by
     obtain⟨q1,q2,q3,q4,q5⟩:=al5 w (.cells #[.int .i64 a0.Places,.slice ad a0.Events.length cap] 33) (.cells #[.int .i64 a1] 3) (.cells #[.int .i64 a2] 3) (.cells #[.int .i64 0] 3) (.cells #[.bool false] 4)
     exact⟨(hB2.block _ (by simp only[World.size_alloc];omega)).trans q1,(hB2.block _ (by simp only[World.size_alloc];omega)).trans q2,(hB2.block _ (by simp only[World.size_alloc];omega)).trans q3,(hB2.block _ (by simp only[World.size_alloc];omega)).trans q4,(hB2.block _ (by simp only[World.size_alloc];omega)).trans q5⟩
    clear hB2
    have hsz:w.heap.size+1+1+1+1+1≤w1.heap.size:=b7.lt
    have c30:w1.cell? ⟨w.heap.size,0,none⟩=some (.int .i64 a0.Places):=by simp[World.cell?,b3]
    have c31:w1.cell? ⟨w.heap.size,1,none⟩=some (.slice ad a0.Events.length cap):=by simp[World.cell?,b3]
    have c4:=b4.cell;have c5:=b5.cell;have c6:=b6.cell;have c7:=b7.cell;have f6:=b6.frozen;have f7:=b7.frozen)
  |(gi_at_call 121;refine(Mk F _ h121 hro _ _ _ _).mono ?_;rintro e w2 ⟨rfl,rfl⟩)
  |fail)
 ·rename_i h
  have hr:r=(0,false):=by
   unfold access_LinkedK at h0
   rw[if_pos (by simpa using h)] at h0
   exact(Option.some.inj h0).symm
  subst hr
  refine⟨_,?_,fin _ ((hB1.setCell (p:=⟨w.heap.size+1+1+1,0,none⟩) (by simp;omega) _).setCell (p:=⟨w.heap.size+1+1+1+1,0,none⟩) (by simp;omega) _)⟩
  simp[results,Tryz.f67,go_sem,c6,c7]
 ·have hy:y=true:=by
   simpa using ‹(!y)=false›
  subst hy
  unfold access_LinkedK at h0
  rw[if_neg (by simp)] at h0
  obtain⟨_,hck,h0⟩:=bnd h0
  have hlen:=AZ hck
  have h0:=Option.some.inj h0
  have hw2:(w1.alloc (.cells #[.slice ad a0.Events.length cap] 31)).heap.size=w1.heap.size+1:=World.size_alloc _ _
  have hBb:(w1.alloc (.cells #[.slice ad a0.Events.length cap] 31)).cell? ⟨w1.heap.size,0,none⟩=some (.slice ad a0.Events.length cap):=(Boxed.new w1 31 _).cell
  have hB2:Below w.heap.size w (w1.alloc (.cells #[.slice ad a0.Events.length cap] 31)):=hB1.trans ((Below.refl _ w1).alloc (by omega) _)
  have d4:=b4.alloc (.cells #[.slice ad a0.Events.length cap] 31)
  have d5:=b5.alloc (.cells #[.slice ad a0.Events.length cap] 31)
  have d6:=b6.alloc (.cells #[.slice ad a0.Events.length cap] 31)
  have d7:=b7.alloc (.cells #[.slice ad a0.Events.length cap] 31)
  generalize w1.alloc (.cells #[.slice ad a0.Events.length cap] 31)=w2 at hw2 hBb hB2 d4 d5 d6 d7 ⊢
  clear b3 b4 b5 b6 b7 c30 c31 c4 c5 c6 c7 f6 f7 hkr hB5 hck
  obtain⟨I,hI⟩:∃I:List (Nat×Ab)→World→Prop,I=fun pre W=>((∀x∈pre,Ei a1 a2 x=none)∧Boxed W (w.heap.size+1) 3 (.int .i64 a1)∧Boxed W (w.heap.size+1+1) 3 (.int .i64 a2)∧Boxed W (w.heap.size+1+1+1) 3 (.int .i64 0)∧Boxed W (w.heap.size+1+1+1+1) 4 (.bool false))∧Below w.heap.size w W∧w2.heap.size≤W.heap.size:=⟨_,rfl⟩
  obtain⟨Ix,hIx⟩:∃Ix:Code→List (Nat×Ab)→World→Prop,Ix=fun c pre W=>(c=.ret∧∃pre' x q,pre=pre'++[x]∧(∀x∈pre',Ei a1 a2 x=none)∧Ei a1 a2 x=some q∧Boxed W (w.heap.size+1+1+1) 3 (.int .i64 q.1)∧Boxed W (w.heap.size+1+1+1+1) 4 (.bool q.2))∧Below w.heap.size w W:=⟨_,rfl⟩
  refine wpIn_rangeFunc_ownH hro (by decide) (gf:=151) (lb:=#[.pointer (some ⟨w1.heap.size,0,none⟩)]) rfl h151 (enters_of Tryz.func151 (by kernel_rfl) rfl)
   (Nt F _ h151 hro (by omega) w1.heap.size (w1.heap.size+1) b off cap a0.Events hlen w2 ad (by omega) (by omega) (by omega) hBb (fun h=>⟨(had h).1,by have:=hok b (had h).2;omega⟩) fun j hj i hi=>(hB2.cell (p:=⟨b,_,none⟩) (hok b (had (by omega)).2)).trans (hcs j hj i hi))
   belowK_t (belowK_b (by omega)) (Below.refl _ _) (fun _=>rfl)
   I Ix
   ?oI ?oIx ?st
   (fun x a' W=>∃b9,a'={ tmps:=#[.agg #[.int .i64 a0.Places,.slice ad a0.Events.length cap],.int .i64 a1,.int .i64 a2,.pointer (some ⟨w.heap.size,0,none⟩),.pointer (some ⟨w.heap.size+1,0,none⟩),.pointer (some ⟨w.heap.size+1+1,0,none⟩),.pointer (some ⟨w.heap.size+1+1+1,0,none⟩),.pointer (some ⟨w.heap.size+1+1+1+1,0,none⟩),.int .i64 (x.1:Int),.pointer (some ⟨b9,0,none⟩),.agg #[.int .i64 a0.Places,.slice ad a0.Events.length cap],.int .i64 a1,.bool true,.bool false,.pointer (some ⟨w.heap.size,1,none⟩),.slice ad a0.Events.length cap,.func (.func 151) #[] #[.pointer (some ⟨w1.heap.size,0,none⟩)],.int .i64 (x.1:Int),.agg (acV x.2),undef,undef,undef,undef,undef,undef,undef,undef,undef,undef,undef,undef,undef,undef,undef,undef,undef,undef,undef,undef,undef,undef,undef,undef,undef,undef],defers:=[]}∧W.heap[b9]? =some (.cells (acV x.2) 83 (0,0)))
   ?oA ?assign ?body ?done ?stop
  case oI=>
   rw[hI]
   intro pre X Y row hs hg hr
   obtain⟨⟨hp,e4,e5,e6,e7⟩,hB,hsz⟩:=hs
   exact⟨⟨hp,CX e4 hg hr,CX e5 hg hr,CX e6 hg hr,CX e7 hg hr⟩,ownFrom_below (β:=Unit) (n₀:=w.heap.size) (B:=w2.heap.size) (w₀:=w) (Nat.le_refl _) hB2.size () X Y row hB hg hr,Nat.le_trans hsz hg.size⟩
  case oIx=>
   rw[hIx]
   intro c pre X Y row hs hg hr
   obtain⟨⟨rfl,pre',x,q,rfl,hp',hx,e6,e7⟩,hB⟩:=hs
   exact⟨⟨rfl,pre',x,q,rfl,hp',hx,CX e6 hg hr,CX e7 hg hr⟩,ownFrom_below (β:=Unit) (n₀:=w.heap.size) (B:=w2.heap.size) (w₀:=w) (Nat.le_refl _) hB2.size () X Y row hB hg hr⟩
  case st=>rw[hI];exact⟨⟨by simp,d4,d5,d6,d7⟩,hB2,Nat.le_refl _⟩
  case oA=>
   rintro x a' _ X Y row ⟨b9,rfl,h9⟩ hg hr
   exact⟨b9,rfl,CX h9 hg hr⟩
  case assign=>
   intro l pre x W K hI0 hK
   have hst:=run_storeCells_at Tryz.prog W.heap.size 0 83 (acV x.2).toList 0 #[.int .i64 0,.int .i64 0,.int .i64 0,.int .i64 0,.int .i64 0,.int .i64 0,.int .i64 0] (W.alloc (.cells #[.int .i64 0,.int .i64 0,.int .i64 0,.int .i64 0,.int .i64 0,.int .i64 0,.int .i64 0] 83)) (heap_alloc_new W _) (by simp[acV]) (by simp[acV,Value.oneCell'])
   have he:((#[.int .i64 0,.int .i64 0,.int .i64 0,.int .i64 0,.int .i64 0,.int .i64 0,.int .i64 0]:Array Value).toList.take (0+0)++(acV x.2).toList++(#[.int .i64 0,.int .i64 0,.int .i64 0,.int .i64 0,.int .i64 0,.int .i64 0,.int .i64 0]:Array Value).toList.drop (0+0+(acV x.2).toList.length)).toArray=acV x.2:=by simp[acV]
   rw[he] at hst
   obtain⟨W4,hW4,h9,hg4,_⟩:=Pp W #[.int .i64 0,.int .i64 0,.int .i64 0,.int .i64 0,.int .i64 0,.int .i64 0,.int .i64 0] (acV x.2) 83
   rw[hW4] at hst
   have hk:=hK
   clear hK
   rw[hI] at hI0
   obtain⟨⟨hp,e4,e5,e6,e7⟩,hB,hs⟩:=hI0
   gi_wp2
   refine hk _ _ (KeepsFrom.of_grownBy hg4 (fun j hj=>by cases hj)) ((Below.refl _ W).grown hg4 (by omega) (fun k hk=>by cases hk)) ?_ ⟨_,rfl,h9⟩
   rw[hI]
   exact⟨⟨hp,e4.kept hg4 (by simp),e5.kept hg4 (by simp),e6.kept hg4 (by simp),e7.kept hg4 (by simp)⟩,hB.grown hg4 (by have:=hB.size;omega) (fun k hk=>by cases hk),Nat.le_trans hs hg4.size⟩
  case body=>
   intro l pre x a' W hl _ hI0 hA _
   obtain⟨b9,rfl,h9⟩:=hA
   rw[hI] at hI0
   obtain⟨⟨hp,e4,e5,e6,e7⟩,hB,hs⟩:=hI0
   have c4:=e4.cell;have c5:=e5.cell;have c6:=e6.cell;have c7:=e7.cell;have f6:=e6.frozen;have f7:=e7.frozen
   have k0:W.cell? ⟨b9,0,none⟩=some (.int .i64 x.2.Time):=by simp[World.cell?,h9,acV]
   have k1:W.cell? ⟨b9,1,none⟩=some (.int .i64 x.2.Kind):=by simp[World.cell?,h9,acV]
   have k2:W.cell? ⟨b9,2,none⟩=some (.int .i64 x.2.Place):=by simp[World.cell?,h9,acV]
   have k4:W.cell? ⟨b9,4,none⟩=some (.int .i64 x.2.Until):=by simp[World.cell?,h9,acV]
   have hN:Ei a1 a2 x=none→∀a',ownPostG w2.heap.size (Below (w1.heap.size+1)) I Ix (pre++[x]) W .normal a' W:=fun h a'=>⟨KeepsFrom.refl _ _,Below.refl _ _,by
    rw[hI]
    exact⟨⟨fun z hz=>(List.mem_append.1 hz).elim (hp z) (fun e=>by simp at e;subst e;exact h),e4,e5,e6,e7⟩,hB,hs⟩⟩
   have hT:∀q:Int×Bool,Ei a1 a2 x=some q→∀a',ownPostG w2.heap.size (Below (w1.heap.size+1)) I Ix (pre++[x]) W .ret a' ((W.setCell ⟨w.heap.size+1+1+1,0,none⟩ (.int .i64 q.1)).setCell ⟨w.heap.size+1+1+1+1,0,none⟩ (.bool q.2)):=fun q h a'=>⟨((KeepsOthers.setCell W ⟨w.heap.size+1+1+1,0,none⟩ (.int .i64 q.1)).trans (KeepsOthers.setCell _ ⟨w.heap.size+1+1+1+1,0,none⟩ (.bool q.2))).from _,by
    rw[hIx]
    exact⟨⟨rfl,pre,x,q,rfl,hp,h,(e6.set (.int .i64 q.1)).other (by omega) _,(e7.other (by omega) _).set _⟩,(hB.setCell (p:=⟨w.heap.size+1+1+1,0,none⟩) (by simp;omega) _).setCell (p:=⟨w.heap.size+1+1+1+1,0,none⟩) (by simp;omega) _⟩⟩
   clear hI hIx e4 e5 e6 e7 hp h9 hw2
   gi_wp2
   all_goals first
    |exact hN (by clear hN hT;unfold Ei;simp_all) _
    |exact hT (0,false) (by clear hN hT;unfold Ei;simp_all) _
    |exact hT (x.1,true) (by clear hN hT;unfold Ei;simp_all) _
  case done=>
   rintro D ys W hD rfl hI0 hK
   rw[hI] at hI0
   obtain⟨⟨hp,e4,e5,e6,e7⟩,hB,hs⟩:=hI0
   have c6:=e6.cell;have c7:=e7.cell;have f6:=e6.frozen;have f7:=e7.frozen
   have hr:r=(0,false):=by
    rw[List.findSome?_eq_none_iff.2 hp] at h0;exact h0.symm
   subst hr
   clear hI hIx
   gi_wp2
   have hK':=((KeepsOthers.setCell W ⟨w.heap.size+1+1+1,0,none⟩ (.int .i64 0)).trans (KeepsOthers.setCell _ ⟨w.heap.size+1+1+1+1,0,none⟩ (.bool false))).same D _ hK rfl
   refine⟨by simp,.inl ⟨_,_,rfl,run_takeDeferred hK',?_⟩⟩
   have x6:=((((e6.set (.int .i64 0)).other (B':=w.heap.size+1+1+1+1) (by omega) (.bool false)).kept (grownBy_putObj' _ D (.deferred none))) (fun e=>by cases e;omega)).cell
   have x7:=((((e7.other (B':=w.heap.size+1+1+1) (by omega) (.int .i64 0)).set (.bool false)).kept (grownBy_putObj' _ D (.deferred none))) (fun e=>by cases e;omega)).cell
   refine⟨_,?_,fin _ (((hB.setCell (p:=⟨w.heap.size+1+1+1,0,none⟩) (by simp;omega) _).setCell (p:=⟨w.heap.size+1+1+1+1,0,none⟩) (by simp;omega) _).trans (belowK_b (w:=w) (Nat.le_refl _) _ D _ _ (by have:=hB2.size;omega) hK' rfl rfl))⟩
   simp[results,Tryz.f67,go_sem,x6,x7]
  case stop=>
   intro D c pre W hD hpre hI0 hK
   rw[hIx] at hI0
   obtain⟨⟨rfl,pre',x,q,rfl,hp',hx,e6,e7⟩,hB⟩:=hI0
   have c6:=e6.cell;have c7:=e7.cell
   have hr:r=q:=by
    obtain⟨k,_,hk⟩:=hpre
    have hd:DL a0.Events a0.Events.length=(pre'++[x])++(DL a0.Events a0.Events.length).drop k:=by
     rw[hk]
     have:DL a0.Events k=(DL a0.Events a0.Events.length).take k:=by
      unfold DL
      rw[← List.map_take,List.take_range,Nat.min_eq_left (by omega)]
     rw[this,List.take_append_drop]
    rw[hd,List.append_assoc,List.findSome?_append,List.findSome?_eq_none_iff.2 hp'] at h0
    simpa[hx] using h0.symm
   subst hr
   clear hI hIx
   gi_wp2
   refine⟨by simp,.inl ⟨_,_,rfl,run_takeDeferred hK,?_⟩⟩
   have x6:=(e6.kept (grownBy_putObj' _ D (.deferred none)) (fun e=>by cases e;omega)).cell
   have x7:=(e7.kept (grownBy_putObj' _ D (.deferred none)) (fun e=>by cases e;omega)).cell
   refine⟨_,?_,fin _ (hB.trans (belowK_b (w:=w) (Nat.le_refl _) _ D _ _ (by have:=hB2.size;omega) hK rfl rfl))⟩
   simp[results,Tryz.f67,go_sem,x6,x7]
end Go.Vl
