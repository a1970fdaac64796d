/- maps.Values and maps.Keys of the given program as iterators, entry by entry. Conditions: none. -/
import Derived.Test.YtjnflahicimmlaaGreatGf
import Derived.Test.YtjnflahicimmlaaGreatGig
import Derived.Shelf.SlIterI.Sorted
import Derived.Test.YtjnflahicimmlaaGreatVmCc
import Derived.Test.YtjnflahicimmlaaGreatGq
import Derived.Test.YtjnflahicimmlaaGreatVmZd
set_option maxHeartbeats 1000000
set_option linter.unusedSimpArgs false
set_option linter.unusedVariables false
namespace Go.Vl
open Go Go.Proofs Go.RowKit Go.Maps Go.Sort Go.Shelf
section
variable {P:Program} {F:Fence} {n:Nat} {o:Oper} {ops:Array Oper} {rest:List Oper} {a:Act} {w:World} {Q:Exit→Act→World→Prop}
theorem wi_range (hg:o.guard=none) (m:Operand) (t:TypeId) (hop:o.op=Op.range t m) (k e:TypeId) (ht:P.underlying t=some (.map k e)) (b:Nat) (es:Array MapEntry) (clock:Nat)
  (hm:a.eval m=.map (some b)) (hb:w.heap[b]? =some (.map es clock)) (hK:wpListIn F n P ops Q rest (a.put o.dst (.pointer (some ⟨w.heap.size,0,none⟩))) (w.alloc (.mapIter (some b) clock #[] clock))):wpListIn F n P ops Q (o::rest) a w:=by
 refine wpListIn_plain hg fun K' hK'=>?_
 unfold Oper.wpIn
 refine⟨by simp[Oper.about,hop],?_⟩
 rw[Oper.semAt_plain F _ _ (by rw[hop];intro c hc';cases hc')]
 simp[execOp,hop,hm,run_range_map (P:=P) w t k e b es clock ht hb,Result.andThen, -World.alloc_eq]
 exact hK' _ _ hK
theorem wi_next (hg:o.guard=none) (it:Operand) (hop:o.op=Op.next it false) (r b since c0:Nat) (seen:Array Nat) (es:Array MapEntry) (clock:Nat) (hit:a.eval it=.pointer (some ⟨r,0,none⟩))
  (hr:w.heap[r]? =some (.mapIter (some b) since seen c0)) (hb:w.heap[b]? =some (.map es clock)) (hold:∀x∈es.toList,x.born < since) (hsc:since≤c0)
  (h0:(leftOf es seen).size=0→wpListIn F n P ops Q rest (a.put o.dst (.tuple #[.bool false])) w)
  (h1:∀(en:MapEntry) (w1:World),en∈es.toList→seen.contains en.born=false→(w1=w∨w1=w.drew)→wpListIn F n P ops Q rest (a.put o.dst (.tuple #[.bool true,en.key,en.val])) (ChangeMaps.setBlock w1 r (.mapIter (some b) since (seen.push en.born) clock))):
  wpListIn F n P ops Q (o::rest) a w:=by
 refine wpListIn_plain hg fun K' hK'=>?_
 unfold Oper.wpIn
 refine⟨by simp[Oper.about,hop],?_⟩
 rw[Oper.semAt_plain F _ _ (by rw[hop];intro c hc';cases hc')]
 rcases run_next_at (P:=P) w o.type r b since c0 seen es clock hr hb hold hsc with ⟨hz,hrun⟩ |⟨en,hen,w1,hw1,hrun⟩
 ·simp[execOp,hop,hit,hrun,Result.andThen]
  exact hK' _ _ (h0 hz)
 ·have hmem:en∈es.toList∧seen.contains en.born=false:=by
   unfold leftOf at hen
   simp only[Array.toList_filter,List.mem_filter,Bool.not_eq_true'] at hen
   exact hen
  simp[execOp,hop,hit,hrun,Result.andThen]
  exact hK' _ _ (h1 en w1 hmem.1 hmem.2 hw1)
end
theorem left_take:∀(es:List MapEntry) (seen:Array Nat) (en:MapEntry),(es.map (·.born)).Nodup→en∈es→seen.contains en.born=false→
  ∃l1 l2,(es.filter fun e=>!seen.contains e.born)=l1++en::l2∧(es.filter fun e=>!(seen.push en.born).contains e.born)=l1++l2
 |[],_,_,_,h,_=>by cases h
 |e0::es,seen,en,hn,he,hs=>by
  rw[List.map_cons,List.nodup_cons] at hn
  by_cases h0:en=e0
  ·subst h0
   refine⟨[],es.filter fun e=>!seen.contains e.born,by rw[List.filter_cons_of_pos (by rw[hs];rfl)];rfl,?_⟩
   rw[List.filter_cons_of_neg (by simp[Array.contains_push])]
   refine List.filter_congr fun x hx=>?_
   have hne:x.born≠en.born:=fun h=>hn.1 (h▸List.mem_map.2 ⟨x,hx,rfl⟩)
   simp[Array.contains_push,hne]
  ·have he':en∈es:=(List.mem_cons.1 he).resolve_left h0
   have hne:e0.born≠en.born:=fun h=>hn.1 (h▸List.mem_map.2 ⟨en,he',rfl⟩)
   obtain⟨l1,l2,h1,h2⟩:=left_take es seen en hn.2 he' hs
   have hc:(seen.push en.born).contains e0.born=seen.contains e0.born:=by simp[Array.contains_push,hne]
   rw[List.filter_cons,List.filter_cons,hc,h1,h2]
   split
   ·exact⟨e0::l1,l2,rfl,rfl⟩
   ·exact⟨l1,l2,rfl,rfl⟩
theorem iter_step2 {wr w1:World} {r b:Nat} {m0:Option Nat} {s0 c0 clock:Nat} {q0:Array Nat} {es:Array MapEntry} (hr:wr.heap[r]? =some (.mapIter m0 s0 q0 c0)) (hb:wr.heap[b]? =some (.map es clock)) (hw1:w1=wr∨w1=wr.drew)
  (m1:Option Nat) (s1 c1:Nat) (q1:Array Nat):∃w2,ChangeMaps.setBlock w1 r (.mapIter m1 s1 q1 c1)=w2∧w2.heap[r]? =some (.mapIter m1 s1 q1 c1)∧w2.heap[b]? =some (.map es clock)∧wr.grownBy w2 (some r):=by
 have hlt:r < wr.heap.size:=(Array.getElem?_eq_some_iff.1 hr).1
 have hbr:b≠r:=fun e=>by rw[e,hr] at hb;cases hb
 have h1:w1.heap=wr.heap∧w1.os=wr.os∧w1.tape=wr.tape∧w1.output=wr.output:=by
  rcases hw1 with rfl |rfl <;> exact⟨rfl,rfl,rfl,rfl⟩
 obtain⟨e1,e2,e3,e4⟩:=h1
 have hne:∀k,k≠r→(ChangeMaps.setBlock w1 r (.mapIter m1 s1 q1 c1)).heap[k]? =wr.heap[k]? :=fun k hk=>by
  unfold ChangeMaps.setBlock
  simp[Array.getElem?_setIfInBounds,Ne.symm hk,e1]
 refine⟨_,rfl,?_,(hne b hbr).trans hb,⟨?_,?_,?_,?_,fun k hk hkb=>hne k (fun e=>hkb (by rw[e]))⟩⟩
 ·unfold ChangeMaps.setBlock
  simp[Array.getElem?_setIfInBounds,e1,hlt]
 ·unfold ChangeMaps.setBlock;first |exact e2 |exact e3 |exact e4
 ·unfold ChangeMaps.setBlock;first |exact e2 |exact e3 |exact e4
 ·unfold ChangeMaps.setBlock;first |exact e2 |exact e3 |exact e4
 ·unfold ChangeMaps.setBlock;simp[e1]
set_option maxRecDepth 100000 in
theorem values1_in (F:Fence) (n:Nat) (h10:F.fn 112) (hro:F.round=none) (hn:1≤n) (l Bm Bo b:Nat) (es:Array MapEntry) (clock:Nat) (xs:List Int) (hxs:es.toList.map (·.val)=xs.map encZ) (J:List Int→World→Prop)
  (hY:∀pre x W,J pre W→pre.length < xs.length→YieldAt F (n - 1) Tryz.prog l #[encZ x] W fun e W'=>e=.returned (.bool true)∧J (pre++[x]) W'∧KeepsWalks W W')
  (W:World) (hJ:AbidesFrom W.heap.size J) (hm:W.cell? ⟨Bm,Bo,none⟩=some (.map (some b))) (hb:W.heap[b]? =some (.map es clock)) (hborn:∀x∈es.toList,x.born < clock) (hnd:(es.toList.map (·.born)).Nodup) (h0:J [] W):
  CallsIn F n Tryz.prog 112 #[.func (.yield l) #[] #[],.pointer (some ⟨Bm,Bo,none⟩)] W fun e W'=>(∃v,e=.returned v)∧∃ss:List Int,ss.Perm xs∧J ss W':=by
 have t81:=Tryz.underlying82
 have hbl:b < W.heap.size:=(Array.getElem?_eq_some_iff.1 hb).1
 refine callsIn_of_wp Tryz.func112 rfl h10 ?_ hro
 simp only[Tryz.ntmps112,List.size_toArray,List.length_cons,List.length_nil,Nat.reduceAdd,Nat.reduceSub,Array.replicate_succ,Array.replicate_zero,List.push_toArray,List.append_toArray,List.nil_append,List.cons_append]
 gi_wp2_with (first
  |(gi_at_range;refine wi_range rfl _ 82 rfl _ _ t81 b es clock rfl hb ?_)
  |fail)
 go_frame
 gi_loopw [4] (fun _ wr=>∃(seen:Array Nat) (ss zs:List Int),wr.heap[W.heap.size]? =some (.mapIter (some b) clock seen clock)∧wr.heap[b]? =some (.map es clock)∧(es.toList.filter fun e=>!seen.contains e.born).map (·.val)=zs.map encZ∧(ss++zs).Perm xs∧J ss wr)
  (fun _ wr=>leftN wr b W.heap.size)
 case atStart=>exact⟨#[],[],xs,heap_alloc_new W _,(heap_alloc_old W _ hbl).trans hb,by rw[List.filter_eq_self.2 (fun _ _=>by simp)];exact hxs,List.Perm.refl _,hJ [] W _ none h0 (World.grownBy_alloc W _ _) (fun r e=>by cases e)⟩
 case round=>
  obtain⟨seen,ss,zs,hr,hbr,hz,hp,hJs⟩:=hrel
  gi_wp2_with (first
   |(gi_at_next;refine wi_next rfl _ rfl W.heap.size b clock clock seen es clock rfl hr hbr hborn (Nat.le_refl _) ?_ ?_)
   |fail)
  ·intro hz0
   gi_wp2
   go_end0
   have hzn:zs=[]:=by
    unfold leftOf at hz0
    rw[Array.filter_eq_empty_iff] at hz0
    rw[List.filter_eq_nil_iff.2 (fun e he=>by simpa using hz0 e (by simpa using he))] at hz
    simpa using hz.symm
   subst hzn
   exact⟨⟨_,rfl⟩,ss,by simpa using hp,hJs⟩
  ·intro en w1 hen hseen hw1
   obtain⟨w2,e2,hr2,hb2,hg2⟩:=iter_step2 hr hbr hw1 (some b) clock clock (seen.push en.born)
   have henl:en∈es.toList:=by simpa using hen
   have hseen':seen.contains en.born=false:=by simpa using hseen
   have hJ2:J ss w2:=hJ ss wr w2 (some W.heap.size) hJs hg2 (fun r e=>by cases e;exact⟨Nat.le_refl _,_,hr,rfl⟩)
   have hent:(Instr.entry (.pointer (some ⟨W.heap.size,0,none⟩))).run Tryz.prog w2=.ok (.tuple #[en.key,en.val]) w2:=run_entry_at (P:=Tryz.prog) w2 W.heap.size b clock seen es clock en hr2 hb2 henl hnd
   obtain⟨l1,l2,k1,k2⟩:=left_take es.toList seen en hnd henl hseen'
   rw[k1,List.map_append,List.map_cons] at hz
   obtain⟨z1,z2',rfl,g1,g2⟩:=List.map_eq_append_iff.1 hz.symm
   obtain⟨z,z2,rfl,g3,g4⟩:=List.map_eq_cons_iff.1 g2
   have hlt:=left_push henl hseen'
   have hleft:=leftN_at hr hbr
   obtain⟨fn,tmps,assign,body,hy,hR⟩:=hY ss z w2 hJ2 (by have:=hp.length_eq;simp at this;omega)
   have hval:en.val=encZ z:=g3.symm
   rw[hval] at hent
   rw[e2,hval]
   have hA:Aside _:=And.intro hr2 (And.intro hb2 (And.intro k2 (And.intro g1 (And.intro g4 (And.intro hp (And.intro hleft hlt))))))
   clear hr hbr hr2 hb2 k1 k2 g1 g2 g4 hp hleft hlt hz hw1 e2 hg2 hen hseen hseen' henl g3 hval hJs hJ2
   generalize en.key=kk at hent ⊢
   gi_wp2
   refine hR.mono ?_
   rintro e W3 ⟨rfl,hJ3,hk3⟩
   gi_wp2
   obtain⟨hr2,hb2,k2,g1,g4,hp,hleft,hlt⟩:=hA.out
   have hr3:=hk3.same _ _ hr2 rfl
   have hb3:=hk3.same _ _ hb2 rfl
   go_roundw
   case rel=>
    refine⟨seen.push en.born,ss++[z],z1++z2,hr3,hb3,by rw[k2,List.map_append,List.map_append,g1,g4],?_,hJ3⟩
    refine List.Perm.trans ?_ hp
    rw[List.append_assoc]
    show(ss++z::(z1++z2)).Perm (ss++(z1++z::z2))
    exact(List.perm_middle.symm).append_left ss
   case measure=>rw[leftN_at hr3 hb3,hleft];exact hlt
theorem values_gives {w:World} {Bm Bo b:Nat} {es:Array MapEntry} {clock:Nat} {xs:List Int} (hBm:Bm < w.heap.size) (hm:w.cell? ⟨Bm,Bo,none⟩=some (.map (some b))) (hb:w.heap[b]? =some (.map es clock)) (hxs:es.toList.map (·.val)=xs.map encZ) (hborn:∀x∈es.toList,x.born < clock) (hnd:(es.toList.map (·.born)).Nodup) (n:Nat) (hn:1≤n):
  SeqGives Fence.wide n Tryz.prog 112 #[.pointer (some ⟨Bm,Bo,none⟩)] encZ (fun ss=>ss.Perm xs) xs.length w:=fun l J W hW hJ hY h0=>by
 have hbl:=(Array.getElem?_eq_some_iff.1 hb).1
 exact values1_in Fence.wide n trivial rfl hn l Bm Bo b es clock xs hxs J hY W hJ ((hW.cell (p:=⟨Bm,Bo,none⟩) hBm).trans hm) ((hW.block b hbl).trans hb) hborn hnd h0
theorem values_calls (mb:Option Nat) (w:World):Calls Tryz.prog 90 #[.map mb] w fun e w'=>e=.returned (.func (.func 112) #[] #[.pointer (some ⟨w.heap.size,0,none⟩)])∧w'=w.alloc (.cells #[.map mb] 82):=by
 have t81:=Tryz.underlying82
 go_enter Tryz.func90,Tryz.ntmps90
 go_wp2
 go_ret
 exact⟨rfl,rfl⟩
theorem collect_calls {w:World} {Bm Bo b:Nat} {es:Array MapEntry} {clock:Nat} {xs:List Int} (hBm:Bm < w.heap.size) (hm:w.cell? ⟨Bm,Bo,none⟩=some (.map (some b))) (hb:w.heap[b]? =some (.map es clock)) (hxs:es.toList.map (·.val)=xs.map encZ) (hborn:∀x∈es.toList,x.born < clock) (hnd:(es.toList.map (·.born)).Nodup) (hl:xs.length≤1000000):
  Calls Tryz.prog 84 #[.func (.func 112) #[] #[.pointer (some ⟨Bm,Bo,none⟩)]] w fun e w'=>∃(v:Value) (ss:List Int),e=.returned v∧ss.Perm xs∧w'.ownsRow w.heap.size 3 1 v ss.length (ss.map encZ)∧(v=.slice none 0 0↔ss=[])∧Below w.heap.size w w':=by
 have h:=AnyZI.collect_in Tryz.collA Fence.wide 5 trivial trivial rfl (by omega) 112 #[.pointer (some ⟨Bm,Bo,none⟩)] trivial (enters_of Tryz.func112 (by kernel_rfl) rfl) _ xs.length (by simp only[maxLen];omega) (by omega) w (values_gives hBm hm hb hxs hborn hnd _ (by omega))
 exact callsIn_wide.1 h
end Go.Vl
namespace Go.Vl
open Go Go.Proofs Go.RowKit Go.Maps Go.Sort Go.Shelf
set_option maxRecDepth 100000 in
theorem keysB1_in (F:Fence) (n:Nat) (h10:F.fn 89) (hro:F.round=none) (hn:1≤n) (l Bm Bo b:Nat) (es:Array MapEntry) (clock:Nat) (xs:List Int) (hxs:es.toList.map (·.key)=xs.map encZ) (J:List Int→World→Prop)
  (hY:∀pre x W,J pre W→pre.length < xs.length→YieldAt F (n - 1) Tryz.prog l #[encZ x] W fun e W'=>e=.returned (.bool true)∧J (pre++[x]) W'∧KeepsWalks W W')
  (W:World) (hJ:AbidesFrom W.heap.size J) (hm:W.cell? ⟨Bm,Bo,none⟩=some (.map (some b))) (hb:W.heap[b]? =some (.map es clock)) (hborn:∀x∈es.toList,x.born < clock) (hnd:(es.toList.map (·.born)).Nodup) (h0:J [] W):
  CallsIn F n Tryz.prog 89 #[.func (.yield l) #[] #[],.pointer (some ⟨Bm,Bo,none⟩)] W fun e W'=>(∃v,e=.returned v)∧∃ss:List Int,ss.Perm xs∧J ss W':=by
 have tM:=Tryz.underlying75
 have hbl:b < W.heap.size:=(Array.getElem?_eq_some_iff.1 hb).1
 refine callsIn_of_wp Tryz.func89 rfl h10 ?_ hro
 simp only[Tryz.ntmps89,List.size_toArray,List.length_cons,List.length_nil,Nat.reduceAdd,Nat.reduceSub,Array.replicate_succ,Array.replicate_zero,List.push_toArray,List.append_toArray,List.nil_append,List.cons_append]
 gi_wp2_with (first
  |(gi_at_range;refine wi_range rfl _ 75 rfl _ _ tM b es clock rfl hb ?_)
  |fail)
 go_frame
 gi_loopw [3] (fun _ wr=>∃(seen:Array Nat) (ss zs:List Int),wr.heap[W.heap.size]? =some (.mapIter (some b) clock seen clock)∧wr.heap[b]? =some (.map es clock)∧(es.toList.filter fun e=>!seen.contains e.born).map (·.key)=zs.map encZ∧(ss++zs).Perm xs∧J ss wr)
  (fun _ wr=>leftN wr b W.heap.size)
 case atStart=>exact⟨#[],[],xs,heap_alloc_new W _,(heap_alloc_old W _ hbl).trans hb,by rw[List.filter_eq_self.2 (fun _ _=>by simp)];exact hxs,List.Perm.refl _,hJ [] W _ none h0 (World.grownBy_alloc W _ _) (fun r e=>by cases e)⟩
 case round=>
  obtain⟨seen,ss,zs,hr,hbr,hz,hp,hJs⟩:=hrel
  gi_wp2_with (first
   |(gi_at_next;refine wi_next rfl _ rfl W.heap.size b clock clock seen es clock rfl hr hbr hborn (Nat.le_refl _) ?_ ?_)
   |fail)
  ·intro hz0
   gi_wp2
   go_end0
   have hzn:zs=[]:=by
    unfold leftOf at hz0
    rw[Array.filter_eq_empty_iff] at hz0
    rw[List.filter_eq_nil_iff.2 (fun e he=>by simpa using hz0 e (by simpa using he))] at hz
    simpa using hz.symm
   subst hzn
   exact⟨⟨_,rfl⟩,ss,by simpa using hp,hJs⟩
  ·intro en w1 hen hseen hw1
   obtain⟨w2,e2,hr2,hb2,hg2⟩:=iter_step2 hr hbr hw1 (some b) clock clock (seen.push en.born)
   have henl:en∈es.toList:=by simpa using hen
   have hseen':seen.contains en.born=false:=by simpa using hseen
   have hJ2:J ss w2:=hJ ss wr w2 (some W.heap.size) hJs hg2 (fun r e=>by cases e;exact⟨Nat.le_refl _,_,hr,rfl⟩)
   have hent:(Instr.entry (.pointer (some ⟨W.heap.size,0,none⟩))).run Tryz.prog w2=.ok (.tuple #[en.key,en.val]) w2:=run_entry_at (P:=Tryz.prog) w2 W.heap.size b clock seen es clock en hr2 hb2 henl hnd
   obtain⟨l1,l2,k1,k2⟩:=left_take es.toList seen en hnd henl hseen'
   rw[k1,List.map_append,List.map_cons] at hz
   obtain⟨z1,z2',rfl,g1,g2⟩:=List.map_eq_append_iff.1 hz.symm
   obtain⟨z,z2,rfl,g3,g4⟩:=List.map_eq_cons_iff.1 g2
   have hlt:=left_push henl hseen'
   have hleft:=leftN_at hr hbr
   obtain⟨fn,tmps,assign,body,hy,hR⟩:=hY ss z w2 hJ2 (by have:=hp.length_eq;simp at this;omega)
   have hval:en.key=encZ z:=g3.symm
   rw[hval] at hent
   rw[e2,hval]
   have hA:Aside _:=And.intro hr2 (And.intro hb2 (And.intro k2 (And.intro g1 (And.intro g4 (And.intro hp (And.intro hleft hlt))))))
   clear hr hbr hr2 hb2 k1 k2 g1 g2 g4 hp hleft hlt hz hw1 e2 hg2 hen hseen hseen' henl g3 hval hJs hJ2
   generalize en.val=kk at hent ⊢
   gi_wp2
   refine hR.mono ?_
   rintro e W3 ⟨rfl,hJ3,hk3⟩
   gi_wp2
   obtain⟨hr2,hb2,k2,g1,g4,hp,hleft,hlt⟩:=hA.out
   have hr3:=hk3.same _ _ hr2 rfl
   have hb3:=hk3.same _ _ hb2 rfl
   go_roundw
   case rel=>
    refine⟨seen.push en.born,ss++[z],z1++z2,hr3,hb3,by rw[k2,List.map_append,List.map_append,g1,g4],?_,hJ3⟩
    refine List.Perm.trans ?_ hp
    rw[List.append_assoc]
    show(ss++z::(z1++z2)).Perm (ss++(z1++z::z2))
    exact(List.perm_middle.symm).append_left ss
   case measure=>rw[leftN_at hr3 hb3,hleft];exact hlt
theorem keysB_gives {w:World} {Bm Bo b:Nat} {es:Array MapEntry} {clock:Nat} {xs:List Int} (hBm:Bm < w.heap.size) (hm:w.cell? ⟨Bm,Bo,none⟩=some (.map (some b))) (hb:w.heap[b]? =some (.map es clock)) (hxs:es.toList.map (·.key)=xs.map encZ) (hborn:∀x∈es.toList,x.born < clock) (hnd:(es.toList.map (·.born)).Nodup) (n:Nat) (hn:1≤n):
  SeqGives Fence.wide n Tryz.prog 89 #[.pointer (some ⟨Bm,Bo,none⟩)] encZ (fun ss=>ss.Perm xs) xs.length w:=fun l J W hW hJ hY h0=>by
 have hbl:=(Array.getElem?_eq_some_iff.1 hb).1
 exact keysB1_in Fence.wide n trivial rfl hn l Bm Bo b es clock xs hxs J hY W hJ ((hW.cell (p:=⟨Bm,Bo,none⟩) hBm).trans hm) ((hW.block b hbl).trans hb) hborn hnd h0
theorem keysB_calls (mb:Option Nat) (w:World):Calls Tryz.prog 55 #[.map mb] w fun e w'=>e=.returned (.func (.func 89) #[] #[.pointer (some ⟨w.heap.size,0,none⟩)])∧w'=w.alloc (.cells #[.map mb] 75):=by
 have tM:=Tryz.underlying75
 go_enter Tryz.func55,Tryz.ntmps55
 go_wp2
 go_ret
 exact⟨rfl,rfl⟩
theorem keysB_sorted {w:World} {Bm Bo b:Nat} {es:Array MapEntry} {clock:Nat} {xs:List Int} (hBm:Bm < w.heap.size) (hm:w.cell? ⟨Bm,Bo,none⟩=some (.map (some b))) (hb:w.heap[b]? =some (.map es clock)) (hxs:es.toList.map (·.key)=xs.map encZ) (hborn:∀x∈es.toList,x.born < clock) (hnd:(es.toList.map (·.born)).Nodup) (hl:xs.length≤1000000):
  Calls Tryz.prog 46 #[.func (.func 89) #[] #[.pointer (some ⟨Bm,Bo,none⟩)]] w fun e w'=>∃(v:Value),e=.returned v∧w'.ownsRow w.heap.size 3 1 v xs.length ((xs.mergeSort fun x y=>decide (x≤y)).map encZ)∧Below w.heap.size w w':=by
 have h:=AnyZI.sorted_in Tryz.sortedA Fence.wide 6 trivial trivial trivial trivial rfl (by omega) ⟨fun blk off cap ss W hH hblk hsz=>callsIn_wide.2 (Tryz.slices_Sort_int blk off cap ss W hH hblk hsz),fun p cap W=>callsIn_wide.2 (Tryz.slices_Sort_int_none p cap W)⟩ (enters_of Tryz.func59 (by kernel_rfl) rfl) 89 #[.pointer (some ⟨Bm,Bo,none⟩)] trivial (enters_of Tryz.func89 (by kernel_rfl) rfl) _ xs.length (by simp only[maxLen];omega) (by omega) w (keysB_gives hBm hm hb hxs hborn hnd _ (by omega))
 refine(callsIn_wide.1 h).mono fun e w' ⟨v,ss,he,hp,hr,_,hB⟩=>⟨v,he,?_,hB⟩
 rw[← hp.length_eq]
 have:(ss.mergeSort fun x y=>decide (x≤y))=xs.mergeSort fun x y=>decide (x≤y):=by
  refine List.Perm.eq_of_pairwise (le:=fun a b:Int=>a≤b) (fun a b _ _ h1 h2=>by omega) ?_ ?_ (((List.mergeSort_perm ss _).trans hp).trans (List.mergeSort_perm xs _).symm)
  ·exact(List.pairwise_mergeSort (le:=fun x y:Int=>decide (x≤y)) (fun a b c h1 h2=>by simp only[decide_eq_true_eq] at h1 h2 ⊢;omega) (fun a b=>by simp only[Bool.or_eq_true,decide_eq_true_eq];omega) ss).imp fun {a b} h=>by simpa using h
  ·exact(List.pairwise_mergeSort (le:=fun x y:Int=>decide (x≤y)) (fun a b c h1 h2=>by simp only[decide_eq_true_eq] at h1 h2 ⊢;omega) (fun a b=>by simp only[Bool.or_eq_true,decide_eq_true_eq];omega) xs).imp fun {a b} h=>by simpa using h
 rw[← this]
 exact hr
set_option maxRecDepth 100000 in
theorem keysA1_in (F:Fence) (n:Nat) (h10:F.fn 85) (hro:F.round=none) (hn:1≤n) (l Bm Bo b:Nat) (es:Array MapEntry) (clock:Nat) (xs:List Int) (hxs:es.toList.map (·.key)=xs.map encZ) (J:List Int→World→Prop)
  (hY:∀pre x W,J pre W→pre.length < xs.length→YieldAt F (n - 1) Tryz.prog l #[encZ x] W fun e W'=>e=.returned (.bool true)∧J (pre++[x]) W'∧KeepsWalks W W')
  (W:World) (hJ:AbidesFrom W.heap.size J) (hm:W.cell? ⟨Bm,Bo,none⟩=some (.map (some b))) (hb:W.heap[b]? =some (.map es clock)) (hborn:∀x∈es.toList,x.born < clock) (hnd:(es.toList.map (·.born)).Nodup) (h0:J [] W):
  CallsIn F n Tryz.prog 85 #[.func (.yield l) #[] #[],.pointer (some ⟨Bm,Bo,none⟩)] W fun e W'=>(∃v,e=.returned v)∧∃ss:List Int,ss.Perm xs∧J ss W':=by
 have tM:=Tryz.underlying80
 have hbl:b < W.heap.size:=(Array.getElem?_eq_some_iff.1 hb).1
 refine callsIn_of_wp Tryz.func85 rfl h10 ?_ hro
 simp only[Tryz.ntmps85,List.size_toArray,List.length_cons,List.length_nil,Nat.reduceAdd,Nat.reduceSub,Array.replicate_succ,Array.replicate_zero,List.push_toArray,List.append_toArray,List.nil_append,List.cons_append]
 gi_wp2_with (first
  |(gi_at_range;refine wi_range rfl _ 80 rfl _ _ tM b es clock rfl hb ?_)
  |fail)
 go_frame
 gi_loopw [3] (fun _ wr=>∃(seen:Array Nat) (ss zs:List Int),wr.heap[W.heap.size]? =some (.mapIter (some b) clock seen clock)∧wr.heap[b]? =some (.map es clock)∧(es.toList.filter fun e=>!seen.contains e.born).map (·.key)=zs.map encZ∧(ss++zs).Perm xs∧J ss wr)
  (fun _ wr=>leftN wr b W.heap.size)
 case atStart=>exact⟨#[],[],xs,heap_alloc_new W _,(heap_alloc_old W _ hbl).trans hb,by rw[List.filter_eq_self.2 (fun _ _=>by simp)];exact hxs,List.Perm.refl _,hJ [] W _ none h0 (World.grownBy_alloc W _ _) (fun r e=>by cases e)⟩
 case round=>
  obtain⟨seen,ss,zs,hr,hbr,hz,hp,hJs⟩:=hrel
  gi_wp2_with (first
   |(gi_at_next;refine wi_next rfl _ rfl W.heap.size b clock clock seen es clock rfl hr hbr hborn (Nat.le_refl _) ?_ ?_)
   |fail)
  ·intro hz0
   gi_wp2
   go_end0
   have hzn:zs=[]:=by
    unfold leftOf at hz0
    rw[Array.filter_eq_empty_iff] at hz0
    rw[List.filter_eq_nil_iff.2 (fun e he=>by simpa using hz0 e (by simpa using he))] at hz
    simpa using hz.symm
   subst hzn
   exact⟨⟨_,rfl⟩,ss,by simpa using hp,hJs⟩
  ·intro en w1 hen hseen hw1
   obtain⟨w2,e2,hr2,hb2,hg2⟩:=iter_step2 hr hbr hw1 (some b) clock clock (seen.push en.born)
   have henl:en∈es.toList:=by simpa using hen
   have hseen':seen.contains en.born=false:=by simpa using hseen
   have hJ2:J ss w2:=hJ ss wr w2 (some W.heap.size) hJs hg2 (fun r e=>by cases e;exact⟨Nat.le_refl _,_,hr,rfl⟩)
   have hent:(Instr.entry (.pointer (some ⟨W.heap.size,0,none⟩))).run Tryz.prog w2=.ok (.tuple #[en.key,en.val]) w2:=run_entry_at (P:=Tryz.prog) w2 W.heap.size b clock seen es clock en hr2 hb2 henl hnd
   obtain⟨l1,l2,k1,k2⟩:=left_take es.toList seen en hnd henl hseen'
   rw[k1,List.map_append,List.map_cons] at hz
   obtain⟨z1,z2',rfl,g1,g2⟩:=List.map_eq_append_iff.1 hz.symm
   obtain⟨z,z2,rfl,g3,g4⟩:=List.map_eq_cons_iff.1 g2
   have hlt:=left_push henl hseen'
   have hleft:=leftN_at hr hbr
   obtain⟨fn,tmps,assign,body,hy,hR⟩:=hY ss z w2 hJ2 (by have:=hp.length_eq;simp at this;omega)
   have hval:en.key=encZ z:=g3.symm
   rw[hval] at hent
   rw[e2,hval]
   have hA:Aside _:=And.intro hr2 (And.intro hb2 (And.intro k2 (And.intro g1 (And.intro g4 (And.intro hp (And.intro hleft hlt))))))
   clear hr hbr hr2 hb2 k1 k2 g1 g2 g4 hp hleft hlt hz hw1 e2 hg2 hen hseen hseen' henl g3 hval hJs hJ2
   generalize en.val=kk at hent ⊢
   gi_wp2
   refine hR.mono ?_
   rintro e W3 ⟨rfl,hJ3,hk3⟩
   gi_wp2
   obtain⟨hr2,hb2,k2,g1,g4,hp,hleft,hlt⟩:=hA.out
   have hr3:=hk3.same _ _ hr2 rfl
   have hb3:=hk3.same _ _ hb2 rfl
   go_roundw
   case rel=>
    refine⟨seen.push en.born,ss++[z],z1++z2,hr3,hb3,by rw[k2,List.map_append,List.map_append,g1,g4],?_,hJ3⟩
    refine List.Perm.trans ?_ hp
    rw[List.append_assoc]
    show(ss++z::(z1++z2)).Perm (ss++(z1++z::z2))
    exact(List.perm_middle.symm).append_left ss
   case measure=>rw[leftN_at hr3 hb3,hleft];exact hlt
theorem keysA_gives {w:World} {Bm Bo b:Nat} {es:Array MapEntry} {clock:Nat} {xs:List Int} (hBm:Bm < w.heap.size) (hm:w.cell? ⟨Bm,Bo,none⟩=some (.map (some b))) (hb:w.heap[b]? =some (.map es clock)) (hxs:es.toList.map (·.key)=xs.map encZ) (hborn:∀x∈es.toList,x.born < clock) (hnd:(es.toList.map (·.born)).Nodup) (n:Nat) (hn:1≤n):
  SeqGives Fence.wide n Tryz.prog 85 #[.pointer (some ⟨Bm,Bo,none⟩)] encZ (fun ss=>ss.Perm xs) xs.length w:=fun l J W hW hJ hY h0=>by
 have hbl:=(Array.getElem?_eq_some_iff.1 hb).1
 exact keysA1_in Fence.wide n trivial rfl hn l Bm Bo b es clock xs hxs J hY W hJ ((hW.cell (p:=⟨Bm,Bo,none⟩) hBm).trans hm) ((hW.block b hbl).trans hb) hborn hnd h0
theorem keysA_calls (mb:Option Nat) (w:World):Calls Tryz.prog 47 #[.map mb] w fun e w'=>e=.returned (.func (.func 85) #[] #[.pointer (some ⟨w.heap.size,0,none⟩)])∧w'=w.alloc (.cells #[.map mb] 80):=by
 have tM:=Tryz.underlying80
 go_enter Tryz.func47,Tryz.ntmps47
 go_wp2
 go_ret
 exact⟨rfl,rfl⟩
theorem keysA_sorted {w:World} {Bm Bo b:Nat} {es:Array MapEntry} {clock:Nat} {xs:List Int} (hBm:Bm < w.heap.size) (hm:w.cell? ⟨Bm,Bo,none⟩=some (.map (some b))) (hb:w.heap[b]? =some (.map es clock)) (hxs:es.toList.map (·.key)=xs.map encZ) (hborn:∀x∈es.toList,x.born < clock) (hnd:(es.toList.map (·.born)).Nodup) (hl:xs.length≤1000000):
  Calls Tryz.prog 46 #[.func (.func 85) #[] #[.pointer (some ⟨Bm,Bo,none⟩)]] w fun e w'=>∃(v:Value),e=.returned v∧w'.ownsRow w.heap.size 3 1 v xs.length ((xs.mergeSort fun x y=>decide (x≤y)).map encZ)∧Below w.heap.size w w':=by
 have h:=AnyZI.sorted_in Tryz.sortedA Fence.wide 6 trivial trivial trivial trivial rfl (by omega) ⟨fun blk off cap ss W hH hblk hsz=>callsIn_wide.2 (Tryz.slices_Sort_int blk off cap ss W hH hblk hsz),fun p cap W=>callsIn_wide.2 (Tryz.slices_Sort_int_none p cap W)⟩ (enters_of Tryz.func59 (by kernel_rfl) rfl) 85 #[.pointer (some ⟨Bm,Bo,none⟩)] trivial (enters_of Tryz.func85 (by kernel_rfl) rfl) _ xs.length (by simp only[maxLen];omega) (by omega) w (keysA_gives hBm hm hb hxs hborn hnd _ (by omega))
 refine(callsIn_wide.1 h).mono fun e w' ⟨v,ss,he,hp,hr,_,hB⟩=>⟨v,he,?_,hB⟩
 rw[← hp.length_eq]
 have:(ss.mergeSort fun x y=>decide (x≤y))=xs.mergeSort fun x y=>decide (x≤y):=by
  refine List.Perm.eq_of_pairwise (le:=fun a b:Int=>a≤b) (fun a b _ _ h1 h2=>by omega) ?_ ?_ (((List.mergeSort_perm ss _).trans hp).trans (List.mergeSort_perm xs _).symm)
  ·exact(List.pairwise_mergeSort (le:=fun x y:Int=>decide (x≤y)) (fun a b c h1 h2=>by simp only[decide_eq_true_eq] at h1 h2 ⊢;omega) (fun a b=>by simp only[Bool.or_eq_true,decide_eq_true_eq];omega) ss).imp fun {a b} h=>by simpa using h
  ·exact(List.pairwise_mergeSort (le:=fun x y:Int=>decide (x≤y)) (fun a b c h1 h2=>by simp only[decide_eq_true_eq] at h1 h2 ⊢;omega) (fun a b=>by simp only[Bool.or_eq_true,decide_eq_true_eq];omega) xs).imp fun {a b} h=>by simpa using h
 rw[← this]
 exact hr
end Go.Vl
namespace Go.Vl
open Go Go.Proofs Go.RowKit Go.Maps Go.Sort Go.Shelf
theorem one_arg {w:World} {ok:Nat→Prop} {vs:Array Value} {x:AV} (hvs:vs.size=[x].length) (hargs:∀(i:Nat) (y:AV) (v:Value),[x][i]? =some y→vs[i]? =some v→RA w ok (ioPl [] []) y v):∃v,vs= #[v]∧RA w ok (ioPl [] []) x v:=by
 have h1:vs.size=1:=by simpa using hvs
 have hv0:vs[0]? =some vs[0]:=Array.getElem?_eq_getElem (by omega)
 refine⟨vs[0],?_,hargs 0 _ _ rfl hv0⟩
 refine Array.ext (by simp[h1]) fun i h1 h2=>?_
 have:i=0:=by simp at h2;omega
 subst this;rfl
theorem box_ok {f g:FuncId} {T:TypeId} {e z:Nat} {rows:List (List D)} (hC:∀(mb:Option Nat) (w:World),Calls Tryz.prog f #[.map mb] w fun en w'=>en=.returned (.func (.func g) #[] #[.pointer (some ⟨w.heap.size,0,none⟩)])∧w'=w.alloc (.cells #[.map mb] T)):
  FnOK Tryz.prog f [] [.d (.mp e z rows)] (.fn g [.cptr [.mp e z rows] 0]) []:=by
 intro w ok io iv vs hpre hvs hargs _
 have hio:io=[]:=List.eq_nil_of_length_eq_zero (by simpa using hpre.len)
 have hiv:iv=[]:=List.eq_nil_of_length_eq_zero (by simpa using hpre.lenv)
 subst hio;subst hiv
 obtain⟨v,rfl,hra⟩:=one_arg hvs hargs
 cases hra with
 |d hrd=>
  obtain⟨b,es,clock,rfl,hb,hokb,_,hM⟩:=hrd.mp_inv
  refine(hC (some b) w).mono fun en w' ⟨he,hw⟩=>?_
  subst hw
  have hs1:(w.alloc (.cells #[.map (some b)] T)).heap.size=w.heap.size+1:=by unfold World.alloc;simp
  have hsee:∀q:Addr,ok q.block→see (w.alloc (.cells #[.map (some b)] T)) q=see w q:=fun q hq=>see_of_block (heap_alloc_old w _ (hpre.okb _ hq).1)
  have hok:∀k,ok k→okn ok [] [] w (w.alloc (.cells #[.map (some b)] T)) k:=fun k hk=>⟨.inl hk,by have:=(hpre.okb k hk).1;omega,fun u hu=>by simp at hu⟩
  refine⟨_,[],he,.fn rfl fun i a v ha hv=>?_,⟨rfl,List.nodup_nil,fun k hk=>⟨hk.2.1,by simp,fun v hv=>by simp at hv⟩,fun i b cs h=>by simp at h,rfl,fun i v s h=>by simp at h,fun i j v u h=>by simp at h,fun v h=>by simp at h⟩,fun u hu=>by simp at hu,⟨by omega,rfl,rfl,Nat.le_refl _,rfl,fun k hk _ _=>heap_alloc_old w _ hk⟩⟩
  have:i=0:=by have:=(List.getElem?_eq_some_iff.1 ha).1;simpa using this
  subst this
  simp at ha hv
  subst ha;subst hv
  refine RA.cptr (a:=⟨w.heap.size,0,none⟩) (o:=0) (fun _=>.map (some b)) ⟨.inr (.inl (Nat.le_refl _)),by show w.heap.size < _;omega,fun u hu=>by simp at hu⟩ (fun j hj=>?_) (fun j x hx=>?_)
  ·have:j=0:=by simpa using hj
   subst this
   show World.cell? _ ⟨w.heap.size,0,none⟩=_
   unfold World.cell?
   rw[heap_alloc_new];rfl
  ·have:j=0:=by have:=(List.getElem?_eq_some_iff.1 hx).1;simpa using this
   subst this
   simp at hx;subst hx
   exact hrd.mono hsee hok
theorem pYValues_ok {e z:Nat} {rows:List (List D)}:FnOK Tryz.prog 90 [] [.d (.mp e z rows)] (.fn 112 [.cptr [.mp e z rows] 0]) []:=box_ok values_calls
theorem pYKeysA_ok {e z:Nat} {rows:List (List D)}:FnOK Tryz.prog 47 [] [.d (.mp e z rows)] (.fn 85 [.cptr [.mp e z rows] 0]) []:=box_ok keysA_calls
theorem pYKeysB_ok {e z:Nat} {rows:List (List D)}:FnOK Tryz.prog 55 [] [.d (.mp e z rows)] (.fn 89 [.cptr [.mp e z rows] 0]) []:=box_ok keysB_calls
theorem cap_map {w:World} {ok:Nat→Prop} {p:Pl} {g:FuncId} {e z:Nat} {rows:List (List D)} {v:Value} (h:RA w ok p (.fn g [.cptr [.mp e z rows] 0]) v):
  ∃(Bm Bo b:Nat) (es:Array MapEntry) (clock:Nat),v=.func (.func g) #[] #[.pointer (some ⟨Bm,Bo,none⟩)]∧w.cell? ⟨Bm,Bo,none⟩=some (.map (some b))∧ok Bm∧w.heap[b]? =some (.map es clock)∧ok b∧MapR w ok ⟨e,z,rows⟩ es clock:=by
 cases h with
 |fn hl h=>
  rename_i cs
  have h1:cs.size=1:=by simpa using hl
  have hv0:cs[0]? =some cs[0]:=Array.getElem?_eq_getElem (by omega)
  have hra:=h 0 _ _ rfl hv0
  have hcs:cs= #[cs[0]]:=by
   refine Array.ext (by simp[h1]) fun i h1 h2=>?_
   have:i=0:=by simp at h2;omega
   subst this;rfl
  generalize cs[0]=c0 at hra hcs
  subst hcs
  generalize hx:AV.cptr [D.mp e z rows] 0=x at hra
  cases hra with
  |cptr vs hok hcell hd=>
   rename_i row o a
   cases hx
   have h2:=hcell 0 (by simp)
   have h3:=hd 0 _ rfl
   generalize vs 0=m at h2 h3
   obtain⟨b,es,clock,rfl,hb,hokb,_,hM⟩:=h3.mp_inv
   rw[add_zero] at h2
   have hs:a.spot=none:=by
    unfold World.cell? at h2
    split at h2
    ·split at h2
     ·cases h2
     ·rename_i hn;simpa using hn
    ·cases h2
   obtain⟨Bm,Bo,sp⟩:=a
   simp only at hs
   subst hs
   exact⟨Bm,Bo,b,es,clock,rfl,h2,hok,hb,hokb,hM⟩
  |_=>cases hx
attribute [local irreducible] VS.kz VS.va VS.ka
theorem keys_of {w:World} {ok:Nat→Prop} {s:VS} {ν:Type} {g:ν→List D} {m:List (Int×ν)} {es:Array MapEntry} {clock:Nat} (hka:s.ka=false) (hkz:s.kz=1) (hs:s.rows=rowsF (mRow (iRow .i64) g) m) (hM:MapR w ok s es clock):es.toList.map (·.key)=(m.map (·.1)).map encZ:=by
 have hl:es.toList.length=m.length:=hM.key.1.trans (by rw[hs];simp[rowsF])
 refine List.ext_getElem (by simpa using hl) fun j h1 h2=>?_
 have hj:j < m.length:=by simpa using h2
 have hj2:j < es.toList.length:=by simpa using h1
 have h:=(hM.key.2 j (mRow (iRow .i64) g m[j]) es.toList[j] (by rw[hs];exact rowsF_at _ (List.getElem?_eq_getElem hj)) (List.getElem?_eq_getElem hj2))
 rw[hka,hkz] at h
 simp only[List.getElem_map]
 generalize es.toList[j].key=v at h
 obtain⟨d,e1,e2⟩:=h
 cases e1
 cases e2
 rfl
theorem vals_of {w:World} {ok:Nat→Prop} {s:VS} {m:List (ByteArray×Int)} {es:Array MapEntry} {clock:Nat} (hva:s.va=false) (hkz:s.kz=1) (hs:s.rows=rowsF (mRow sRow (iRow .i64)) m) (hM:MapR w ok s es clock):es.toList.map (·.val)=(m.map (·.2)).map encZ:=by
 have hl:es.toList.length=m.length:=hM.key.1.trans (by rw[hs];simp[rowsF])
 refine List.ext_getElem (by simpa using hl) fun j h1 h2=>?_
 have hj:j < m.length:=by simpa using h2
 have hj2:j < es.toList.length:=by simpa using h1
 have h:=hM.val (show s.rows[j]? =some (mRow sRow (iRow .i64) m[j]) by rw[hs];exact rowsF_at _ (List.getElem?_eq_getElem hj)) (List.getElem?_eq_getElem hj2)
 rw[hva,hkz] at h
 clear hM hs hva hkz
 simp only[List.getElem_map]
 generalize es.toList[j].val=v at h
 obtain⟨d,e1,e2⟩:=h
 cases e1
 cases e2
 rfl
theorem sYCollect_ok {m:List (ByteArray×Int)} (hm:m.length≤1000000):FnOKr Tryz.prog 84 [.fn 112 [.cptr [.mp (mTag 82 1 false false) 2 (rowsF (mRow sRow (iRow .i64)) m)] 0]] (fun ss:List Int=>ss.Perm (m.map (·.2))) (fun _=>.vec (InV 0)) (fun ss=>[⟨3,1,rowsF (iRow .i64) ss⟩]):=by
 intro w ok vs hpre hvs hargs _
 obtain⟨v0,rfl,hra⟩:=one_arg hvs hargs
 obtain⟨Bm,Bo,b,es,clock,rfl,hcell,hokB,hb,hokb,hM⟩:=cap_map hra
 have hxs:=vals_of (s:=⟨mTag 82 1 false false,2,rowsF (mRow sRow (iRow .i64)) m⟩) (tag_va 82 1 false false 2 _) (tag_kz 82 (by decide) false false 2 _) rfl hM
 refine(collect_calls (hpre.okb _ hokB).1 hcell hb hxs hM.born hM.nodup (by simpa using hm)).mono fun e w' ⟨v,ss,he,hp,hown,_,hB⟩=>?_
 refine⟨ss,hp,v,[v],he,RA.vec_at (io_lv.2 (by simp)) (io_rw rfl),⟨rfl,List.nodup_nil,fun k hk=>⟨hk.2.1,by simp,hk.2.2⟩,fun i b cs h=>by simp at h,rfl,fun i u s hu hs=>?_,fun i j u u' hu hu' hij=>?_,fun _ _ _ h=>by simp at h⟩,fun u hu g hg=>.inl ?_,⟨hB.size,hB.os,hB.tape,Nat.le_refl _,hB.output,fun k hk _ _=>hB.block k hk⟩⟩
 ·cases i with
  |zero=>
   simp only[List.getElem?_cons_zero,Option.some.injEq] at hu hs
   subst hu;subst hs
   exact⟨.of (isM_lt (by decide)) ⟨_,by simpa[rowsF] using ownsRow_base_a hown (Nat.zero_le _),irows⟩,fun r hr=>by simp[rowsF,iRow] at hr;obtain⟨x,_,rfl⟩:=hr;rfl⟩
  |succ i=>simp at hu
 ·cases i with
  |zero=>cases j with
   |zero=>exact absurd rfl hij
   |succ j=>simp at hu'
  |succ i=>simp at hu
 ·have:u=v:=by simpa using hu
  subst this
  rcases hown.2 with ⟨rfl,_⟩ |⟨g',cap,cur,rfl,hge,_⟩
  ·cases hg
  ·cases hg;exact hge
theorem sorted_post {w w':World} {ok:Nat→Prop} {v:Value} {l:List Int} (hb:∀b,ok b→b < w.heap.size) (hown:w'.ownsRow w.heap.size 3 1 v l.length (l.map encZ)) (hB:Below w.heap.size w w'):
  ∃v' iv',Ending.returned v=.returned v'∧RA w' (okn ok [] iv' w w') (ioPl [] iv') (.d (.slice (rowsF (iRow .i64) l))) v'∧FnPre w' (okn ok [] iv' w w') [] iv' [] []∧(∀u∈iv',∀g,u.blk=some g→w.heap.size≤g∨∃v∈([]:List Value),v.blk=some g)∧Frm [] [] w w':=by
 refine⟨v,[],rfl,.d ?_,⟨rfl,List.nodup_nil,fun k hk=>⟨hk.2.1,by simp,hk.2.2⟩,fun i b cs h=>by simp at h,rfl,fun i u s hu hs=>by simp at hu,fun i j u u' hu hu' hij=>by simp at hu,fun _ h=>by simp at h⟩,fun u hu=>by simp at hu,⟨hB.size,hB.os,hB.tape,Nat.le_refl _,hB.output,fun k hk _ _=>hB.block k hk⟩⟩
 refine own_rd (rows:=rowsF (iRow .i64) l) (ok:=okn ok [] [] w w') (by simpa[rowsF] using hown) (fun r hr=>by simp[rowsF,iRow] at hr;obtain⟨x,_,rfl⟩:=hr;rfl) irows (fun _ h=>h) fun g hg=>?_
 rcases hown.2 with ⟨rfl,_⟩ |⟨g',cap,cur,rfl,hge,hw,_⟩
 ·cases hg
 ·cases hg
  exact⟨.inr (.inl hge),(Array.getElem?_eq_some_iff.1 hw).1,fun u hu=>by simp at hu⟩
theorem sortedK_ok {g:FuncId} {e z:Nat} {ν:Type} {gv:ν→List D} {m:List (Int×ν)} (hka:(⟨e,z,rowsF (mRow (iRow .i64) gv) m⟩:VS).ka=false) (hkz:(⟨e,z,rowsF (mRow (iRow .i64) gv) m⟩:VS).kz=1)
  (hS:∀{w:World} {Bm Bo b:Nat} {es:Array MapEntry} {clock:Nat} {xs:List Int} (_:Bm < w.heap.size) (_:w.cell? ⟨Bm,Bo,none⟩=some (.map (some b))) (_:w.heap[b]? =some (.map es clock)) (_:es.toList.map (·.key)=xs.map encZ) (_:∀x∈es.toList,x.born < clock) (_:(es.toList.map (·.born)).Nodup) (_:xs.length≤1000000),
   Calls Tryz.prog 46 #[.func (.func g) #[] #[.pointer (some ⟨Bm,Bo,none⟩)]] w fun e w'=>∃(v:Value),e=.returned v∧w'.ownsRow w.heap.size 3 1 v xs.length ((xs.mergeSort fun x y=>decide (x≤y)).map encZ)∧Below w.heap.size w w')
  (hl:m.length≤1000000):FnOK Tryz.prog 46 [] [.fn g [.cptr [.mp e z (rowsF (mRow (iRow .i64) gv) m)] 0]] (.d (.slice (rowsF (iRow .i64) ((m.map (·.1)).mergeSort fun x y=>decide (x≤y))))) []:=by
 intro w ok io iv vs hpre hvs hargs _
 have hio:io=[]:=List.eq_nil_of_length_eq_zero (by simpa using hpre.len)
 have hiv:iv=[]:=List.eq_nil_of_length_eq_zero (by simpa using hpre.lenv)
 subst hio;subst hiv
 obtain⟨v0,rfl,hra⟩:=one_arg hvs hargs
 obtain⟨Bm,Bo,b,es,clock,rfl,hcell,hokB,hb,hokb,hM⟩:=cap_map hra
 have hxs:=keys_of hka hkz rfl hM
 refine(hS (hpre.okb _ hokB).1 hcell hb hxs hM.born hM.nodup (by simpa using hl)).mono fun e w' ⟨v,he,hown,hB⟩=>?_
 subst he
 exact sorted_post (fun b hb=>(hpre.okb b hb).1) (by rw[List.length_mergeSort];exact hown) hB
theorem sYSortedA_ok {m:List (Int×Int)} (hl:m.length≤1000000):FnOK Tryz.prog 46 [] [.fn 85 [.cptr [.mp (mTag 80 1 false false) 2 (rowsF (mRow (iRow .i64) (iRow .i64)) m)] 0]] (.d (.slice (rowsF (iRow .i64) ((m.map (·.1)).mergeSort fun x y=>decide (x≤y))))) []:=
 sortedK_ok (tag_ka 80 1 false false 2 _) (tag_kz 80 (by decide) false false 2 _) keysA_sorted hl
theorem sYSortedB_ok {m:List (Int×Bool)} (hl:m.length≤1000000):FnOK Tryz.prog 46 [] [.fn 89 [.cptr [.mp (mTag 75 1 false false) 2 (rowsF (mRow (iRow .i64) bRow) m)] 0]] (.d (.slice (rowsF (iRow .i64) ((m.map (·.1)).mergeSort fun x y=>decide (x≤y))))) []:=
 sortedK_ok (tag_ka 75 1 false false 2 _) (tag_kz 75 (by decide) false false 2 _) keysB_sorted hl
end Go.Vl
