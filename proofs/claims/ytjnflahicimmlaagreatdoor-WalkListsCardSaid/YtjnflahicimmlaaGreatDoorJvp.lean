/- maps.Values and maps.Keys of the given program as iterators, entry by entry. Conditions: none. -/
import Derived.Test.YtjnflahicimmlaaGreatDoorJf
import Derived.Test.YtjnflahicimmlaaGreatDoorJits
import Derived.Shelf.SlIterI.Sorted
import Derived.Test.YtjnflahicimmlaaGreatDoorJsl
import Derived.Test.YtjnflahicimmlaaGreatDoorVmCc
set_option maxHeartbeats 1000000
set_option linter.unusedSimpArgs false
set_option linter.unusedVariables false
namespace Go.Vl
open Go Go.Proofs Go.RowKit Go.Maps Go.Sort Go.Shelf
section
variable {P:Program} {F:Fence} {n:Nat} {o:Oper} {ops:Array Oper} {rest:List Oper} {a:Act} {w:World} {Q:Exit→Act→World→Prop}
theorem Ju (hg:o.guard=none) (m:Operand) (t:TypeId) (sB:o.op=Op.range t m) (k e:TypeId) (ht:P.underlying t=some (.map k e)) (b:Nat) (es:Array MapEntry) (clock:Nat)
  (hm:a.eval m=.map (some b)) (hb:w.heap[b]? =some (.map es clock)) (hK:wpListIn F n P ops Q rest (a.put o.dst (.pointer (some ⟨w.heap.size,0,none⟩))) (w.alloc (.mapIter (some b) clock #[] clock))):wpListIn F n P ops Q (o::rest) a w:=by
 refine wpListIn_plain hg λK' Qz=>?_
 unfold Oper.wpIn;refine⟨by simp[Oper.about,sB],?_⟩;rw[Oper.semAt_plain F _ _ (by rw[sB];intro c wP;cases wP)];simp[execOp,sB,hm,run_range_map (P:=P) w t k e b es clock ht hb,Result.andThen, -World.alloc_eq];exact Qz _ _ hK
theorem Nr (hg:o.guard=none) (it:Operand) (sB:o.op=Op.next it false) (r b since c0:Nat) (seen:Array Nat) (es:Array MapEntry) (clock:Nat) (Hw:a.eval it=.pointer (some ⟨r,0,none⟩))
  (hr:w.heap[r]? =some (.mapIter (some b) since seen c0)) (hb:w.heap[b]? =some (.map es clock)) (hold:∀x∈es.toList,x.born < since) (hsc:since≤c0)
  (h0:(leftOf es seen).size=0→wpListIn F n P ops Q rest (a.put o.dst (.tuple #[.bool false])) w)
  (h1:∀(en:MapEntry) (w1:World),en∈es.toList→seen.contains en.born=false→(w1=w∨w1=w.drew)→wpListIn F n P ops Q rest (a.put o.dst (.tuple #[.bool true,en.key,en.val])) (ChangeMaps.setBlock w1 r (.mapIter (some b) since (seen.push en.born) clock))):
  wpListIn F n P ops Q (o::rest) a w:=by
 refine wpListIn_plain hg λK' Qz=>?_
 unfold Oper.wpIn;refine⟨by simp[Oper.about,sB],?_⟩;rw[Oper.semAt_plain F _ _ (by rw[sB];intro c wP;cases wP)];rcases run_next_at (P:=P) w o.type r b since c0 seen es clock hr hb hold hsc with ⟨hz,gT⟩ |⟨en,qw,w1,xf,gT⟩
 ·simp[execOp,sB,Hw,gT,Result.andThen]
  exact Qz _ _ (h0 hz)
 ·have rX:en∈es.toList∧seen.contains en.born=false:=by
   unfold leftOf at qw;simp only[Array.toList_filter,bP,dF] at qw;exact qw
  simp[execOp,sB,Hw,gT,Result.andThen];exact Qz _ _ (h1 en w1 rX.1 rX.2 xf)
end
theorem Ca:∀(es:List MapEntry) (seen:Array Nat) (en:MapEntry),(es.map (·.born)).Nodup→en∈es→seen.contains en.born=false→
  ∃l1 l2,(es.filter λe=>!seen.contains e.born)=l1++en::l2∧(es.filter λe=>!(seen.push en.born).contains e.born)=l1++l2
 |[],_,_,_,h,_=>by cases h
 |e0::es,seen,en,hn,he,hs=>by
  rw[aW,dZ] at hn;by_cases h0:en=e0
  ·subst h0
   refine⟨[],es.filter λe=>!seen.contains e.born,by rw[List.filter_cons_of_pos (by rw[hs];rfl)];rfl,?_⟩;rw[List.filter_cons_of_neg (by simp[gW])];refine iW λx hx=>?_
   have iA:x.born≠en.born:=λh=>hn.1 (h▸aG.2 ⟨x,hx,rfl⟩)
   simp[gW,iA]
  ·have he':en∈es:=(aZ.1 he).resolve_left h0
   have iA:e0.born≠en.born:=λh=>hn.1 (h▸aG.2 ⟨en,he',rfl⟩)
   obtain⟨l1,l2,h1,h2⟩:=Ca es seen en hn.2 he' hs;have hc:(seen.push en.born).contains e0.born=seen.contains e0.born:=by simp[gW,iA]
   rw[ez,ez,hc,h1,h2];split
   ·exact⟨e0::l1,l2,rfl,rfl⟩
   ·exact⟨l1,l2,rfl,rfl⟩
theorem EY {wr w1:World} {r b:Nat} {m0:Option Nat} {s0 c0 clock:Nat} {q0:Array Nat} {es:Array MapEntry} (hr:wr.heap[r]? =some (.mapIter m0 s0 q0 c0)) (hb:wr.heap[b]? =some (.map es clock)) (xf:w1=wr∨w1=wr.drew)
  (m1:Option Nat) (s1 c1:Nat) (q1:Array Nat):∃w2,ChangeMaps.setBlock w1 r (.mapIter m1 s1 q1 c1)=w2∧w2.heap[r]? =some (.mapIter m1 s1 q1 c1)∧w2.heap[b]? =some (.map es clock)∧wr.grownBy w2 (some r):=by
 have iN:r < wr.heap.size:=(aL.1 hr).1;have BG:b≠r:=λe=>by rw[e,hr] at hb;cases hb
 have h1:w1.heap=wr.heap∧w1.os=wr.os∧w1.tape=wr.tape∧w1.output=wr.output:=by
  rcases xf with rfl |rfl <;> exact⟨rfl,rfl,rfl,rfl⟩
 obtain⟨e1,e2,e3,e4⟩:=h1;have iA:∀k,k≠r→(ChangeMaps.setBlock w1 r (.mapIter m1 s1 q1 c1)).heap[k]? =wr.heap[k]? :=λk hk=>by
  unfold ChangeMaps.setBlock;simp[eK,eN hk,e1]
 refine⟨_,rfl,?_,(iA b BG).trans hb,⟨?_,?_,?_,?_,λk hk sC=>iA k (λe=>sC (by rw[e]))⟩⟩
 ·unfold ChangeMaps.setBlock
  simp[eK,e1,iN]
 ·unfold ChangeMaps.setBlock;first |exact e2 |exact e3 |exact e4
 ·unfold ChangeMaps.setBlock;first |exact e2 |exact e3 |exact e4
 ·unfold ChangeMaps.setBlock;first |exact e2 |exact e3 |exact e4
 ·unfold ChangeMaps.setBlock;simp[e1]
set_option maxRecDepth 100000 in
theorem LW (F:Fence) (n:Nat) (h10:F.fn 114) (hro:F.round=none) (hn:1≤n) (l Bm Bo b:Nat) (es:Array MapEntry) (clock:Nat) (xs:List Int) (KB:es.toList.map (·.val)=xs.map encZ) (J:List Int→World→Prop)
  (hY:∀pre x W,J pre W→pre.length < xs.length→YieldAt F (n - 1) Tryz.prog l #[encZ x] W λe W'=>e=.returned (.bool true)∧J (pre++[x]) W'∧KeepsWalks W W')
  (W:World) (hJ:AbidesFrom W.heap.size J) (hm:W.cell? ⟨Bm,Bo,none⟩=some (.map (some b))) (hb:W.heap[b]? =some (.map es clock)) (pN:∀x∈es.toList,x.born < clock) (sI:(es.toList.map (·.born)).Nodup) (h0:J [] W):
  CallsIn F n Tryz.prog 114 #[.func (.yield l) #[] #[],.pointer (some ⟨Bm,Bo,none⟩)] W λe W'=>(∃v,e=.returned v)∧∃ss:List Int,ss.Perm xs∧J ss W':=by
 have t81:=Tryz.underlying134;have Ad:b < W.heap.size:=(aL.1 hb).1;refine callsIn_of_wp Tryz.func114 rfl h10 ?_ hro;simp only[Tryz.ntmps114,mD,cQ,List.length_nil,Nat.reduceAdd,Nat.reduceSub,Array.replicate_succ,Array.replicate_zero,List.push_toArray,List.append_toArray,di,cv]
 gi_wp2_with (first
  |(gi_at_range;refine Ju rfl _ 134 rfl _ _ t81 b es clock rfl hb ?_)
  |fail)
 go_frame
 gi_loopw [4] (λ_ wr=>∃(seen:Array Nat) (ss zs:List Int),wr.heap[W.heap.size]? =some (.mapIter (some b) clock seen clock)∧wr.heap[b]? =some (.map es clock)∧(es.toList.filter λe=>!seen.contains e.born).map (·.val)=zs.map encZ∧(ss++zs).Perm xs∧J ss wr)
  (λ_ wr=>Kn wr b W.heap.size)
 case atStart=>exact⟨#[],[],xs,gE W _,(mc W _ Ad).trans hb,by rw[fC.2 (λ_ _=>by simp)];exact KB,ti _,hJ [] W _ none h0 (kW W _ _) (λr e=>by cases e)⟩
 case round=>
  obtain⟨seen,ss,zs,hr,BG,hz,hp,Zp⟩:=hrel
  gi_wp2_with (first
   |(gi_at_next;refine Nr rfl _ rfl W.heap.size b clock clock seen es clock rfl hr BG pN (aM _) ?_ ?_)
   |fail)
  ·intro LF
   gi_wp2
   go_end0
   have hzn:zs=[]:=by
    unfold leftOf at LF;rw[mg] at LF;rw[oz.2 (λe he=>by simpa using LF e (by simpa using he))] at hz;simpa using hz.symm
   subst hzn;exact⟨⟨_,rfl⟩,ss,by simpa using hp,Zp⟩
  ·intro en w1 qw zA xf
   obtain⟨w2,e2,CX,pO,vR⟩:=EY hr BG xf (some b) clock clock (seen.push en.born);have Ck:en∈es.toList:=by simpa using qw
   have wM:seen.contains en.born=false:=by simpa using zA
   have hJ2:J ss w2:=hJ ss wr w2 (some W.heap.size) Zp vR (λr e=>by cases e;exact⟨aM _,_,hr,rfl⟩);have MQ:(Instr.entry (.pointer (some ⟨W.heap.size,0,none⟩))).run Tryz.prog w2=.ok (.tuple #[en.key,en.val]) w2:=run_entry_at (P:=Tryz.prog) w2 W.heap.size b clock seen es clock en CX pO Ck sI;obtain⟨l1,l2,k1,k2⟩:=Ca es.toList seen en sI Ck wM;rw[k1,bV,aW] at hz;obtain⟨z1,z2',rfl,g1,g2⟩:=List.map_eq_append_iff.1 hz.symm;obtain⟨z,z2,rfl,g3,g4⟩:=List.map_eq_cons_iff.1 g2;have iN:=vI Ck wM;have uN:=tR hr BG;obtain⟨fn,tmps,assign,body,hy,hR⟩:=hY ss z w2 hJ2 (by have:=hp.length_eq;simp at this;omega);have sA:en.val=encZ z:=g3.symm;rw[sA] at MQ;rw[e2,sA];have hA:Aside _:=And.intro CX (And.intro pO (And.intro k2 (And.intro g1 (And.intro g4 (And.intro hp (And.intro uN iN))))));clear hr BG CX pO k1 k2 g1 g2 g4 hp uN iN hz xf e2 vR qw zA wM Ck g3 sA Zp hJ2;generalize en.key=kk at MQ ⊢
   gi_wp2
   refine hR.mono ?_
   rintro e W3 ⟨rfl,hJ3,hk3⟩
   gi_wp2
   obtain⟨CX,pO,k2,g1,g4,hp,uN,iN⟩:=hA.out;have Ji:=hk3.same _ _ CX rfl;have FX:=hk3.same _ _ pO rfl
   go_roundw
   case rel=>
    refine⟨seen.push en.born,ss++[z],z1++z2,Ji,FX,by rw[k2,bV,bV,g1,g4],?_,hJ3⟩;refine List.Perm.trans ?_ hp;rw[eX];show(ss++z::(z1++z2)).Perm (ss++(z1++z::z2));exact(nj.symm).append_left ss
   case measure=>rw[tR Ji FX,uN];exact iN
theorem HP {w:World} {Bm Bo b:Nat} {es:Array MapEntry} {clock:Nat} {xs:List Int} (UB:Bm < w.heap.size) (hm:w.cell? ⟨Bm,Bo,none⟩=some (.map (some b))) (hb:w.heap[b]? =some (.map es clock)) (KB:es.toList.map (·.val)=xs.map encZ) (pN:∀x∈es.toList,x.born < clock) (sI:(es.toList.map (·.born)).Nodup) (n:Nat) (hn:1≤n):
  SeqGives Fence.wide n Tryz.prog 114 #[.pointer (some ⟨Bm,Bo,none⟩)] encZ (λss=>ss.Perm xs) xs.length w:=λl J W hW hJ hY h0=>by
 have Ad:=(aL.1 hb).1;exact LW Fence.wide n trivial rfl hn l Bm Bo b es clock xs KB J hY W hJ ((hW.cell (p:=⟨Bm,Bo,none⟩) UB).trans hm) ((hW.block b Ad).trans hb) pN sI h0
theorem HQ (mb:Option Nat) (w:World):Calls Tryz.prog 90 #[.map mb] w λe w'=>e=.returned (.func (.func 114) #[] #[.pointer (some ⟨w.heap.size,0,none⟩)])∧w'=w.alloc (.cells #[.map mb] 134):=by
 have t81:=Tryz.underlying134
 go_enter Tryz.func90,Tryz.ntmps90
 go_wp2
 go_ret
 exact⟨rfl,rfl⟩
theorem Gw {w:World} {Bm Bo b:Nat} {es:Array MapEntry} {clock:Nat} {xs:List Int} (UB:Bm < w.heap.size) (hm:w.cell? ⟨Bm,Bo,none⟩=some (.map (some b))) (hb:w.heap[b]? =some (.map es clock)) (KB:es.toList.map (·.val)=xs.map encZ) (pN:∀x∈es.toList,x.born < clock) (sI:(es.toList.map (·.born)).Nodup) (hl:xs.length≤1000000):
  Calls Tryz.prog 89 #[.func (.func 114) #[] #[.pointer (some ⟨Bm,Bo,none⟩)]] w λe w'=>∃(v:Value) (ss:List Int),e=.returned v∧ss.Perm xs∧w'.ownsRow w.heap.size 3 1 v ss.length (ss.map encZ)∧(v=.slice none 0 0↔ss=[])∧Below w.heap.size w w':=by
 have h:=AnyZI.collect_in Tryz.adj Fence.wide 5 trivial trivial rfl (by omega) 114 #[.pointer (some ⟨Bm,Bo,none⟩)] trivial (enters_of Tryz.func114 (by kernel_rfl) rfl) _ xs.length (by simp only[maxLen];omega) (by omega) w (HP UB hm hb KB pN sI _ (by omega));exact callsIn_wide.1 h
end Go.Vl
namespace Go.Vl
open Go Go.Proofs Go.RowKit Go.Maps Go.Sort Go.Shelf
set_option maxRecDepth 100000 in
theorem Py (F:Fence) (n:Nat) (h10:F.fn 93) (hro:F.round=none) (hn:1≤n) (l Bm Bo b:Nat) (es:Array MapEntry) (clock:Nat) (xs:List Int) (KB:es.toList.map (·.key)=xs.map encZ) (J:List Int→World→Prop)
  (hY:∀pre x W,J pre W→pre.length < xs.length→YieldAt F (n - 1) Tryz.prog l #[encZ x] W λe W'=>e=.returned (.bool true)∧J (pre++[x]) W'∧KeepsWalks W W')
  (W:World) (hJ:AbidesFrom W.heap.size J) (hm:W.cell? ⟨Bm,Bo,none⟩=some (.map (some b))) (hb:W.heap[b]? =some (.map es clock)) (pN:∀x∈es.toList,x.born < clock) (sI:(es.toList.map (·.born)).Nodup) (h0:J [] W):
  CallsIn F n Tryz.prog 93 #[.func (.yield l) #[] #[],.pointer (some ⟨Bm,Bo,none⟩)] W λe W'=>(∃v,e=.returned v)∧∃ss:List Int,ss.Perm xs∧J ss W':=by
 have tM:=Tryz.underlying73;have Ad:b < W.heap.size:=(aL.1 hb).1;refine callsIn_of_wp Tryz.func93 rfl h10 ?_ hro;simp only[Tryz.ntmps93,mD,cQ,List.length_nil,Nat.reduceAdd,Nat.reduceSub,Array.replicate_succ,Array.replicate_zero,List.push_toArray,List.append_toArray,di,cv]
 gi_wp2_with (first
  |(gi_at_range;refine Ju rfl _ 73 rfl _ _ tM b es clock rfl hb ?_)
  |fail)
 go_frame
 gi_loopw [3] (λ_ wr=>∃(seen:Array Nat) (ss zs:List Int),wr.heap[W.heap.size]? =some (.mapIter (some b) clock seen clock)∧wr.heap[b]? =some (.map es clock)∧(es.toList.filter λe=>!seen.contains e.born).map (·.key)=zs.map encZ∧(ss++zs).Perm xs∧J ss wr)
  (λ_ wr=>Kn wr b W.heap.size)
 case atStart=>exact⟨#[],[],xs,gE W _,(mc W _ Ad).trans hb,by rw[fC.2 (λ_ _=>by simp)];exact KB,ti _,hJ [] W _ none h0 (kW W _ _) (λr e=>by cases e)⟩
 case round=>
  obtain⟨seen,ss,zs,hr,BG,hz,hp,Zp⟩:=hrel
  gi_wp2_with (first
   |(gi_at_next;refine Nr rfl _ rfl W.heap.size b clock clock seen es clock rfl hr BG pN (aM _) ?_ ?_)
   |fail)
  ·intro LF
   gi_wp2
   go_end0
   have hzn:zs=[]:=by
    unfold leftOf at LF;rw[mg] at LF;rw[oz.2 (λe he=>by simpa using LF e (by simpa using he))] at hz;simpa using hz.symm
   subst hzn;exact⟨⟨_,rfl⟩,ss,by simpa using hp,Zp⟩
  ·intro en w1 qw zA xf
   obtain⟨w2,e2,CX,pO,vR⟩:=EY hr BG xf (some b) clock clock (seen.push en.born);have Ck:en∈es.toList:=by simpa using qw
   have wM:seen.contains en.born=false:=by simpa using zA
   have hJ2:J ss w2:=hJ ss wr w2 (some W.heap.size) Zp vR (λr e=>by cases e;exact⟨aM _,_,hr,rfl⟩);have MQ:(Instr.entry (.pointer (some ⟨W.heap.size,0,none⟩))).run Tryz.prog w2=.ok (.tuple #[en.key,en.val]) w2:=run_entry_at (P:=Tryz.prog) w2 W.heap.size b clock seen es clock en CX pO Ck sI;obtain⟨l1,l2,k1,k2⟩:=Ca es.toList seen en sI Ck wM;rw[k1,bV,aW] at hz;obtain⟨z1,z2',rfl,g1,g2⟩:=List.map_eq_append_iff.1 hz.symm;obtain⟨z,z2,rfl,g3,g4⟩:=List.map_eq_cons_iff.1 g2;have iN:=vI Ck wM;have uN:=tR hr BG;obtain⟨fn,tmps,assign,body,hy,hR⟩:=hY ss z w2 hJ2 (by have:=hp.length_eq;simp at this;omega);have sA:en.key=encZ z:=g3.symm;rw[sA] at MQ;rw[e2,sA];have hA:Aside _:=And.intro CX (And.intro pO (And.intro k2 (And.intro g1 (And.intro g4 (And.intro hp (And.intro uN iN))))));clear hr BG CX pO k1 k2 g1 g2 g4 hp uN iN hz xf e2 vR qw zA wM Ck g3 sA Zp hJ2;generalize en.val=kk at MQ ⊢
   gi_wp2
   refine hR.mono ?_
   rintro e W3 ⟨rfl,hJ3,hk3⟩
   gi_wp2
   obtain⟨CX,pO,k2,g1,g4,hp,uN,iN⟩:=hA.out;have Ji:=hk3.same _ _ CX rfl;have FX:=hk3.same _ _ pO rfl
   go_roundw
   case rel=>
    refine⟨seen.push en.born,ss++[z],z1++z2,Ji,FX,by rw[k2,bV,bV,g1,g4],?_,hJ3⟩;refine List.Perm.trans ?_ hp;rw[eX];show(ss++z::(z1++z2)).Perm (ss++(z1++z::z2));exact(nj.symm).append_left ss
   case measure=>rw[tR Ji FX,uN];exact iN
theorem Ku {w:World} {Bm Bo b:Nat} {es:Array MapEntry} {clock:Nat} {xs:List Int} (UB:Bm < w.heap.size) (hm:w.cell? ⟨Bm,Bo,none⟩=some (.map (some b))) (hb:w.heap[b]? =some (.map es clock)) (KB:es.toList.map (·.key)=xs.map encZ) (pN:∀x∈es.toList,x.born < clock) (sI:(es.toList.map (·.born)).Nodup) (n:Nat) (hn:1≤n):
  SeqGives Fence.wide n Tryz.prog 93 #[.pointer (some ⟨Bm,Bo,none⟩)] encZ (λss=>ss.Perm xs) xs.length w:=λl J W hW hJ hY h0=>by
 have Ad:=(aL.1 hb).1;exact Py Fence.wide n trivial rfl hn l Bm Bo b es clock xs KB J hY W hJ ((hW.cell (p:=⟨Bm,Bo,none⟩) UB).trans hm) ((hW.block b Ad).trans hb) pN sI h0
theorem Kv (mb:Option Nat) (w:World):Calls Tryz.prog 58 #[.map mb] w λe w'=>e=.returned (.func (.func 93) #[] #[.pointer (some ⟨w.heap.size,0,none⟩)])∧w'=w.alloc (.cells #[.map mb] 73):=by
 have tM:=Tryz.underlying73
 go_enter Tryz.func58,Tryz.ntmps58
 go_wp2
 go_ret
 exact⟨rfl,rfl⟩
theorem Iw {w:World} {Bm Bo b:Nat} {es:Array MapEntry} {clock:Nat} {xs:List Int} (UB:Bm < w.heap.size) (hm:w.cell? ⟨Bm,Bo,none⟩=some (.map (some b))) (hb:w.heap[b]? =some (.map es clock)) (KB:es.toList.map (·.key)=xs.map encZ) (pN:∀x∈es.toList,x.born < clock) (sI:(es.toList.map (·.born)).Nodup) (hl:xs.length≤1000000):
  Calls Tryz.prog 57 #[.func (.func 93) #[] #[.pointer (some ⟨Bm,Bo,none⟩)]] w λe w'=>∃(v:Value),e=.returned v∧w'.ownsRow w.heap.size 3 1 v xs.length ((xs.mergeSort λx y=>decide (x≤y)).map encZ)∧Below w.heap.size w w':=by
 have h:=AnyZI.sorted_in Tryz.U1 Fence.wide 6 trivial trivial trivial trivial rfl (by omega) ⟨λfN off cap ss W hH hblk gS=>callsIn_wide.2 (Tryz.slices_Sort_int fN off cap ss W hH hblk gS),λp cap W=>callsIn_wide.2 (Tryz.slices_Sort_int_none p cap W)⟩ (enters_of Tryz.func92 (by kernel_rfl) rfl) 93 #[.pointer (some ⟨Bm,Bo,none⟩)] trivial (enters_of Tryz.func93 (by kernel_rfl) rfl) _ xs.length (by simp only[maxLen];omega) (by omega) w (Ku UB hm hb KB pN sI _ (by omega));refine(callsIn_wide.1 h).mono λe w' ⟨v,ss,he,hp,hr,_,hB⟩=>⟨v,he,?_,hB⟩
 rw[← hp.length_eq];have:(ss.mergeSort λx y=>decide (x≤y))=xs.mergeSort λx y=>decide (x≤y):=by
  refine ri (le:=λa b:Int=>a≤b) (λa b _ _ h1 h2=>by omega) ?_ ?_ (((iY ss _).trans hp).trans (iY xs _).symm)
  ·exact(jX (le:=λx y:Int=>decide (x≤y)) (λa b c h1 h2=>by simp only[bg] at h1 h2 ⊢;omega) (λa b=>by simp only[cj,bg];omega) ss).imp λ{a b} h=>by simpa using h
  ·exact(jX (le:=λx y:Int=>decide (x≤y)) (λa b c h1 h2=>by simp only[bg] at h1 h2 ⊢;omega) (λa b=>by simp only[cj,bg];omega) xs).imp λ{a b} h=>by simpa using h
 rw[← this];exact hr
end Go.Vl
namespace Go.Vl
open Go Go.Proofs Go.RowKit Go.Maps Go.Sort Go.Shelf
theorem Im {w:World} {ok:Nat→Prop} {vs:Array Value} {x:AV} (zw:vs.size=[x].length) (eZ:∀(i:Nat) (y:AV) (v:Value),[x][i]? =some y→vs[i]? =some v→RA w ok (dM [] []) y v):∃v,vs= #[v]∧RA w ok (dM [] []) x v:=by
 have h1:vs.size=1:=by simpa using zw
 have N':vs[0]? =some vs[0]:=bp (by omega);refine⟨vs[0],?_,eZ 0 _ _ rfl N'⟩;refine sw (by simp[h1]) λi h1 h2=>?_
 have:i=0:=by simp at h2;omega
 subst this;rfl
theorem TN {f g:FuncId} {T:TypeId} {e z:Nat} {rows:List (List D)} (hC:∀(mb:Option Nat) (w:World),Calls Tryz.prog f #[.map mb] w λen w'=>en=.returned (.func (.func g) #[] #[.pointer (some ⟨w.heap.size,0,none⟩)])∧w'=w.alloc (.cells #[.map mb] T)):
  dY Tryz.prog f [] [.d (.mp e z rows)] (.fn g [.cN [.mp e z rows] 0]) []:=by
 intro w ok io iv vs dN zw eZ _;have xg:io=[]:=aI (by simpa using dN.len);have Hv:iv=[]:=aI (by simpa using dN.xj);subst xg;subst Hv;obtain⟨v,rfl,tV⟩:=Im zw eZ;cases tV with
 |d rD=>
  obtain⟨b,es,clock,rfl,hb,KJ,_,hM⟩:=rD.zR;refine(hC (some b) w).mono λen w' ⟨he,hw⟩=>?_
  subst hw;have FU:(w.alloc (.cells #[.map (some b)] T)).heap.size=w.heap.size+1:=by unfold World.alloc;simp
  have sW:∀q:Addr,ok q.block→si (w.alloc (.cells #[.map (some b)] T)) q=si w q:=λq hq=>cT (mc w _ (dN.px _ hq).1)
  have gD:∀k,ok k→Av ok [] [] w (w.alloc (.cells #[.map (some b)] T)) k:=λk hk=>⟨.inl hk,by have:=(dN.px k hk).1;omega,λu hu=>by simp at hu⟩
  refine⟨_,[],he,.fn rfl λi a v ha hv=>?_,⟨rfl,dL,λk hk=>⟨hk.2.1,by simp,λv hv=>by simp at hv⟩,λi b cs h=>by simp at h,rfl,λi v s h=>by simp at h,λi j v u h=>by simp at h,λv h=>by simp at h⟩,λu hu=>by simp at hu,⟨by omega,rfl,rfl,aM _,rfl,λk hk _ _=>mc w _ hk⟩⟩;have:i=0:=by have:=(aj.1 ha).1;simpa using this
  subst this;simp at ha hv;subst ha;subst hv;refine RA.cN (a:=⟨w.heap.size,0,none⟩) (o:=0) (λ_=>.map (some b)) ⟨.inr (.inl (aM _)),by show w.heap.size < _;omega,λu hu=>by simp at hu⟩ (λj hj=>?_) (λj x hx=>?_)
  ·have:j=0:=by simpa using hj
   subst this;show World.cell? _ ⟨w.heap.size,0,none⟩=_;unfold World.cell?;rw[gE];rfl
  ·have:j=0:=by have:=(aj.1 hx).1;simpa using this
   subst this;simp at hx;subst hx;exact rD.mono sW gD
theorem ER {e z:Nat} {rows:List (List D)}:dY Tryz.prog 90 [] [.d (.mp e z rows)] (.fn 114 [.cN [.mp e z rows] 0]) []:=TN HQ
theorem Gh {e z:Nat} {rows:List (List D)}:dY Tryz.prog 58 [] [.d (.mp e z rows)] (.fn 93 [.cN [.mp e z rows] 0]) []:=TN Kv
theorem OF {w:World} {ok:Nat→Prop} {p:Pl} {g:FuncId} {e z:Nat} {rows:List (List D)} {v:Value} (h:RA w ok p (.fn g [.cN [.mp e z rows] 0]) v):
  ∃(Bm Bo b:Nat) (es:Array MapEntry) (clock:Nat),v=.func (.func g) #[] #[.pointer (some ⟨Bm,Bo,none⟩)]∧w.cell? ⟨Bm,Bo,none⟩=some (.map (some b))∧ok Bm∧w.heap[b]? =some (.map es clock)∧ok b∧jd w ok ⟨e,z,rows⟩ es clock:=by
 cases h with
 |fn hl h=>
  rename_i cs;have h1:cs.size=1:=by simpa using hl
  have N':cs[0]? =some cs[0]:=bp (by omega);have tV:=h 0 _ _ rfl N';have je:cs= #[cs[0]]:=by
   refine sw (by simp[h1]) λi h1 h2=>?_
   have:i=0:=by simp at h2;omega
   subst this;rfl
  generalize cs[0]=c0 at tV je;subst je;generalize hx:AV.cN [D.mp e z rows] 0=x at tV;cases tV with
  |cN vs gD eY hd=>
   rename_i row o a;cases hx;have h2:=eY 0 (by simp);have h3:=hd 0 _ rfl;generalize vs 0=m at h2 h3;obtain⟨b,es,clock,rfl,hb,KJ,_,hM⟩:=h3.zR;rw[add_zero] at h2;have hs:a.spot=none:=by
    unfold World.cell? at h2;split at h2
    ·split at h2
     ·cases h2
     ·rename_i hn;simpa using hn
    ·cases h2
   obtain⟨Bm,Bo,sp⟩:=a;simp only at hs;subst hs;exact⟨Bm,Bo,b,es,clock,rfl,h2,gD,hb,KJ,hM⟩
  |_=>cases hx
attribute [local irreducible] VS.kz VS.va VS.ka
theorem VD {w:World} {ok:Nat→Prop} {s:VS} {ν:Type} {g:ν→List D} {m:List (Int×ν)} {es:Array MapEntry} {clock:Nat} (hka:s.ka=false) (Jj:s.kz=1) (hs:s.rows=ak (bB (aH .i64) g) m) (hM:jd w ok s es clock):es.toList.map (·.key)=(m.map (·.1)).map encZ:=by
 have hl:es.toList.length=m.length:=hM.key.1.trans (by rw[hs];simp[ak]);refine uy (by simpa using hl) λj h1 h2=>?_
 have hj:j < m.length:=by simpa using h2
 have IL:j < es.toList.length:=by simpa using h1
 have h:=(hM.key.2 j (bB (aH .i64) g m[j]) es.toList[j] (by rw[hs];exact Ec _ (ae hj)) (ae IL));rw[hka,Jj] at h;simp only[lp];generalize es.toList[j].key=v at h;obtain⟨d,e1,e2⟩:=h;cases e1;cases e2
 rfl
theorem UL {w:World} {ok:Nat→Prop} {s:VS} {m:List (ByteArray×Int)} {es:Array MapEntry} {clock:Nat} (hva:s.va=false) (Jj:s.kz=1) (hs:s.rows=ak (bB mW (aH .i64)) m) (hM:jd w ok s es clock):es.toList.map (·.val)=(m.map (·.2)).map encZ:=by
 have hl:es.toList.length=m.length:=hM.key.1.trans (by rw[hs];simp[ak]);refine uy (by simpa using hl) λj h1 h2=>?_
 have hj:j < m.length:=by simpa using h2
 have IL:j < es.toList.length:=by simpa using h1
 have h:=hM.val (show s.rows[j]? =some (bB mW (aH .i64) m[j]) by rw[hs];exact Ec _ (ae hj)) (ae IL);rw[hva,Jj] at h;clear hM hs hva Jj;simp only[lp];generalize es.toList[j].val=v at h;obtain⟨d,e1,e2⟩:=h;cases e1;cases e2
 rfl
theorem AF {m:List (ByteArray×Int)} (hm:m.length≤1000000):BD Tryz.prog 89 [.fn 114 [.cN [.mp (bL 134 1 false false) 2 (ak (bB mW (aH .i64)) m)] 0]] (λss:List Int=>ss.Perm (m.map (·.2))) (λ_=>.vec (wa 0)) (λss=>[⟨3,1,ak (aH .i64) ss⟩]):=by
 intro w ok vs dN zw eZ _;obtain⟨v0,rfl,tV⟩:=Im zw eZ;obtain⟨Bm,Bo,b,es,clock,rfl,eY,Y3,hb,KJ,hM⟩:=OF tV;have KB:=UL (s:=⟨bL 134 1 false false,2,ak (bB mW (aH .i64)) m⟩) (zG 134 1 false false 2 _) (sy 134 (by decide) false false 2 _) rfl hM;refine(Gw (dN.px _ Y3).1 eY hb KB hM.born hM.nodup (by simpa using hm)).mono λe w' ⟨v,ss,he,hp,eC,_,hB⟩=>?_
 refine⟨ss,hp,v,[v],he,RA.qS (Kx.2 (by simp)) (Kw rfl),⟨rfl,dL,λk hk=>⟨hk.2.1,by simp,hk.2.2⟩,λi b cs h=>by simp at h,rfl,λi u s hu hs=>?_,λi j u u' hu E8 rY=>?_,λ_ _ _ h=>by simp at h⟩,λu hu g hg=>.inl ?_,⟨hB.size,hB.os,hB.tape,aM _,hB.output,λk hk _ _=>hB.block k hk⟩⟩
 ·cases i with
  |zero=>
   simp only[aS,ba] at hu hs;subst hu;subst hs;exact⟨.of (pz (by decide)) ⟨_,by simpa[ak] using ownsRow_base_a eC (cE _),W6⟩,λr hr=>by simp[ak,aH] at hr;obtain⟨x,_,rfl⟩:=hr;rfl⟩
  |succ i=>simp at hu
 ·cases i with
  |zero=>cases j with
   |zero=>exact absurd rfl rY
   |succ j=>simp at E8
  |succ i=>simp at hu
 ·have:u=v:=by simpa using hu
  subst this;rcases eC.2 with ⟨rfl,_⟩ |⟨g',cap,cur,rfl,Of,_⟩
  ·cases hg
  ·cases hg;exact Of
end Go.Vl
