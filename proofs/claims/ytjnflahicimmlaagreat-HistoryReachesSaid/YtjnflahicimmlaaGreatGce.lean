/- What the given program's history.cycle answers, in plain words: objects are left out until each of those that stay names one that stays. Conditions: none. -/
import Derived.Test.YtjnflahicimmlaaGreatGno
import Derived.Test.YtjnflahicimmlaaGreatPlG
import Derived.Test.YtjnflahicimmlaaGreatVmRd
import Derived.Test.YtjnflahicimmlaaGreatVmLz
import Derived.Test.YtjnflahicimmlaaGreatTyG
import Derived.WalkKit
import Derived.Maps.Ext
import Derived.Maps.RangeWalk
import Derived.Laws.IdiomRangeMap
import Derived.Deep.LoopGhost
set_option linter.unusedSimpArgs false
set_option linter.unusedVariables false
namespace Go.Vl
open Go
def hasK (l:List (Int×zO)) (id:Int):Bool:=(mget inE l id).isSome
def leaveL (l:List (Int×zO)):List (Int×zO):=l.filter fun q=>(namesO q.2).any (hasK l)
def cycN:Nat→List (Int×zO)→List (Int×zO)
 |0,l=>l
 |n+1,l=>cycN n (leaveL l)
def cycB (l:List (Int×zO)):Bool:=!(cycN l.length l).isEmpty
open Classical in
noncomputable def hYcycle (a0:List (Int×zO)):Option Bool:=if(a0.map (·.1)).Nodup∧(∀q∈a0,fitO q.2=true) then some (cycB a0) else none
end Go.Vl
namespace Go.Vl
open Go
def keepB (m:List (Int×zO)) (q:Int×zO):Bool:=(namesO q.2).any (hasK m)
def selfSup (m:List (Int×zO)) (G:Int→Prop):Prop:=∀q∈m,G q.1→∃q'∈m,q'.1∈namesO q.2∧G q'.1
theorem hasK_iff {m:List (Int×zO)} {id:Int}:hasK m id=true↔∃q∈m,q.1=id:=by
 unfold hasK
 rw[mget_mem inE_eq,List.mem_map]
structure Pass (m0 m:List (Int×zO)):Prop where
 sub:m.Sublist m0
 sup:∀G:Int→Prop,selfSup m0 G→∀q∈m0,G q.1→q∈m
 fin:m.length < m0.length∨(m=m0∧∀q∈m,keepB m q=true)
structure PassI (m0 m:List (Int×zO)) (es:List MapEntry) (seen:Array Nat):Prop where
 sub:m.Sublist m0
 sup:∀G:Int→Prop,selfSup m0 G→∀q∈m0,G q.1→q∈m
 fin:m.length < m0.length∨(m=m0∧∀(j:Nat) (q:Int×zO) (en:MapEntry),m[j]? =some q→es[j]? =some en→seen.contains en.born=true→keepB m q=true)
theorem PassI.start (m0:List (Int×zO)) (es:List MapEntry):PassI m0 m0 es #[]:=
 ⟨List.Sublist.refl _,fun _ _ _ h _=>h,.inr ⟨rfl,fun j q en _ _ h=>by simp at h⟩⟩
theorem PassI.stay {m0 m:List (Int×zO)} {es:List MapEntry} {seen:Array Nat} (I:PassI m0 m es seen) (hn:(es.map (·.born)).Nodup) {j:Nat} {q:Int×zO} {en:MapEntry} (h1:m[j]? =some q) (h2:es[j]? =some en) (hk:keepB m q=true):PassI m0 m es (seen.push en.born):=by
 refine⟨I.sub,I.sup,I.fin.imp id fun ⟨e,h⟩=>⟨e,fun j' q' en' g1 g2 g3=>?_⟩⟩
 rw[Array.contains_push,Bool.or_eq_true] at g3
 rcases g3 with g3 |g3
 ·exact h j' q' en' g1 g2 g3
 ·have g4:en'.born=en.born:=by simpa using g3
  have hj:j'=j:=by
   obtain⟨a1,b1⟩:=List.getElem?_eq_some_iff.1 g2
   obtain⟨a2,b2⟩:=List.getElem?_eq_some_iff.1 h2
   have:=(List.nodup_iff_pairwise_ne.1 hn)
   rw[List.pairwise_map,List.pairwise_iff_getElem] at this
   rcases Nat.lt_trichotomy j' j with hlt |he |hlt
   ·exact absurd (by rw[b1,b2];exact g4) (this j' j a1 a2 hlt)
   ·exact he
   ·exact absurd (by rw[b1,b2];exact g4.symm) (this j j' a2 a1 hlt)
  subst hj
  rw[h1] at g1;cases g1
  exact hk
theorem PassI.drop {m0 m:List (Int×zO)} {es es':List MapEntry} {seen seen':Array Nat} (I:PassI m0 m es seen) (hn:(m0.map (·.1)).Nodup) {j:Nat} {q:Int×zO} (h1:m[j]? =some q) (hk:keepB m q=false):PassI m0 (m.eraseIdx j) es' seen':=by
 obtain⟨hj,e⟩:=List.getElem?_eq_some_iff.1 h1
 have hq:q∈m:=e▸List.getElem_mem hj
 refine⟨(List.eraseIdx_sublist _ _).trans I.sub,fun G hG q' hq' hg=>?_,.inl ?_⟩
 ·have hin:=I.sup G hG q' hq' hg
  have hne:q'≠q:=fun e2=>by
   subst e2
   obtain⟨q2,g1,g2,g3⟩:=hG q' hq' hg
   have:keepB m q'=true:=List.any_eq_true.2 ⟨q2.1,g2,hasK_iff.2 ⟨q2,I.sup G hG q2 g1 g3,rfl⟩⟩
   rw[this] at hk;cases hk
  obtain⟨i,hi,e2⟩:=List.getElem_of_mem hin
  have hij:i≠j:=fun e3=>by subst e3;exact hne (e2▸e)
  exact List.mem_eraseIdx_iff_getElem.2 ⟨i,hi,hij,e2⟩
 ·have:=I.sub.length_le
  rw[List.length_eraseIdx_of_lt hj];omega
theorem PassI.done {m0 m:List (Int×zO)} {es:List MapEntry} {seen:Array Nat} (I:PassI m0 m es seen) (hl:es.length=m.length) (hs:∀en∈es,seen.contains en.born=true):Pass m0 m:=by
 refine⟨I.sub,I.sup,I.fin.imp id fun ⟨e,h⟩=>⟨e,fun q hq=>?_⟩⟩
 obtain⟨j,hj,e2⟩:=List.getElem_of_mem hq
 have hj2:j < es.length:=by omega
 exact h j q es[j] (by rw[List.getElem?_eq_getElem hj,e2]) (List.getElem?_eq_getElem hj2) (hs _ (List.getElem_mem hj2))
theorem mfind_at {m:List (Int×zO)} (hn:(m.map (·.1)).Nodup) {j:Nat} {q:Int×zO} (h:m[j]? =some q):mfind inE q.1 m=some (j,q.2):=by
 induction m generalizing j with
 |nil=>simp at h
 |cons a m ih=>
  rw[List.map_cons,List.nodup_cons] at hn
  rw[mfind]
  cases j with
  |zero=>
   simp only[List.getElem?_cons_zero,Option.some.injEq] at h
   subst h
   rw[if_pos ((inE_eq _ _).2 rfl)]
  |succ j=>
   rw[List.getElem?_cons_succ] at h
   have hne:q.1≠a.1:=fun e=>hn.1 (e▸List.mem_map.2 ⟨q,List.mem_of_getElem? h,rfl⟩)
   rw[if_neg fun e=>hne ((inE_eq _ _).1 e),ih hn.2 h];rfl
theorem leaveL_sub (l:List (Int×zO)):(leaveL l).Sublist l:=List.filter_sublist ..
theorem cycN_sup:∀(n:Nat) (l:List (Int×zO)) (G:Int→Prop),selfSup l G→∀q∈l,G q.1→q∈cycN n l
 |0,_,_,_,_,hq,_=>hq
 |n+1,l,G,hG,q,hq,hg=>by
  have hin:∀q∈l,G q.1→q∈leaveL l:=fun q hq hg=>by
   obtain⟨q',a,b,c⟩:=hG q hq hg
   exact List.mem_filter.2 ⟨hq,List.any_eq_true.2 ⟨q'.1,b,hasK_iff.2 ⟨q',a,rfl⟩⟩⟩
  refine cycN_sup n (leaveL l) G (fun q1 h1 h2=>?_) q (hin q hq hg) hg
  obtain⟨q',a,b,c⟩:=hG q1 ((leaveL_sub l).subset h1) h2
  exact⟨q',hin q' a c,b,c⟩
theorem cycN_sub:∀(n:Nat) (l:List (Int×zO)),(cycN n l).Sublist l
 |0,_=>List.Sublist.refl _
 |n+1,l=>(cycN_sub n (leaveL l)).trans (leaveL_sub l)
theorem cycN_fix:∀(n:Nat) (l:List (Int×zO)),l.length≤n→leaveL (cycN n l)=cycN n l
 |0,l,h=>by have:l=[]:=List.eq_nil_of_length_eq_zero (by omega);subst this;rfl
 |n+1,l,h=>by
  by_cases e:leaveL l=l
  ·have:∀n,cycN n l=l:=fun n=>by
    induction n with
    |zero=>rfl
    |succ n ih=>rw[cycN,e,ih]
   rw[this,e]
  ·refine cycN_fix n (leaveL l) ?_
   have h1:=(leaveL_sub l).length_le
   have h2:(leaveL l).length≠l.length:=fun h2=>e ((leaveL_sub l).eq_of_length h2)
   omega
theorem key_uniq {l:List (Int×zO)} (hn:(l.map (·.1)).Nodup) {a b:Int×zO} (ha:a∈l) (hb:b∈l) (e:a.1=b.1):a=b:=by
 have h1:=mget_of inE_eq hn (show (a.1,a.2)∈l from ha)
 have h2:=mget_of inE_eq hn (show (b.1,b.2)∈l from hb)
 rw[e,h2] at h1
 exact Prod.ext e (Option.some.inj h1).symm
theorem keepB_iff {m:List (Int×zO)} {q:Int×zO}:keepB m q=true↔∃q'∈m,q'.1∈namesO q.2:=by
 unfold keepB
 rw[List.any_eq_true]
 constructor
 ·rintro⟨id,h1,h2⟩
  obtain⟨q',h3,rfl⟩:=hasK_iff.1 h2
  exact⟨q',h3,h1⟩
 ·rintro⟨q',h1,h2⟩
  exact⟨q'.1,h2,hasK_iff.2 ⟨q',h1,rfl⟩⟩
theorem core_iff {l:List (Int×zO)} (hn:(l.map (·.1)).Nodup) {m:List (Int×zO)} (hs:m.Sublist l) (hG:∀G:Int→Prop,selfSup l G→∀q∈l,G q.1→q∈m) (hf:∀q∈m,keepB m q=true):decide (0 < m.length)=cycB l:=by
 have part:∀c:List (Int×zO),c.Sublist l→(∀q∈c,keepB c q=true)→selfSup l fun id=>∃q∈c,q.1=id:=fun c hc hk q1 h1 ⟨q2,h2,e⟩=>by
  have:q2=q1:=key_uniq hn (hc.subset h2) h1 e
  subst this
  obtain⟨q',g1,g2⟩:=keepB_iff.1 (hk q2 h2)
  exact⟨q',hc.subset g1,g2,q',g1,rfl⟩
 have h1:cycN l.length l≠[]↔m≠[]:=by
  constructor
  ·intro h
   obtain⟨q,hq⟩:=List.exists_mem_of_ne_nil _ h
   have hfix:=cycN_fix l.length l (Nat.le_refl _)
   have hc:=cycN_sub l.length l
   generalize cycN l.length l=c at *
   exact List.ne_nil_of_mem (hG _ (part c hc fun q hq=>(List.mem_filter.1 (by rw[show (c.filter fun q=>(namesO q.2).any (hasK c))=c from hfix];exact hq:q∈c.filter fun q=>(namesO q.2).any (hasK c))).2) q (hc.subset hq) ⟨q,hq,rfl⟩)
  ·intro h
   obtain⟨q,hq⟩:=List.exists_mem_of_ne_nil _ h
   exact List.ne_nil_of_mem (cycN_sup l.length l _ (part m hs hf) q (hs.subset hq) ⟨q,hq,rfl⟩)
 unfold cycB
 rw[Bool.eq_iff_iff,decide_eq_true_eq,Bool.not_eq_true',List.isEmpty_eq_false_iff,h1,List.length_pos_iff]
end Go.Vl
namespace Go.Vl
open Go Go.Proofs Go.RowKit Go.Maps
abbrev tgO:Nat:=mTag 66 1 false true
abbrev vsO (m:List (Int×zO)):VS:=⟨tgO,9,rowsF (mRow (iRow .i64) zOr) m⟩
theorem rowsF_at {α:Type} (f:α→List D) {m:List α} {j:Nat} {q:α} (h:m[j]? =some q):(rowsF f m)[j]? =some (f q):=by
 unfold rowsF
 rw[List.getElem?_map,h];rfl
theorem rowsF_erase {α:Type} (f:α→List D):∀(m:List α) (j:Nat),rowsF f (m.eraseIdx j)=(rowsF f m).eraseIdx j
 |[],_=>rfl
 |_::_,0=>rfl
 |x::m,j+1=>by
  have:=rowsF_erase f m j
  unfold rowsF at this ⊢
  simp only[List.eraseIdx_cons_succ,List.map_cons,this]
theorem erase_sub (es:Array MapEntry) (j:Nat):(es.eraseIdxIfInBounds j).toList.Sublist es.toList:=by
 unfold Array.eraseIdxIfInBounds
 split
 ·rw[Array.toList_eraseIdx];exact List.eraseIdx_sublist _ _
 ·exact List.Sublist.refl _
theorem vsO_key {w:World} {ok:Nat→Prop} {m:List (Int×zO)} {es:Array MapEntry} {clock:Nat} (hM:MapR w ok (vsO m) es clock) {j:Nat} {q:Int×zO} {en:MapEntry} (h1:m[j]? =some q) (h2:es[j]? =some en):
  en.key=.int .i64 q.1∧∃cs:Array Value,en.val=.agg cs∧cs.size=8∧(∀v∈cs.toList,v.oneCell'=true)∧PackD w ok true (zOr q.2) en.val:=by
 have g:=hM.row' (rowsF_at (mRow (iRow .i64) zOr) h1) h2
 have ka:(vsO m).ka=false:=tag_ka 66 1 false true 9 _
 have va:(vsO m).va=true:=tag_va 66 1 false true 9 _
 have kz:(vsO m).kz=1:=tag_kz 66 (by decide) false true 9 _
 rw[ka,kz,va] at g
 obtain⟨g1,g2⟩:=g
 refine⟨?_,?_⟩
 ·obtain⟨d,e1,e2⟩:=g1
  cases e1
  generalize en.key=v at e2 ⊢
  cases e2
  rfl
 ·have g3:PackD w ok true (zOr q.2) en.val:=g2
  obtain⟨cs,e1,e2,e3⟩:=id g3
  refine⟨cs,e1,by simpa using e2,fun v hv=>?_,g3⟩
  obtain⟨i,hi,rfl⟩:=List.getElem_of_mem hv
  have hi':i < (zOr q.2).length:=by rw[← e2];simpa using hi
  exact(e3 i _ _ (List.getElem?_eq_getElem hi') (by rw[Array.getElem?_eq_getElem (by simpa using hi)];rfl)).one
theorem mapR_grown {w w':World} {ok:Nat→Prop} {s:VS} {es:Array MapEntry} {clock b:Nat} (h:MapR w ok s es clock) (hok:∀k,ok k→k < w.heap.size∧k≠b) (hg:w.grownBy w' (some b)):MapR w' ok s es clock:=by
 obtain⟨_,_,_,_,g5⟩:=hg
 exact h.mono (fun q hq=>see_of_block (g5 q.block (hok _ hq).1 fun e=>(hok _ hq).2 (Option.some.inj e))) (fun _ h=>h)
set_option maxHeartbeats 4000000 in
set_option maxRecDepth 100000 in
theorem delFunc_ok (w:World) (b B:Nat) (es0:Array MapEntry) (clock:Nat) (hb:w.heap[b]? =some (.map es0 clock)) {ok:Nat→Prop} {m0:List (Int×zO)} (hm:MapR w ok (vsO m0) es0 clock) (hn:(m0.map (·.1)).Nodup) (hok:∀k,ok k→k < w.heap.size∧k≠b)
  (hclo:∀(W:World) (m:List (Int×zO)) (es:Array MapEntry),w.grownBy W (some b)→W.heap[b]? =some (.map es clock)→MapR w ok (vsO m) es clock→m.Sublist m0→∀(j:Nat) (q:Int×zO) (en:MapEntry),m[j]? =some q→es[j]? =some en→
   Calls Tryz.prog 70 #[en.key,en.val,.pointer (some ⟨B,0,none⟩)] W fun e w'=>e=.returned (.bool (!keepB m q))∧W.grownBy w' none∧dr0 W≤dr0 w'):
  Calls Tryz.prog 69 #[.map (some b),.func (.func 70) #[] #[.pointer (some ⟨B,0,none⟩)]] w fun e w'=>e=.returned (.tuple #[])∧∃(m:List (Int×zO)) (es:Array MapEntry),w'.heap[b]? =some (.map es clock)∧MapR w ok (vsO m) es clock∧Pass m0 m∧w.grownBy w' (some b)∧dr0 w≤dr0 w':=by
 have t69:=Tryz.underlying66
 have hblt:b < w.heap.size:=(Array.getElem?_eq_some_iff.1 hb).1
 have HC:Aside _:=hclo
 clear hclo
 go_enter Tryz.func69,Tryz.ntmps69
 go_wp2_with (first
  |(at_range;refine wl_range rfl _ 66 rfl _ _ t69 b es0 clock rfl hb ?_)
  |fail)
 go_frame
 go_loopw [8] (fun _ wr=>∃(m:List (Int×zO)) (es:Array MapEntry) (seen:Array Nat),wr.heap[w.heap.size]? =some (.mapIter (some b) clock seen clock)∧wr.heap[b]? =some (.map es clock)∧MapR w ok (vsO m) es clock∧PassI m0 m es.toList seen∧w.grownBy wr (some b)∧dr0 w≤dr0 wr)
  (fun _ wr=>leftN wr b w.heap.size)
 case atStart=>exact⟨m0,es0,#[],heap_alloc_new w _,(heap_alloc_old w _ hblt).trans hb,hm,PassI.start m0 _,World.grownBy_alloc w _ _,Nat.le_refl _⟩
 case round=>
  obtain⟨m,es,seen,hr,hbr,hM,hI,hg,hdr⟩:=hrel
  go_wp2_with (first
   |(at_next;refine wl_next rfl _ rfl w.heap.size b clock clock seen es clock rfl hr hbr hM.born (Nat.le_refl _) ?_ ?_)
   |fail)
  ·-- nothing is left
   intro hz
   go_wp2
   go_end0
   refine⟨rfl,m,es,hbr,hM,hI.done (hM.key.1.trans (by simp[rowsF])) (fun en hen=>?_),hg,hdr⟩
   unfold leftOf at hz
   rw[Array.filter_eq_empty_iff] at hz
   simpa using hz en (by simpa using hen)
  ·-- an entry has come
   intro en w1 hen hseen hw1
   obtain⟨w2,e2,hr2,hb2,hg2,hd2⟩:=iter_step hr hbr hw1 hg hdr (Nat.le_refl _) (some b) clock clock (seen.push en.born)
   rw[e2]
   have henl:en∈es.toList:=by simpa using hen
   have hseen':seen.contains en.born=false:=by simpa using hseen
   have hent:(Instr.entry (.pointer (some ⟨w.heap.size,0,none⟩))).run Tryz.prog w2=.ok (.tuple #[en.key,en.val]) w2:=run_entry_at (P:=Tryz.prog) w2 w.heap.size b clock seen es clock en hr2 hb2 henl hM.nodup
   obtain⟨j,q,hj1,hj2⟩:∃(j:Nat) (q:Int×zO),m[j]? =some q∧es[j]? =some en:=by
    obtain⟨j,hj,e⟩:=List.getElem_of_mem henl
    have hl:es.toList.length=m.length:=hM.key.1.trans (by simp[rowsF])
    exact⟨j,m[j]'(by omega),List.getElem?_eq_getElem _,by rw[← Array.getElem?_toList,List.getElem?_eq_getElem hj,e]⟩
   obtain⟨hkey,cs,hval,hcs,hone,_⟩:=vsO_key hM hj1 hj2
   have hleft:=leftN_at hr hbr
   have hlt:=left_push henl hseen'
   have t36:=Tryz.underlying47;have z36:=Tryz.sizeOf47;have v36:=Tryz.zeroValue47;have a36:=Tryz.isAgg47
   have hC:Aside _:=fun (W:World) (g1:w.grownBy W (some b)) (g2:W.heap[b]? =some (.map es clock))=>HC.out W m es g1 g2 hM hI.sub j q en hj1 hj2
   have hH:Aside _:=hM
   have hL:Aside _:=And.intro hleft hlt
   clear hr hbr hg hdr hw1 hm hb e2 hM HC hleft hlt
   rw[hkey,hval] at hent hC ⊢
   cases hp:keepB m q
   all_goals rw[hp] at hC
   all_goals go_wp2_with (first
     |(refine wl_store rfl 47 _ _ rfl rfl w2.heap.size _ cs _ rfl rfl (by rw[hcs];simp) (heap_alloc_new w2 _) (by rw[hcs];rfl) hone ?_;obtain⟨w4,e4,f1,f2,f3⟩:=alloc_set w2 #[Value.int IntKind.i64 0,Value.int IntKind.i64 0,Value.slice none 0 0,Value.slice none 0 0,Value.int IntKind.i64 0,Value.slice none 0 0,Value.string { data:=#[]},Value.int IntKind.i64 0] cs 47;rw[e4];have hb4:=kept_none hb2 f2;have hr4:=kept_none hr2 f2;have hc:=hC.out w4 (hg2.andThen f2 (fun j hj=>by cases hj)) hb4)
     |(refine wl_load rfl 47 _ rfl w2.heap.size cs _ _ rfl (by simp) (by simp) (by rw[hcs];simp) f1 ?_)
     |(refine hc.mono ?_;rintro e w3 ⟨rfl,hg3,hd3⟩;have hb3:=kept_none hb4 hg3;have hr3:=kept_none hr4 hg3;have hgw3:=(hg2.andThen f2 (fun j hj=>by cases hj)).andThen hg3 (fun j hj=>by cases hj);have hdw3:=Nat.le_trans (Nat.le_trans hd2 f3) hd3)
     |(at_delete;refine wl_delete rfl _ _ 66 3 3 47 rfl rfl t69 Tryz.underlying3 (s:=vsO m) (F:=zOr) (l:=m) (tag_ka 66 1 false true 9 _) (tag_kz 66 (by decide) false true 9 _) rfl b es clock (mapR_grown hH.out hok hgw3) q.1 j q.2 rfl rfl hb3 (mfind_at (hn.sublist (hI.sub.map _)) hj1) ?_;obtain⟨s1,s2,s3⟩:=set_map (o':=.map (es.eraseIdxIfInBounds j) clock) hb3;go_frame)
     |fail)
   ·refine⟨⟨m.eraseIdx j,es.eraseIdxIfInBounds j,seen.push en.born,?_,s1,mapR_erase (s':=vsO (m.eraseIdx j)) hH.out (by simpa[rowsF] using (List.getElem?_eq_some_iff.1 hj1).1) rfl (rowsF_erase _ m j),hI.drop hn hj1 hp,?_,hdw3⟩,?_⟩
    ·rw[s2 _ (by omega)];exact hr3
    ·exact hgw3.andThen s3 (fun j hj=>by cases hj;exact Or.inr rfl)
    ·rw[leftN_at (by rw[s2 _ (by omega)];exact hr3) s1,hL.out.1]
     exact Nat.lt_of_le_of_lt (left_sub (erase_sub es j) _) hL.out.2
   ·refine⟨⟨m,es,seen.push en.born,hr3,hb3,hH.out,hI.stay hH.out.nodup hj1 (by rw[Array.getElem?_toList];exact hj2) hp,hgw3,hdw3⟩,?_⟩
    rw[leftN_at hr3 hb3,hL.out.1]
    exact hL.out.2
end Go.Vl
