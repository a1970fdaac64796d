/- What the given program's history.cycle answers, in plain words: objects are left out until each of those that stay names one that stays. Conditions: none. -/
import Derived.Test.YtjnflahicimmlaaGreatDoorJno
import Derived.Test.YtjnflahicimmlaaGreatDoorVmRd
import Derived.Maps.Ext
import Derived.Maps.RangeWalk
import Derived.Laws.IdiomRangeMap
set_option linter.unusedSimpArgs false
set_option linter.unusedVariables false
namespace Go.Vl
open Go
def qx (l:List (Int×ab)) (id:Int):Bool:=(br cK l id).isSome
def py (l:List (Int×ab)):List (Int×ab):=l.filter λq=>(gp q.2).any (qx l)
def ou:Nat→List (Int×ab)→List (Int×ab)
 |0,l=>l
 |n+1,l=>ou n (py l)
def Ai (l:List (Int×ab)):Bool:=!(ou l.length l).isEmpty
open Classical in
noncomputable def oT (a0:List (Int×ab)):Option Bool:=if(a0.map (·.1)).Nodup∧(∀q∈a0,zj q.2=true) then some (Ai a0) else none
end Go.Vl
namespace Go.Vl
open Go
def vK (m:List (Int×ab)) (q:Int×ab):Bool:=(gp q.2).any (qx m)
def wB (m:List (Int×ab)) (G:Int→Prop):Prop:=∀q∈m,G q.1→∃q'∈m,q'.1∈gp q.2∧G q'.1
theorem Bf {m:List (Int×ab)} {id:Int}:qx m id=true↔∃q∈m,q.1=id:=by
 unfold qx;rw[mH eB,aG]
structure Pass (m0 m:List (Int×ab)):Prop where
 sub:m.Sublist m0
 sup:∀G:Int→Prop,wB m0 G→∀q∈m0,G q.1→q∈m
 fin:m.length < m0.length∨(m=m0∧∀q∈m,vK m q=true)
structure xi (m0 m:List (Int×ab)) (es:List MapEntry) (seen:Array Nat):Prop where
 sub:m.Sublist m0
 sup:∀G:Int→Prop,wB m0 G→∀q∈m0,G q.1→q∈m
 fin:m.length < m0.length∨(m=m0∧∀(j:Nat) (q:Int×ab) (en:MapEntry),m[j]? =some q→es[j]? =some en→seen.contains en.born=true→vK m q=true)
theorem xi.start (m0:List (Int×ab)) (es:List MapEntry):xi m0 m0 es #[]:=
 ⟨iX _,λ_ _ _ h _=>h,.inr ⟨rfl,λj q en _ _ h=>by simp at h⟩⟩
theorem xi.stay {m0 m:List (Int×ab)} {es:List MapEntry} {seen:Array Nat} (I:xi m0 m es seen) (hn:(es.map (·.born)).Nodup) {j:Nat} {q:Int×ab} {en:MapEntry} (h1:m[j]? =some q) (h2:es[j]? =some en) (hk:vK m q=true):xi m0 m es (seen.push en.born):=by
 refine⟨I.sub,I.sup,I.fin.imp id λ⟨e,h⟩=>⟨e,λj' q' DB g1 g2 g3=>?_⟩⟩;rw[gW,cj] at g3;rcases g3 with g3 |g3
 ·exact h j' q' DB g1 g2 g3
 ·have g4:DB.born=en.born:=by simpa using g3
  have hj:j'=j:=by
   obtain⟨a1,b1⟩:=aj.1 g2;obtain⟨a2,b2⟩:=aj.1 h2;have:=(List.nodup_iff_pairwise_ne.1 hn);rw[List.pairwise_map,eh] at this;rcases Nat.lt_trichotomy j' j with iN |he |iN
   ·exact absurd (by rw[b1,b2];exact g4) (this j' j a1 a2 iN)
   ·exact he
   ·exact absurd (by rw[b1,b2];exact g4.symm) (this j j' a2 a1 iN)
  subst hj;rw[h1] at g1;cases g1;exact hk
theorem xi.drop {m0 m:List (Int×ab)} {es es':List MapEntry} {seen aaT:Array Nat} (I:xi m0 m es seen) (hn:(m0.map (·.1)).Nodup) {j:Nat} {q:Int×ab} (h1:m[j]? =some q) (hk:vK m q=false):xi m0 (m.eraseIdx j) es' aaT:=by
 obtain⟨hj,e⟩:=aj.1 h1;have hq:q∈m:=e▸bC hj;refine⟨(uj _ _).trans I.sub,λG hG q' VK hg=>?_,.inl ?_⟩
 ·have Dz:=I.sup G hG q' VK hg
  have iA:q'≠q:=λe2=>by
   subst e2;obtain⟨q2,g1,g2,g3⟩:=hG q' VK hg;have:vK m q'=true:=lq.2 ⟨q2.1,g2,Bf.2 ⟨q2,I.sup G hG q2 g1 g3,rfl⟩⟩;rw[this] at hk;cases hk
  obtain⟨i,hi,e2⟩:=cu Dz;have rY:i≠j:=λe3=>by subst e3;exact iA (e2▸e)
  exact List.mem_eraseIdx_iff_getElem.2 ⟨i,hi,rY,e2⟩
 ·have:=I.sub.length_le
  rw[List.length_eraseIdx_of_lt hj];omega
theorem xi.done {m0 m:List (Int×ab)} {es:List MapEntry} {seen:Array Nat} (I:xi m0 m es seen) (hl:es.length=m.length) (hs:∀en∈es,seen.contains en.born=true):Pass m0 m:=by
 refine⟨I.sub,I.sup,I.fin.imp id λ⟨e,h⟩=>⟨e,λq hq=>?_⟩⟩;obtain⟨j,hj,e2⟩:=cu hq;have IL:j < es.length:=by omega
 exact h j q es[j] (by rw[ae hj,e2]) (ae IL) (hs _ (bC IL))
theorem Sc {m:List (Int×ab)} (hn:(m.map (·.1)).Nodup) {j:Nat} {q:Int×ab} (h:m[j]? =some q):eJ cK q.1 m=some (j,q.2):=by
 induction m generalizing j with
 |nil=>simp at h
 |cons a m ih=>
  rw[aW,dZ] at hn;rw[eJ];cases j with
  |zero=>
   simp only[aS,ba] at h;subst h;rw[ai ((eB _ _).2 rfl)]
  |succ j=>
   rw[aV] at h;have iA:q.1≠a.1:=λe=>hn.1 (e▸aG.2 ⟨q,bm h,rfl⟩)
   rw[ah λe=>iA ((eB _ _).1 e),ih hn.2 h];rfl
theorem wH (l:List (Int×ab)):(py l).Sublist l:=fB ..
theorem La:∀(n:Nat) (l:List (Int×ab)) (G:Int→Prop),wB l G→∀q∈l,G q.1→q∈ou n l
 |0,_,_,_,_,hq,_=>hq
 |n+1,l,G,hG,q,hq,hg=>by
  have Dz:∀q∈l,G q.1→q∈py l:=λq hq hg=>by
   obtain⟨q',a,b,c⟩:=hG q hq hg;exact bP.2 ⟨hq,lq.2 ⟨q'.1,b,Bf.2 ⟨q',a,rfl⟩⟩⟩
  refine La n (py l) G (λq1 h1 h2=>?_) q (Dz q hq hg) hg;obtain⟨q',a,b,c⟩:=hG q1 ((wH l).subset h1) h2;exact⟨q',Dz q' a c,b,c⟩
theorem Lb:∀(n:Nat) (l:List (Int×ab)),(ou n l).Sublist l
 |0,_=>iX _
 |n+1,l=>(Lb n (py l)).trans (wH l)
theorem Ld:∀(n:Nat) (l:List (Int×ab)),l.length≤n→py (ou n l)=ou n l
 |0,l,h=>by have:l=[]:=aI (by omega);subst this;rfl
 |n+1,l,h=>by
  by_cases e:py l=l
  ·have:∀n,ou n l=l:=λn=>by
    induction n with
    |zero=>rfl
    |succ n ih=>rw[ou,e,ih]
   rw[this,e]
  ·refine Ld n (py l) ?_
   have h1:=(wH l).length_le;have h2:(py l).length≠l.length:=λh2=>e ((wH l).eq_of_length h2)
   omega
theorem Sp {l:List (Int×ab)} (hn:(l.map (·.1)).Nodup) {a b:Int×ab} (ha:a∈l) (hb:b∈l) (e:a.1=b.1):a=b:=by
 have h1:=qs eB hn (show (a.1,a.2)∈l from ha);have h2:=qs eB hn (show (b.1,b.2)∈l from hb);rw[e,h2] at h1;exact Prod.ext e (af h1).symm
theorem Hl {m:List (Int×ab)} {q:Int×ab}:vK m q=true↔∃q'∈m,q'.1∈gp q.2:=by
 unfold vK;rw[lq]
 constructor
 ·rintro⟨id,h1,h2⟩
  obtain⟨q',h3,rfl⟩:=Bf.1 h2;exact⟨q',h3,h1⟩
 ·rintro⟨q',h1,h2⟩
  exact⟨q'.1,h2,Bf.2 ⟨q',h1,rfl⟩⟩
theorem Lh {l:List (Int×ab)} (hn:(l.map (·.1)).Nodup) {m:List (Int×ab)} (hs:m.Sublist l) (hG:∀G:Int→Prop,wB l G→∀q∈l,G q.1→q∈m) (hf:∀q∈m,vK m q=true):decide (0 < m.length)=Ai l:=by
 have part:∀c:List (Int×ab),c.Sublist l→(∀q∈c,vK c q=true)→wB l λid=>∃q∈c,q.1=id:=λc hc hk q1 h1 ⟨q2,h2,e⟩=>by
  have:q2=q1:=Sp hn (hc.subset h2) h1 e;subst this;obtain⟨q',g1,g2⟩:=Hl.1 (hk q2 h2);exact⟨q',hc.subset g1,g2,q',g1,rfl⟩
 have h1:ou l.length l≠[]↔m≠[]:=by
  constructor
  ·intro h
   obtain⟨q,hq⟩:=gP _ h;have agk:=Ld l.length l (aM _);have hc:=Lb l.length l;generalize ou l.length l=c at *;exact List.ne_nil_of_mem (hG _ (part c hc λq hq=>(bP.1 (by rw[show (c.filter λq=>(gp q.2).any (qx c))=c from agk];exact hq:q∈c.filter λq=>(gp q.2).any (qx c))).2) q (hc.subset hq) ⟨q,hq,rfl⟩)
  ·intro h
   obtain⟨q,hq⟩:=gP _ h;exact List.ne_nil_of_mem (La l.length l _ (part m hs hf) q (hs.subset hq) ⟨q,hq,rfl⟩)
 unfold Ai;rw[Bool.eq_iff_iff,bg,dF,List.isEmpty_eq_false_iff,h1,List.length_pos_iff]
end Go.Vl
namespace Go.Vl
open Go Go.Proofs Go.RowKit Go.Maps
abbrev tgO:Nat:=bL 71 1 false true
abbrev LB (m:List (Int×ab)):VS:=⟨tgO,9,ak (bB (aH .i64) au) m⟩
theorem Ec {α:Type} (f:α→List D) {m:List α} {j:Nat} {q:α} (h:m[j]? =some q):(ak f m)[j]? =some (f q):=by
 unfold ak;rw[aA,h];rfl
theorem CK {α:Type} (f:α→List D):∀(m:List α) (j:Nat),ak f (m.eraseIdx j)=(ak f m).eraseIdx j
 |[],_=>rfl
 |_::_,0=>rfl
 |x::m,j+1=>by
  have:=CK f m j;unfold ak at this ⊢;simp only[List.eraseIdx_cons_succ,aW,this]
theorem PV (es:Array MapEntry) (j:Nat):(es.eraseIdxIfInBounds j).toList.Sublist es.toList:=by
 unfold Array.eraseIdxIfInBounds;split
 ·rw[Array.toList_eraseIdx];exact uj _ _
 ·exact iX _
theorem Nt {w:World} {ok:Nat→Prop} {m:List (Int×ab)} {es:Array MapEntry} {clock:Nat} (hM:jd w ok (LB m) es clock) {j:Nat} {q:Int×ab} {en:MapEntry} (h1:m[j]? =some q) (h2:es[j]? =some en):
  en.key=.int .i64 q.1∧∃cs:Array Value,en.val=.agg cs∧cs.size=8∧(∀v∈cs.toList,v.oneCell'=true)∧fg w ok true (au q.2) en.val:=by
 have g:=hM.zd (Ec (bB (aH .i64) au) h1) h2;have ka:(LB m).ka=false:=uX 71 1 false true 9 _;have va:(LB m).va=true:=zG 71 1 false true 9 _;have kz:(LB m).kz=1:=sy 71 (by decide) false true 9 _;rw[ka,kz,va] at g;obtain⟨g1,g2⟩:=g;refine⟨?_,?_⟩
 ·obtain⟨d,e1,e2⟩:=g1
  cases e1;generalize en.key=v at e2 ⊢;cases e2
  rfl
 ·have g3:fg w ok true (au q.2) en.val:=g2
  obtain⟨cs,e1,e2,e3⟩:=id g3;refine⟨cs,e1,by simpa using e2,λv hv=>?_,g3⟩;obtain⟨i,hi,rfl⟩:=cu hv;have Fe:i < (au q.2).length:=by rw[← e2];simpa using hi
  exact(e3 i _ _ (ae Fe) (by rw[bp (by simpa using hi)];rfl)).one
theorem ES {w w':World} {ok:Nat→Prop} {s:VS} {es:Array MapEntry} {clock b:Nat} (h:jd w ok s es clock) (gD:∀k,ok k→k < w.heap.size∧k≠b) (hg:w.grownBy w' (some b)):jd w' ok s es clock:=by
 obtain⟨_,_,_,_,g5⟩:=hg;exact h.mono (λq hq=>cT (g5 q.block (gD _ hq).1 λe=>(gD _ hq).2 (af e))) (λ_ h=>h)
set_option maxHeartbeats 4000000 in
set_option maxRecDepth 100000 in
theorem M4 (w:World) (b B:Nat) (KY:Array MapEntry) (clock:Nat) (hb:w.heap[b]? =some (.map KY clock)) {ok:Nat→Prop} {m0:List (Int×ab)} (hm:jd w ok (LB m0) KY clock) (hn:(m0.map (·.1)).Nodup) (gD:∀k,ok k→k < w.heap.size∧k≠b)
  (acQ:∀(W:World) (m:List (Int×ab)) (es:Array MapEntry),w.grownBy W (some b)→W.heap[b]? =some (.map es clock)→jd w ok (LB m) es clock→m.Sublist m0→∀(j:Nat) (q:Int×ab) (en:MapEntry),m[j]? =some q→es[j]? =some en→
   Calls Tryz.prog 83 #[en.key,en.val,.pointer (some ⟨B,0,none⟩)] W λe w'=>e=.returned (.bool (!vK m q))∧W.grownBy w' none∧vV W≤vV w'):
  Calls Tryz.prog 82 #[.map (some b),.func (.func 83) #[] #[.pointer (some ⟨B,0,none⟩)]] w λe w'=>e=.returned (.tuple #[])∧∃(m:List (Int×ab)) (es:Array MapEntry),w'.heap[b]? =some (.map es clock)∧jd w ok (LB m) es clock∧Pass m0 m∧w.grownBy w' (some b)∧vV w≤vV w':=by
 have t69:=Tryz.underlying71;have V2:b < w.heap.size:=(aL.1 hb).1;have HC:Aside _:=acQ;clear acQ
 go_enter Tryz.func82,Tryz.ntmps82
 go_wp2_with (first
  |(at_range;refine Js rfl _ 71 rfl _ _ t69 b KY clock rfl hb ?_)
  |fail)
 go_frame
 go_loopw [8] (λ_ wr=>∃(m:List (Int×ab)) (es:Array MapEntry) (seen:Array Nat),wr.heap[w.heap.size]? =some (.mapIter (some b) clock seen clock)∧wr.heap[b]? =some (.map es clock)∧jd w ok (LB m) es clock∧xi m0 m es.toList seen∧w.grownBy wr (some b)∧vV w≤vV wr)
  (λ_ wr=>Kn wr b w.heap.size)
 case atStart=>exact⟨m0,KY,#[],gE w _,(mc w _ V2).trans hb,hm,xi.start m0 _,kW w _ _,aM _⟩
 case round=>
  obtain⟨m,es,seen,hr,BG,hM,hI,hg,Ay⟩:=hrel
  go_wp2_with (first
   |(at_next;refine Nq rfl _ rfl w.heap.size b clock clock seen es clock rfl hr BG hM.born (aM _) ?_ ?_)
   |fail)
  ·-- nothing is left
   intro hz
   go_wp2
   go_end0
   refine⟨rfl,m,es,BG,hM,hI.done (hM.key.1.trans (by simp[ak])) (λen qw=>?_),hg,Ay⟩;unfold leftOf at hz;rw[mg] at hz;simpa using hz en (by simpa using qw)
  ·-- an entry has alQ
   intro en w1 qw zA xf;obtain⟨w2,e2,CX,pO,vR,Ff⟩:=PA hr BG xf hg Ay (aM _) (some b) clock clock (seen.push en.born);rw[e2];have Ck:en∈es.toList:=by simpa using qw
   have wM:seen.contains en.born=false:=by simpa using zA
   have MQ:(Instr.entry (.pointer (some ⟨w.heap.size,0,none⟩))).run Tryz.prog w2=.ok (.tuple #[en.key,en.val]) w2:=run_entry_at (P:=Tryz.prog) w2 w.heap.size b clock seen es clock en CX pO Ck hM.nodup;obtain⟨j,q,hj1,IL⟩:∃(j:Nat) (q:Int×ab),m[j]? =some q∧es[j]? =some en:=by
    obtain⟨j,hj,e⟩:=cu Ck;have hl:es.toList.length=m.length:=hM.key.1.trans (by simp[ak]);exact⟨j,m[j]'(by omega),ae _,by rw[← bo,ae hj,e]⟩
   obtain⟨Zc,cs,sA,je,vj,_⟩:=Nt hM hj1 IL;have uN:=tR hr BG;have iN:=vI Ck wM;have t36:=Tryz.underlying49;have z36:=Tryz.sizeOf49;have v36:=Tryz.zeroValue49;have a36:=Tryz.isAgg49;have hC:Aside _:=λ(W:World) (g1:w.grownBy W (some b)) (g2:W.heap[b]? =some (.map es clock))=>HC.out W m es g1 g2 hM hI.sub j q en hj1 IL
   have hH:Aside _:=hM;have hL:Aside _:=And.intro uN iN;clear hr BG hg Ay xf hm hb e2 hM HC uN iN;rw[Zc,sA] at MQ hC ⊢;cases hp:vK m q
   all_goals rw[hp] at hC
   all_goals go_wp2_with (first
     |(refine QO rfl 49 _ _ rfl rfl w2.heap.size _ cs _ rfl rfl (by rw[je];simp) (gE w2 _) (by rw[je];rfl) vj ?_;obtain⟨w4,e4,f1,f2,f3⟩:=Qm w2 #[Value.int IntKind.i64 0,Value.int IntKind.i64 0,Value.slice none 0 0,Value.slice none 0 0,Value.int IntKind.i64 0,Value.slice none 0 0,Value.string { data:=#[]},Value.int IntKind.i64 0] cs 49;rw[e4];have Uz:=yT pO f2;have hr4:=yT CX f2;have hc:=hC.out w4 (vR.andThen f2 (λj hj=>by cases hj)) Uz)
     |(refine UI rfl 49 _ rfl w2.heap.size cs _ _ rfl (by simp) (by simp) (by rw[je];simp) f1 ?_)
     |(refine hc.mono ?_;rintro e w3 ⟨rfl,MO,hd3⟩;have FX:=yT Uz MO;have Ji:=yT hr4 MO;have Zf:=(vR.andThen f2 (λj hj=>by cases hj)).andThen MO (λj hj=>by cases hj);have acL:=bO (bO Ff f3) hd3)
     |(at_delete;refine OP rfl _ _ 71 3 3 49 rfl rfl t69 Tryz.underlying3 (s:=LB m) (F:=au) (l:=m) (uX 71 1 false true 9 _) (sy 71 (by decide) false true 9 _) rfl b es clock (ES hH.out gD Zf) q.1 j q.2 rfl rfl FX (Sc (hn.sublist (hI.sub.map _)) hj1) ?_;obtain⟨s1,s2,s3⟩:=NB (o':=.map (es.eraseIdxIfInBounds j) clock) FX;go_frame)
     |fail)
   ·refine⟨⟨m.eraseIdx j,es.eraseIdxIfInBounds j,seen.push en.born,?_,s1,ET (s':=LB (m.eraseIdx j)) hH.out (by simpa[ak] using (aj.1 hj1).1) rfl (CK _ m j),hI.drop hn hj1 hp,?_,acL⟩,?_⟩
    ·rw[s2 _ (by omega)];exact Ji
    ·exact Zf.andThen s3 (λj hj=>by cases hj;exact Or.inr rfl)
    ·rw[tR (by rw[s2 _ (by omega)];exact Ji) s1,hL.out.1]
     exact Nat.lt_of_le_of_lt (Sj (PV es j) _) hL.out.2
   ·refine⟨⟨m,es,seen.push en.born,Ji,FX,hH.out,hI.stay hH.out.nodup hj1 (by rw[bo];exact IL) hp,Zf,acL⟩,?_⟩
    rw[tR Ji FX,hL.out.1];exact hL.out.2
end Go.Vl
