/- history.cycle answers what it should. Conditions: none. -/
import Derived.Test.YtjnflahicimmlaaGreatDoorJce
import Derived.Test.YtjnflahicimmlaaGreatDoorVmZz
import Derived.Laws.Externs
import Derived.Shelf.SlMaps.Clone
set_option maxHeartbeats 4000000
set_option linter.unusedSimpArgs false
set_option linter.unusedVariables false
namespace Go.Vl
open Go Go.Proofs Go.RowKit Go.Maps
theorem MA {o:ab} (h:zj o=true):(gp o).length≤3000000:=by
 unfold zj at h;simp only[aR,bg] at h;unfold gp;simp only[bF,bq];split <;> simp <;> omega
theorem ZF (x:Int) {o:ab} (h:zj o=true) (m:List (Int×ab)):lG x o m=some (!(gp o).any (qx m)):=by
 have hl:=MA h;unfold lG mR dX eA;rw[ai h];simp only[aa];generalize gp o=l at *;obtain⟨h1,h2⟩:=E0 (body:=dA l m) l (qx m) (λi _=>.inr (i:Int)) (.inl ()) (λi hi=>by
  unfold dA jT;rw[ai (by simp <;> omega),dj hi,iI (by omega) (by omega)];simp only[aa];unfold qx;split <;> rfl) (by
  unfold dA;rw[ah (by simp)])
 cases ha:l.any (qx m) with
 |false=>rw[h1 ha];rfl
 |true=>
  obtain⟨i,hi,_,e⟩:=h2 ha;rw[e];simp
theorem RV (w:World) (ok:Nat→Prop) (h:∀b,ok b→b < w.heap.size):qP w ok [] [] [] []:=
 ⟨rfl,dL,λb hb=>⟨h b hb,by simp,λv hv=>by simp at hv⟩,λi b cs hi=>by simp at hi,rfl,λi v s hi=>by simp at hi,λi j v u hi=>by simp at hi,λv hv=>by simp at hv⟩
theorem Qb {W:World} {B b clock:Nat} {es:Array MapEntry} {m:List (Int×ab)} {ok:Nat→Prop} (hB:W.cell? ⟨B,0,none⟩=some (.map (some b))) (hb:W.heap[b]? =some (.map es clock)) (gD:∀k,ok k→k < W.heap.size) (hM:jd W ok (LB m) es clock)
  {j:Nat} {q:Int×ab} {en:MapEntry} (h1:m[j]? =some q) (h2:es[j]? =some en) (hf:zj q.2=true) (xh:mB Tryz.prog W (· < W.heap.size)):
  Calls Tryz.prog 83 #[en.key,en.val,.pointer (some ⟨B,0,none⟩)] W λe w'=>e=.returned (.bool (!vK m q))∧W.grownBy w' none∧vV W≤vV w':=by
 have Zo:jd W (λk=>k < W.heap.size) (LB m) es clock:=hM.mono (λ_ _=>rfl) gD;obtain⟨Zc,cs,sA,je,vj,hpk⟩:=Nt Zo h1 h2;have Ad:b < W.heap.size:=(aL.1 hb).1;have hBl:B < W.heap.size:=by
  unfold World.cell? at hB;cases hq:W.heap[B]? with
  |none=>simp[hq] at hB
  |some o=>exact(aL.1 hq).1
 have rD:RD W (λk=>k < W.heap.size) (.mp tgO 9 (ak (bB (aH .i64) au) m)) (.map (some b)):=RD.ofMap (s:=LB m) (DZ 71 1 false true 9 _) (λr (hr:r∈ak (bB (aH .i64) au) m)=>by
  unfold ak at hr;obtain⟨x,_,rfl⟩:=aG.1 hr
  rfl) hb Ad Zo
 have F:=wN (ZF q.1 hf m);refine(F W (λk=>k < W.heap.size) [] [] #[en.key,en.val,.pointer (some ⟨B,0,none⟩)] (RV _ _ λb h=>h) rfl (λi x v hx hv=>?_) xh).mono λe w' ⟨v,iv',he,hr,_,_,LL⟩=>?_
 ·match i with
  |0=>simp at hx hv;subst hx;subst hv;rw[Zc];exact .d .int
  |1=>
   simp at hx hv;subst hx;subst hv;have:=qX (p:=dM [] []) (ag:=true) (ds:=au q.2) (x:=.agg (bc q.2)) (by simp[ml]) hpk;simpa using this
  |2=>
   simp at hx hv;subst hx;subst hv;refine RA.cN (a:=⟨B,0,none⟩) (o:=0) (λ_=>.map (some b)) hBl (λj hj=>?_) (λj x hx=>?_)
   ·have:j=0:=by simpa using hj
    subst this;exact hB
   ·have:j=0:=by have:=(aj.1 hx).1;simpa using this
    subst this;simp at hx;subst hx;exact rD
  |i+3=>simp at hx
 ·have hv:v=.bool (!vK m q):=by
   cases hr with |d h=>cases h;rfl
  subst he;exact⟨by rw[hv],⟨LL.os,LL.tape,LL.output,LL.size,λk hk _=>LL.block k hk (by simp) (λv hv=>by simp at hv)⟩,LL.dr⟩
set_option maxRecDepth 100000 in
theorem Lm (w:World) (b:Nat) (es:Array MapEntry) (clock:Nat) (hb:w.heap[b]? =some (.map es clock)):Calls Tryz.prog 81 #[.map (some b)] w λe w'=>e=.returned (.map (some w.heap.size))∧w'=w.alloc (.map es clock):=by
 have t69:=Tryz.underlying71;have hq:=λw=>run_eql_map_nil_sl (P:=Tryz.prog) w 71 _ _ (some b) Tryz.underlying71
 go_enter Tryz.func81,Tryz.ntmps81
 go_wp2
 rw[run_callFunc_extern Tryz.func112 (by kernel_rfl) (by kernel_rfl) (by kernel_rfl) (e:=Extern.MapsClone.clone) (by kernel_rfl),run_maps_clone_sl w 71 hb];simp only[Result.andThen];rw[Oper.upon_value]
 go_wp2
 rw[run_typeAssert_map_sl _ 71 20 _ _ _ Tryz.underlying71];simp only[Result.andThen];rw[Oper.upon_value]
 go_wp2
 go_ret
 exact⟨rfl,rfl⟩
def YB (w:World) (b:Nat):Nat:=match w.heap[b]? with
 |some (.map es _)=>es.size
 |_=>0
theorem NX {w:World} {b clock:Nat} {es:Array MapEntry} (h:w.heap[b]? =some (.map es clock)):YB w b=es.size:=by unfold YB;rw[h]
theorem QP {P:Program} {o:Oper} {ops:Array Oper} {rest:List Oper} {a:Act} {w:World} {Q:Exit→Act→World→Prop} (hg:o.guard=none) (x:Operand) (t kt et:TypeId) (sB:o.op=.call { callee:=.builtin .len,args:=#[x],argTypes:=#[t]}) (ht:P.underlying t=some (.map kt et)) (b:Nat) (es:Array MapEntry) (clock:Nat)
  (hx:a.eval x=.map (some b)) (hb:w.heap[b]? =some (.map es clock)) (hK:wpList P ops Q rest (a.put o.dst (goInt es.size)) w):wpList P ops Q (o::rest) a w:=by
 have gT:(Builtin.len_ #[t] o.type #[.map (some b)]).run P w=.ok (goInt es.size) w:=by
  simp[Builtin.len_,aJ ht,Result.andThen,cI hb]
 exact jw hg (by simp[execOp,sB,resolve,invoke,builtin,hx,gT]) hK
set_option maxRecDepth 100000 in
theorem K9 (w:World) (b:Nat) (KY:Array MapEntry) (clock:Nat) (hb:w.heap[b]? =some (.map KY clock)) {ok:Nat→Prop} {m0:List (Int×ab)} (hm:jd w ok (LB m0) KY clock) (gD:∀k,ok k→k < w.heap.size) (hn:(m0.map (·.1)).Nodup) (hf:∀q∈m0,zj q.2=true) (xh:mB Tryz.prog w ok):
  Calls Tryz.prog 48 #[.map (some b)] w λe w'=>e=.returned (.bool (Ai m0))∧w.grownBy w' none∧vV w≤vV w':=by
 have t69:=Tryz.underlying71;have hG:Aside _:=xh;clear xh;have Ux:=Lm w b KY clock hb
 go_enter Tryz.func48,Tryz.ntmps48
 go_wp2_with (first
  |(refine Ux.mono ?_;rintro e w1 ⟨rfl,rfl⟩)
  |fail)
 go_loopw [4] (λ_ wr=>∃(m:List (Int×ab)) (es:Array MapEntry),wr.cell? ⟨w.heap.size+1,0,none⟩=some (.map (some w.heap.size))∧wr.heap[w.heap.size]? =some (.map es clock)∧jd w ok (LB m) es clock∧m.Sublist m0∧(∀G:Int→Prop,wB m0 G→∀q∈m0,G q.1→q∈m)∧w.grownBy wr none∧vV w≤vV wr)
  (λ_ wr=>YB wr w.heap.size)
 case atStart=>
  have FU:(w.alloc (.map KY clock)).heap.size=w.heap.size+1:=by unfold World.alloc;simp
  have h1:=gE (w.alloc (.map KY clock)) (.cells #[.map (some w.heap.size)] 71);rw[FU] at h1;refine⟨m0,KY,by unfold World.cell?;rw[h1];rfl,(mc _ _ (by rw[FU];omega)).trans (gE w _),hm,iX _,λ_ _ _ h _=>h,(kW w _ none).andThen (kW _ _ none) (λj hj=>by cases hj),aM _⟩
 case round=>
  obtain⟨m,es,hB,BG,hM,xo,YZ,hg,Ay⟩:=hrel;have xr:∀k,k < w.heap.size→wr.heap[k]? =w.heap[k]? :=by obtain⟨_,_,_,_,g5⟩:=hg;exact λk hk=>g5 k hk (by simp)
  have gS:w.heap.size≤wr.heap.size:=by obtain⟨_,_,_,g4,_⟩:=hg;exact g4
  have Y4:∀k,ok k→k < wr.heap.size∧k≠w.heap.size:=λk hk=>by have:=gD k hk;omega
  have hMr:jd wr ok (LB m) es clock:=hM.mono (λq hq=>cT (xr _ (gD _ hq))) λ_ h=>h
  have eY:∀W:World,wr.grownBy W (some w.heap.size)→W.cell? ⟨w.heap.size+1,0,none⟩=some (.map (some w.heap.size)):=λW g1=>g1.cell hB (by simp)
  have hd:=M4 wr w.heap.size (w.heap.size+1) es clock BG hMr (hn.sublist (xo.map _)) Y4 (λW m2 XK g1 g2 g3 g4 j q en j1 j2=>Qb (ok:=ok) (eY W g1) g2 (λk hk=>by
   obtain⟨_,_,_,g6,_⟩:=g1;have:=Y4 k hk;omega) (ES g3 Y4 g1) j1 j2 (hf q ((g4.trans xo).subset (bm j1))) (mB.grown (P:=Tryz.prog) hG.out gD (bO gS (by obtain⟨_,_,_,g6,_⟩:=g1;exact g6)) λk hk=>by
    obtain⟨_,_,_,_,g7⟩:=g1;rw[g7 k (by omega) (by intro e;cases e;omega),xr k hk]))
  have hlen:=NX BG;have Us:es.size=m.length:=by have:=hM.key.1;simpa[ak] using this
  go_wp2_with (first
   |(refine QP rfl _ 71 3 49 rfl t69 w.heap.size es clock rfl BG ?_)
   |(refine hd.mono ?_;rintro e w2 ⟨rfl,m2,XK,pO,hM2,hP,vR,Ff⟩;have hB2:=eY w2 vR)
   |(refine QP rfl _ 71 3 49 rfl t69 w.heap.size XK clock rfl pO ?_)
   |fail)
  all_goals have hm2:XK.size=m2.length:=by have:=hM2.key.1;simpa[ak] using this
  all_goals have hgw:w.grownBy w2 none:=hg.andThen vR (λj hj=>by cases hj;exact Or.inl (aM _))
  ·go_ret
   rename_i heq;have hle:m2.length=m.length:=by
    have hE:(XK.size:Int)=m.length:=by first |omega |simpa using heq
    omega
   refine⟨?_,hgw,bO Ay Ff⟩;rcases hP.fin with h |⟨rfl,hk⟩
   ·omega
   ·exact bR (λb=>Ending.returned (Value.bool b)) (Lh hn xo YZ hk)
  ·rename_i heq
   have iA:¬(XK.size:Int)=m.length:=by first |omega |simpa using heq
   refine⟨⟨m2,XK,hB2,pO,hM2.mono (λq hq=>(cT (xr _ (gD _ hq))).symm) λ_ h=>h,hP.sub.trans xo,λG hG q hq hgq=>hP.sup G (λq1 h1 h2=>?_) q (YZ G hG q hq hgq) hgq,hgw,bO Ay Ff⟩,?_⟩
   ·obtain⟨q',a,b,c⟩:=hG q1 (xo.subset h1) h2
    exact⟨q',YZ G hG q' a c,b,c⟩
   ·rw[NX pO,hlen]
    rcases hP.fin with h |⟨rfl,_⟩
    ·omega
    ·omega
theorem Ci {a0:List (Int×ab)} {r:Bool} (h0:oT a0=some r):dY Tryz.prog 48 [] [.d (.mp (bL 71 1 false true) 9 (ak (bB (aH .i64) au) a0))] (.d (.bool r)) []:=by
 unfold oT at h0;split at h0
 case isFalse=>cases h0
 rename_i hc;cases h0;intro w ok io iv vs dN zw eZ xh;have xg:io=[]:=aI (by simpa using dN.len);have Hv:iv=[]:=aI (by simpa using dN.xj);subst xg;subst Hv;have h1:vs.size=1:=by simpa using zw
 have N':vs[0]? =some vs[0]:=bp (by omega);have tV:=eZ 0 _ _ rfl N';have SH:vs= #[vs[0]]:=by
  refine sw (by simp[h1]) λi h1 h2=>?_
  have:i=0:=by simp at h2;omega
  subst this;rfl
 generalize vs[0]=v0 at tV SH;cases tV with
 |d rD=>
  obtain⟨b,es,clock,rfl,hb,KJ,_,hM⟩:=rD.zR;rw[SH];refine(K9 w b es clock hb hM (λk hk=>(dN.px k hk).1) hc.1 hc.2 xh).mono λe w' ⟨he,hg,hd⟩=>?_
  obtain⟨g1,g2,g3,g4,g5⟩:=hg;refine⟨_,[],he,.d .bool,RV _ _ λk hk=>hk.2.1,λu hu=>by simp at hu,⟨g4,?_,?_,hd,?_,λk hk _ _=>g5 k hk (by simp)⟩⟩
  ·first |exact g1 |exact g2 |exact g3
  ·first |exact g1 |exact g2 |exact g3
  ·first |exact g1 |exact g2 |exact g3
end Go.Vl
