/- walk.before: the keys of a map in order, without those that a closure over four boxes strikes. Conditions: none. -/
import Derived.Test.YtjnflahicimmlaaGreatDoorJvp
import Derived.Test.YtjnflahicimmlaaGreatDoorJPx
import Derived.Test.YtjnflahicimmlaaGreatDoorJxg
set_option maxHeartbeats 2000000
set_option linter.unusedSimpArgs false
set_option linter.unusedVariables false
namespace Go.Vl
open Go Go.Proofs Go.RowKit Go.Maps Go.Sort Go.Shelf
theorem zI {m:List (Int×Int)} (hl:m.length≤1000000):nV Tryz.prog 57 [] [] [.fn 93 [.cN [.mp (bL 73 1 false false) 2 (ak (bB (aH .i64) (aH .i64)) m)] 0]] (.vec (wa 0)) [] [⟨3,1,ak (aH .i64) ((m.map (·.1)).mergeSort λx y=>decide (x≤y))⟩]:=by
 intro w ok io iv vs dN zw eZ _;have xg:io=[]:=aI (by simpa using dN.len);have Hv:iv=[]:=aI (by simpa using dN.xj);subst xg;subst Hv;obtain⟨v0,rfl,tV⟩:=Im zw eZ;obtain⟨Bm,Bo,b,es,clock,rfl,eY,Y3,hb,KJ,hM⟩:=OF tV;have KB:=VD (uX 73 1 false false 2 _) (sy 73 (by decide) false false 2 _) rfl hM;refine(Iw (dN.px _ Y3).1 eY hb KB hM.born hM.nodup (by simpa using hl)).mono λe w' ⟨v,he,eC,hB⟩=>?_
 generalize PF:((m.map (·.1)).mergeSort λx y=>decide (x≤y))=ss at *;have nS:w'.ownsRow w.heap.size 3 1 v ss.length (ss.map encZ):=by
  have:ss.length=(m.map (·.1)).length:=by rw[← PF,ui]
  rw[this];exact eC
 refine⟨v,[v],he,RA.qS (Kx.2 (by simp)) (Kw rfl),⟨rfl,dL,λk hk=>⟨hk.2.1,by simp,hk.2.2⟩,λi b cs h=>by simp at h,rfl,λi u s hu hs=>?_,λi j u u' hu E8 rY=>?_,λ_ _ _ h=>by simp at h⟩,λu hu g hg=>.inl ?_,⟨hB.size,hB.os,hB.tape,aM _,hB.output,λk hk _ _=>hB.block k hk⟩⟩
 ·cases i with
  |zero=>
   simp only[aS,ba] at hu hs;subst hu;subst hs;exact⟨.of (pz (by decide)) ⟨_,by simpa[ak] using ownsRow_base_a nS (cE _),W6⟩,λr hr=>by simp[ak,aH] at hr;obtain⟨x,_,rfl⟩:=hr;rfl⟩
  |succ i=>simp at hu
 ·cases i with
  |zero=>cases j with
   |zero=>exact absurd rfl rY
   |succ j=>simp at E8
  |succ i=>simp at hu
 ·have:u=v:=by simpa using hu
  subst this;rcases nS.2 with ⟨rfl,_⟩ |⟨g',cap,cur,rfl,Of,_⟩
  ·cases hg
  ·cases hg;exact Of
def jU (seen:List (Int×Int)) (all:List (Int×ab)) (kind t id:Int):Bool:=(decide (t < ((br cK seen id).getD 0)))||((((br cK all id).getD (⟨0,0,[],[],0,[],ByteArray.empty,0⟩:ab)).Kind) != kind)
noncomputable def uB (a0:List (Int×Int)) (a1:List (Int×ab)) (a2 a3:Int):Option (List Int):=
 (ck (a0.length≤1000000)).bind λ_=>
 cG ((a0.map (·.1)).mergeSort λx y=>decide (x≤y)) a0 a3 a1 a2
theorem tA {a0:List (Int×Int)} {a1:List (Int×ab)} {a2 a3:Int} {r:List Int} (h0:uB a0 a1 a2 a3=some r):dY Tryz.prog 28 [] [.d (.mp (bL 73 1 false false) 2 (ak (bB (aH .i64) (aH .i64)) a0)),.d (.mp (bL 71 1 false true) 9 (ak (bB (aH .i64) au) a1)),.d (.int .i64 a2),.d (.int .i64 a3)] (.d (.slice (ak (aH .i64) r))) []:=by
 unfold uB at h0;obtain⟨_,h1,h0⟩:=bI h0;replace h1:=bT h1;refine tY (nt:=16) (rs:=[.tmp 8]) Tryz.func28 rfl Tryz.ntmps28 rfl (by simp) (by decide) rfl λK hK=>?_
 refine kR [4,5,6,7] ?_;refine rp 4 [.d (.mp (bL 73 1 false false) 2 (ak (bB (aH .i64) (aH .i64)) a0))] [.mp (bL 73 1 false false) 2 (ak (bB (aH .i64) (aH .i64)) a0)] (by simp) (by simp) hK (by decide) (λi hi=>absurd hi (fR i)) ?_;refine rp 5 [.d (.mp (bL 71 1 false true) 9 (ak (bB (aH .i64) au) a1))] [.mp (bL 71 1 false true) 9 (ak (bB (aH .i64) au) a1)] (by simp) (by simp) hK (by decide) (λi hi=>absurd hi (fR i)) ?_;refine rp 6 [.d (.int .i64 a2)] [.int .i64 a2] (by simp) (by simp) hK (by decide) (λi hi=>absurd hi (fR i)) ?_;refine rp 7 [.d (.int .i64 a3)] [.int .i64 a3] (by simp) (by simp) hK (by decide) (λi hi=>absurd hi (fR i)) ?_;refine kc ?_;refine kO [4,5,6,7,10] 1 ?_;refine jg [4,5,6,7,11] [] (Gh (e:=bL 73 1 false false) (z:=2) (rows:=ak (bB (aH .i64) (aH .i64)) a0)) rfl rfl rfl Tryz.call58 (by simp) (by simp;rfl) ?_;refine jQ [4,5,6,7,12] [] [] [12] (zI h1) rfl rfl rfl Tryz.call57 (by simp) (by simp;rfl) ?_;refine kO [4,5,6,7,9] 1 ?_;refine ar ?_;refine kc ?_;refine kO [13,14] 2 ?_;refine jQ [15] [] [12] [15] (iD h0) rfl rfl rfl Tryz.call59 (by simp) (by simp;rfl) ?_;refine kO [8] 1 ?_;refine ar ?_;refine X3 15 ?_;exact fM
end Go.Vl
namespace Go.Vl
open Go Go.Proofs
noncomputable def gU (a1:List (Int×ab)) (s5:(List (Int×Bool))×(List Int)):Option (Lp ((List (Int×Bool))×(List Int)) (List (Int×Bool))):=
 if(decide (0 < ((s5.2).length:Int)))=true then
  (ck (0≤IntKind.i64.wrap (((s5.2).length:Int) - 1)∧(Int.toNat (IntKind.i64.wrap (((s5.2).length:Int) - 1))) < (s5.2).length)).bind λ_=>
  (idx s5.2 (IntKind.i64.wrap (((s5.2).length:Int) - 1))).bind λx6=>
  (ck (0≤0∧0≤IntKind.i64.wrap (((s5.2).length:Int) - 1)∧IntKind.i64.wrap (((s5.2).length:Int) - 1)≤(((s5.2).length:Nat):Int))).bind λ_=>
  if(!((br cK s5.1 x6).getD false))=true then
   (mR ((br cK a1 x6).getD (⟨0,0,[],[],0,[],ByteArray.empty,0⟩:ab))).bind λy7=>
   (ck ((((s5.2).take (Int.toNat (IntKind.i64.wrap (((s5.2).length:Int) - 1))))).length+(y7).length≤268435456)).bind λ_=>
   some (.go ((eD cK s5.1 x6 true),(((s5.2).take (Int.toNat (IntKind.i64.wrap (((s5.2).length:Int) - 1))))++y7)))
  else
   some (.go (s5.1,((s5.2).take (Int.toNat (IntKind.i64.wrap (((s5.2).length:Int) - 1))))))
 else
  some (.out s5.1)
theorem yp {a0:ao} {a1:List (Int×ab)} {a2:Int} {m:List (ByteArray×Int)} (h1m:qv a0 a2=some m) (hm:m.length≤1000000) {Φ:List (Int×Bool)→Prop}
  (h0:∀ss:List Int,ss.Perm (m.map (·.2))→∃r,iter (gU a1) ([],ss)=some r∧Φ r):
  BD Tryz.prog 56 [.agg (ay a0),.d (.mp (bL 71 1 false true) 9 (ak (bB (aH .i64) au) a1)),.d (.int .i64 a2)] Φ (λr=>.d (.mp (bL 103 1 false false) 2 (ak (bB (aH .i64) gm) r))) (λ_=>[]):=by
 refine On (nt:=43) (rs:=[.tmp 6]) Tryz.func56 rfl Tryz.ntmps56 rfl (by simp) (by decide) λK _=>?_
 refine kR [1,2,3] ?_;refine kR [1,2,3,7] ?_;refine kc ?_;refine kO [1,7,11,12] 2 ?_;refine ku [1,7,13] (Dx h1m) Tryz.call91 ?_;refine jg [1,7,14] [] (ER (e:=bL 134 1 false false) (z:=2) (rows:=ak (bB mW (aH .i64)) m)) rfl rfl rfl Tryz.call90 (by simp) (by simp;rfl) ?_;refine Ix [1,7,15] [600060] (AF hm) rfl rfl rfl Tryz.call89 (by simp) (λ_=>rfl) (λss=>by simp;rfl) λss PF=>?_
 refine kO [1,7,8] 1 ?_;refine ar ?_;obtain⟨e1,jR,hΦ⟩:=h0 ss PF;refine qF (λv4:(List (Int×Bool))=>(⟨43,[(7,.vec 10)],[],[(10,⟨bL 103 1 false false,2,ak (bB (aH .i64) gm) v4⟩)]⟩:St)) (λv4=>v4=e1) (λv4 eP=>?_) ?_
 ·subst eP
  refine kR [6] ?_;exact fo ⟨_,hΦ,[10],[],by simp,by simp,by simp,by simp,by simp⟩
 ·refine aO (cA (λs5:(List (Int×Bool))×(List Int)=>(⟨43,[(1,.d (.mp (bL 71 1 false true) 9 (ak (bB (aH .i64) au) a1))),(7,.vec 10),(8,.vec 600060)],[],[(10,⟨bL 103 1 false false,2,ak (bB (aH .i64) gm) s5.1⟩),(600060,⟨3,1,ak (aH .i64) s5.2⟩)]⟩:St)) jR cq λG1 s5 o1 h1 gY iq=>?_)
  unfold gU at h1;refine aF ?_;refine kR [1,7,8,18] ?_;refine cF (b:=(decide (0 < ((s5.2).length:Int)))) (by simp) (λc5=>?_) (λc5=>?_)
  ·rw[ai c5] at h1
   refine aN ?_;refine aO ?_;obtain⟨_,p9,h1⟩:=bI h1;replace p9:=bT p9;have NL:=p9;try simp at NL
   have p9o:IntKind.i64.wrap (((s5.2).length:Int) - 1) < (((s5.2)).length:Int):=by omega
   obtain⟨x6,J8,h1⟩:=bI h1;replace J8:=bD J8;have RQ:=J8;try simp at RQ
   refine kr [1,7,8,9] (by simp[-getElem?_pos,aS,aV,p9,p9o,J8,NL,RQ];rfl) ?_;obtain⟨_,wh,h1⟩:=bI h1;replace wh:=bT wh;have oN:=wh;try simp at oN
   refine kr [1,7,8,9] (by simp[wh,oN];rfl) ?_;refine dp (LV (z:=1) (k:=Int.toNat (IntKind.i64.wrap (((s5.2).length:Int) - 1))) 8 600060 600060 (by simp) (by simp;rfl) (by simp)) ?_;refine kR [1,7,8,9,33] ?_;refine gJ ((!((br cK s5.1 x6).getD false))) (λc6=>?_) (λc6=>?_)
   ·rw[ai c6] at h1
    refine kR [1,7,8,9] ?_;refine qH ?_;refine kO [1,7,36,39] 4 ?_;obtain⟨y7,MJ,h1⟩:=bI h1;refine ku [1,7,36,40] (vP MJ) Tryz.call85 ?_;obtain⟨_,qG,h1⟩:=bI h1;replace qG:=bT qG;have kQ:=qG;try simp at kQ
    refine ko [1,7,8] 2 (by simp[qG,kQ];rfl) ?_;refine ar ?_;exact⟨_,gY _ (af h1),Wk.trans (sx 41 600060) cq⟩
   ·rw[ah (by rw[c6];decide)] at h1
    refine aN ?_;exact⟨_,gY _ (af h1),cq⟩
  ·rw[ah (by rw[c5];decide)] at h1
   refine bZ ?_;exact⟨_,iq _ (af h1),cq⟩
end Go.Vl
namespace Go.Vl
open Go
theorem Hn {σ ε:Type} {body:σ→Option (Lp σ ε)} (Inv:σ→Prop) (μ:σ→Nat) (Φ:ε→Prop)
  (h:∀s,Inv s→(∃s',body s=some (.go s')∧Inv s'∧μ s' < μ s)∨(∃e,body s=some (.out e)∧Φ e)):∀s,Inv s→∃e,iter body s=some e∧Φ e:=by
 suffices H:∀n s,μ s≤n→Inv s→∃m e,E2 body m s=some e∧Φ e from λs hs=>by
  obtain⟨m,e,h1,h2⟩:=H (μ s) s (aM _) hs;exact⟨e,tS.2 ⟨m,h1⟩,h2⟩
 intro n
 induction n with
 |zero=>
  intro s hn hs;rcases h s hs with ⟨s',h1,h2,h3⟩ |⟨e,h1,h2⟩
  ·omega
  ·exact⟨1,e,by simp[E2,h1],h2⟩
 |succ n ih=>
  intro s hn hs;rcases h s hs with ⟨s',h1,h2,h3⟩ |⟨e,h1,h2⟩
  ·obtain⟨m,e,h4,h5⟩:=ih s' (by omega) h2
   exact⟨m+1,e,by simp[E2,h1,h4],h5⟩
  ·exact⟨1,e,by simp[E2,h1],h2⟩
def Mz (all:List (Int×ab)) (id:Int):List Int:=gp ((br cK all id).getD (⟨0,0,[],[],0,[],ByteArray.empty,0⟩:ab))
inductive DG (all:List (Int×ab)) (kM:List Int):Int→Prop
 |O1 {id:Int}:id∈kM→DG all kM id
 |step {id j:Int}:DG all kM id→j∈Mz all id→DG all kM j
def DS (p:Int→Bool):List (Int×ab)→Nat
 |[]=>0
 |q::l=>(if p q.1=true then 0 else(gp q.2).length)+DS p l
theorem GH {p p':Int→Bool}:∀{l:List (Int×ab)},(∀q∈l,p q.1=p' q.1)→DS p l=DS p' l
 |[],_=>rfl
 |q::l,h=>by simp only[DS];rw[h q (by simp),GH λq hq=>h q (by simp[hq])]
theorem DR {p p':Int→Bool} {x:Int} (hx:p x=false) (hp:∀c,p' c=(c==x||p c)):∀{l:List (Int×ab)},(l.map (·.1)).Nodup→DS p' l+(Mz l x).length=DS p l
 |[],_=>rfl
 |q::l,hn=>by
  rw[aW,dZ] at hn;unfold Mz;rw[iL];by_cases h:x=q.1
  ·rw[ai ((eB _ _).2 h)]
   have h2:DS p' l=DS p l:=GH λr hr=>by
    rw[hp];have:r.1≠x:=λe=>hn.1 (by rw[← h,←e];exact qM hr)
    simp[this]
   simp only[DS,cg];rw[h2,hp,←h,hx];simp;omega
  ·rw[ah (λe=>h ((eB _ _).1 e))]
   have h2:=DR hx hp hn.2;unfold Mz at h2;have:(q.1==x)=false:=by simpa using λe=>h e.symm
   simp only[DS];rw[hp,this,hZ];omega
def okR (all:List (Int×ab)) (n:Nat):Prop:=(all.map (·.1)).Nodup∧(∀q∈all,zj q.2=true)∧n+DS (λ_=>false) all≤200000000
structure Qp (all:List (Int×ab)) (kM:List Int) (m:List (Int×Bool)):Prop where
 nd:(m.map (·.1)).Nodup
 tt:∀q∈m,q.2=true
 iff:∀id,id∈m.map (·.1)↔DG all kM id
structure ahw (all:List (Int×ab)) (kM:List Int) (s:List (Int×Bool)×List Int):Prop where
 nd:(s.1.map (·.1)).Nodup
 tt:∀q∈s.1,q.2=true
 rk:∀id∈s.1.map (·.1),DG all kM id
 rn:∀id∈s.2,DG all kM id
 sd:∀id∈kM,id∈s.1.map (·.1)∨id∈s.2
 st:∀id∈s.1.map (·.1),∀j∈Mz all id,j∈s.1.map (·.1)∨j∈s.2
 sz:s.2.length+DS (λc=>(br cK s.1 c).isSome) all≤200000000
theorem Pq {m:List (Int×Bool)} (h:∀q∈m,q.2=true) (x:Int):∀q∈eD cK m x true,q.2=true:=by
 induction m with
 |nil=>intro q hq;simp[eD,eJ] at hq;rw[hq]
 |cons r m ih=>
  intro q hq;rw[yR] at hq;split at hq
  ·rcases aZ.1 hq with rfl |hq
   ·rfl
   ·exact h q (by simp[hq])
  ·rcases aZ.1 hq with rfl |hq
   ·exact h _ (by simp)
   ·exact ih (λq hq=>h q (by simp[hq])) q hq
theorem Tq:zj (⟨0,0,[],[],0,[],ByteArray.empty,0⟩:ab)=true:=by simp[zj]
theorem Eo {all:List (Int×ab)} {kM ss:List Int} (ok:okR all ss.length) (PF:∀id,id∈ss↔id∈kM):∃r,iter (gU all) ([],ss)=some r∧Qp all kM r:=by
 have hgf:∀(m:List (Int×Bool)) (x:Int),(∀q∈m,q.2=true)→(br cK m x).getD false=(br cK m x).isSome:=λm x h=>by
  cases hg:br cK m x with
  |none=>rfl
  |some b=>exact h _ (lQ eB hg)
 refine Hn (ahw all kM) (λs=>s.2.length+DS (λc=>(br cK s.1 c).isSome) all) _ (λs I=>?_) _ ⟨by simp,by simp,by simp,λid hid=>.O1 ((PF id).1 hid),λid hid=>.inr ((PF id).2 hid),by simp,by simpa[br,eJ] using ok.2.2⟩;rcases List.eq_nil_or_concat s.2 with h0 |⟨pre,x,h0⟩
 ·right
  refine⟨s.1,by unfold gU;simp[h0],I.nd,I.tt,λid=>⟨I.rk id,λh=>?_⟩⟩
  induction h with
  |O1 h=>exact(I.sd _ h).resolve_right (by simp[h0])
  |step _ h2 ih=>exact(I.st _ ih _ h2).resolve_right (by simp[h0])
 ·left
  have gS:=I.sz;rw[h0] at gS;simp only[List.concat_eq_append,bF,fe] at h0 gS;have hlen:s.2.length=pre.length+1:=by rw[h0];simp
  have hw:IntKind.i64.wrap ((s.2.length:Int) - 1)=(pre.length:Int):=by rw[Np (by omega) (by omega)];omega
  have Cj:idx s.2 (pre.length:Int)=some x:=by
   rw[A8,h0];simp
  have KD:s.2.take pre.length=pre:=by rw[h0];simp
  have agt:ck (0≤IntKind.i64.wrap ((s.2.length:Int) - 1)∧(Int.toNat (IntKind.i64.wrap ((s.2.length:Int) - 1))) < s.2.length)=some ():=ai (by rw[hw];omega);have MT:ck (0≤0∧0≤IntKind.i64.wrap ((s.2.length:Int) - 1)∧IntKind.i64.wrap ((s.2.length:Int) - 1)≤((s.2.length:Nat):Int))=some ():=ai (by rw[hw];omega);have Du:DG all kM x:=I.rn x (by rw[h0];simp);have hb:gU all s=if(br cK s.1 x).isSome=true then some (.go (s.1,pre)) else some (.go (eD cK s.1 x true,pre++Mz all x)):=by
   unfold gU;rw[ai (by simp;omega),agt,hw,Cj];simp only[aa];rw[hw] at MT;rw[MT];simp only[aa,eu];simp only[KD];rw[hgf _ _ I.tt];by_cases hm:(br cK s.1 x).isSome=true
   ·rw[hm];simp
   ·have Cg:(br cK s.1 x).isSome=false:=by simpa using hm
    rw[Cg];have VW:zj ((br cK all x).getD (⟨0,0,[],[],0,[],ByteArray.empty,0⟩:ab))=true:=by
     cases hg:br cK all x with
     |none=>exact Tq
     |some o=>exact ok.2.1 _ (lQ eB hg)
    have hwt:=DR (p:=λc=>(br cK s.1 c).isSome) (p':=λc=>(c==x||(br cK s.1 c).isSome)) (x:=x) Cg (λ_=>rfl) ok.1;have S4:pre.length+(Mz all x).length≤268435456:=by omega
    simp only[pU,eM];unfold mR;rw[ai VW];simp only[aa];unfold Mz at S4;rw[eV S4]
    rfl
  by_cases hm:(br cK s.1 x).isSome=true
  ·refine⟨(s.1,pre),by rw[hb,ai hm],⟨I.nd,I.tt,I.rk,λid hid=>I.rn id (by rw[h0];simp[hid]),λid hid=>?_,λid hid j hj=>?_,by show pre.length+DS (λc=>(br cK s.1 c).isSome) all≤_;omega⟩,by show pre.length+DS (λc=>(br cK s.1 c).isSome) all < s.2.length+DS (λc=>(br cK s.1 c).isSome) all;omega⟩
   ·rcases I.sd id hid with h |h
    ·exact .inl h
    ·rw[h0] at h
     rcases aQ.1 h with h |h
     ·exact .inr h
     ·rw[aD.1 h];exact .inl ((mH eB).1 hm)
   ·rcases I.st id hid j hj with h |h
    ·exact .inl h
    ·rw[h0] at h
     rcases aQ.1 h with h |h
     ·exact .inr h
     ·rw[aD.1 h];exact .inl ((mH eB).1 hm)
  ·have Cg:(br cK s.1 x).isSome=false:=by simpa using hm
   have hp:∀c,(br cK (eD cK s.1 x true) c).isSome=(c==x||(br cK s.1 c).isSome):=λc=>by
    by_cases e:c=x
    ·rw[(iK eB _ _ _ _).1 e];simp[e]
    ·rw[(iK eB _ _ _ _).2 e];simp[e]
   have hwt:=DR (p:=λc=>(br cK s.1 c).isSome) (p':=λc=>(br cK (eD cK s.1 x true) c).isSome) (x:=x) Cg hp ok.1;refine⟨(eD cK s.1 x true,pre++Mz all x),by rw[hb,ah hm],⟨zQ eB I.nd x true,Pq I.tt x,λid hid=>?_,λid hid=>?_,λid hid=>?_,λid hid j hj=>?_,by show(pre++Mz all x).length+DS (λc=>(br cK (eD cK s.1 x true) c).isSome) all≤_;rw[bF];omega⟩,by show(pre++Mz all x).length+DS (λc=>(br cK (eD cK s.1 x true) c).isSome) all < s.2.length+DS (λc=>(br cK s.1 c).isSome) all;rw[bF];omega⟩
   ·rcases(vG eB).1 hid with rfl |h
    ·exact Du
    ·exact I.rk id h
   ·rcases aQ.1 hid with h |h
    ·exact I.rn id (by rw[h0];simp[h])
    ·exact .step Du h
   ·rcases I.sd id hid with h |h
    ·exact .inl ((vG eB).2 (.inr h))
    ·rw[h0] at h
     rcases aQ.1 h with h |h
     ·exact .inr (aQ.2 (.inl h))
     ·exact .inl ((vG eB).2 (.inl (aD.1 h)))
   ·rcases(vG eB).1 hid with rfl |h
    ·exact .inr (aQ.2 (.inr hj))
    ·rcases I.st id h j hj with h |h
     ·exact .inl ((vG eB).2 (.inr h))
     ·rw[h0] at h
      rcases aQ.1 h with h |h
      ·exact .inr (aQ.2 (.inl h))
      ·exact .inl ((vG eB).2 (.inl (aD.1 h)))
end Go.Vl
namespace Go.Vl
open Go Go.Proofs Go.RowKit
section
variable {P:Program} {K:Ctx P} {st:St} {Q:Exit→St→Prop}
theorem Q4 {c:Code} {ι:Type} (S:ι→St) (I:ι→Prop) (μ:ι→Nat) {i0:ι} (h0:I i0) (W:Wk st (S i0)) (round:∀i,I i→Tr P K c (S i) (sF (λs=>∃j,I j∧μ j < μ i∧Wk s (S j)) Q)):Tr P K (.loop c) st Q:=λa w p R=>by
 obtain⟨p1,R1⟩:=W K a w p R;exact gG (λn a' w'=>∃i p',μ i=n∧I i∧Rel K (S i) a' w' p') (μ i0) ⟨i0,_,rfl,h0,R1⟩ (λn a' w' ⟨i,p',hn,hi,R'⟩=>hU (round i hi a' w' p' R') λe a2 w2 ⟨s,p2,R2,q⟩=>by
  cases e with
  |normal=>
   obtain⟨j,hI,hj,W2⟩:=q;obtain⟨p3,R3⟩:=W2 K a2 w2 p2 R2;exact⟨μ j,hn▸hj,j,_,rfl,hI,R3⟩
  |_=>exact⟨s,p2,R2,q⟩)
end
noncomputable def kL (t:Int) (m:List (Int×Int)) (q:Int×Bool):List (Int×Int):=if(br cK m q.1).isSome=true then m else eD cK m q.1 t
def gz (es:List az) (i:Nat) (t:Int):Bool:=match es[i+1]? with |some e=>e.Time==t |none=>false
theorem GP (t:Int):∀(l:List (Int×Bool)) (m:List (Int×Int)),sK (λ(s:List (Int×Int)) (q:Int×Bool)=>some (Lp.go (ε:=List (Int×Int)) (kL t s q))) (λs=>s) m l=some (l.foldl (kL t) m)
 |[],_=>rfl
 |q::l,m=>by
  simp only[sK,aa,ea];exact GP t l _
theorem Dy {a0:ao} {all:List (Int×ab)} {sg:Bool} (Cj:ic a0=some (all,sg)) (hlen:a0.aC.length≤1000000) {Rc:Int→List (Int×Bool)→Prop}
  (hR:∀t,BD Tryz.prog 56 [.agg (ay a0),.d (.mp (bL 71 1 false true) 9 (ak (bB (aH .i64) au) all)),.d (.int .i64 t)] (Rc t) (λr=>.d (.mp (bL 103 1 false false) 2 (ak (bB (aH .i64) gm) r))) (λ_=>[]))
  {Φ:Nat→List (Int×Int)→Prop} (hΦ0:Φ 0 [])
  (hΦs:∀i e,a0.aC[i]? =some e→gz a0.aC i e.Time=true→∀m,Φ i m→Φ (i+1) m)
  (hΦr:∀i e,a0.aC[i]? =some e→gz a0.aC i e.Time=false→∀m,Φ i m→∀rr,Rc e.Time rr→∀l:List (Int×Bool),l.Perm rr→Φ (i+1) (l.foldl (kL e.Time) m)):
  BD Tryz.prog 27 [.agg (ay a0)] (Φ a0.aC.length) (λr=>.d (.mp (bL 73 1 false false) 2 (ak (bB (aH .i64) (aH .i64)) r))) (λ_=>[]):=by
 refine On (nt:=67) (rs:=[.tmp 2]) Tryz.func27 rfl Tryz.ntmps27 rfl (by simp) (by decide) λK hK=>?_
 refine kR [1] ?_;refine kc ?_;refine kO [1,12] 1 ?_;refine ku [1,13] (vQ Cj) Tryz.call38 ?_;refine kO [1,3] 5 ?_;refine ar ?_;refine kR [1,3,5] ?_;refine aF ?_;refine kR [1,3,5,18,19,20] ?_;refine oa (λv:List (Int×Int)=>(⟨67,[(5,.vec 16)],[],[(16,⟨bL 73 1 false false,2,ak (bB (aH .i64) (aH .i64)) v⟩)]⟩:St)) (Φ a0.aC.length) (λv hv _ W1=>?_) ?_
 ·refine dp W1 ?_
  refine kR [2] ?_;exact fo ⟨_,hv,[16],[],by simp,by simp,by simp,by simp,by simp⟩
 ·refine aO (Q4 (λs:Nat×List (Int×Int)=>(⟨67,[(1,.ptr 1 0),(3,.d (.mp (bL 71 1 false true) 9 (ak (bB (aH .i64) au) all))),(5,.vec 16),(18,.d (.slice (ak aT a0.aC))),(19,.d (.int .i64 ((a0.aC).length:Int))),(20,.d (.int .i64 (s.1:Int)))],[(1,(ay a0))],[(16,⟨bL 73 1 false false,2,ak (bB (aH .i64) (aH .i64)) s.2⟩)]⟩:St)) (λs=>s.1≤a0.aC.length∧Φ s.1 s.2) (λs=>a0.aC.length - s.1) (i0:=(0,[])) ⟨cE _,hΦ0⟩ cq λs ⟨hle,hI⟩=>?_)
  refine kR [1,3,5,18,19,20,21] ?_;refine aF ?_;refine cF (b:=(decide ((s.1:Int) < ((a0.aC).length:Int)))) (by simp) (λc5=>?_) (λc5=>?_)
  ·have iN:s.1 < a0.aC.length:=by simpa using c5
   obtain⟨e,he⟩:∃e,a0.aC[s.1]? =some e:=⟨_,ae iN⟩;refine aN ?_;refine aF ?_;refine aO ?_;refine kr [1,3,5,6,7,18,19,20] (by simp[he];rfl) ?_;have hw:IntKind.i64.wrap ((s.1:Int)+1)=((s.1+1:Nat):Int):=by rw[Np (by omega) (by omega)];rfl
   refine qF (λ_:Unit=>(⟨67,[(1,.ptr 1 0),(3,.d (.mp (bL 71 1 false true) 9 (ak (bB (aH .i64) au) all))),(5,.vec 16),(7,.ptr 7 0),(18,.d (.slice (ak aT a0.aC))),(19,.d (.int .i64 ((a0.aC).length:Int))),(20,.d (.int .i64 (s.1:Int)))],[(1,(ay a0)),(7,[.d (.int .i64 e.Kind),.d (.str e.Name),.d (.int .i64 e.dI),.d (.int .i64 e.Time)])],[(16,⟨bL 73 1 false false,2,ak (bB (aH .i64) (aH .i64)) s.2⟩)]⟩:St)) (λ_=>gz a0.aC s.1 e.Time=false) (λ_ PG=>?_) ?_
   ·refine Pz 5 rfl rfl rfl rfl Tryz.underlying103 ?_
    refine kO [1,3,5,7,18,19,20,43,44,46] 4 ?_;refine Ix [1,3,5,7,18,19,20,47] [] (hR e.Time) rfl rfl rfl Tryz.call56 (by simp) (λ_=>rfl) (λr=>by simp;rfl) λrr hrr=>?_
    refine ar ⟨bL 103 1 false false,2,ak (bB (aH .i64) gm) rr,by simp,by simp,λr=>?_⟩;refine OS ?_;refine Q3 (row:=bB (aH .i64) gm) (left0:=rr) (kA:=λq=>.d (.int .i64 q.1)) (vA:=λq=>.d (.bool q.2)) (S:=λm:List (Int×Int)=>(⟨67,[(1,.ptr 1 0),(3,.d (.mp (bL 71 1 false true) 9 (ak (bB (aH .i64) au) all))),(5,.vec 16),(7,.ptr 7 0),(18,.d (.slice (ak aT a0.aC))),(19,.d (.int .i64 ((a0.aC).length:Int))),(20,.d (.int .i64 (s.1:Int))),(48,.iter r)],[(1,(ay a0)),(7,[.d (.int .i64 e.Kind),.d (.str e.Name),.d (.int .i64 e.dI),.d (.int .i64 e.Time)])],[(16,⟨bL 73 1 false false,2,ak (bB (aH .i64) (aH .i64)) m⟩)]⟩:St))
     (body:=λ(m:List (Int×Int)) (q:Int×Bool)=>some (Lp.go (ε:=List (Int×Int)) (kL e.Time m q))) (fin:=λm=>m) (s0:=s.2) (Φ:=λm=>Φ (s.1+1) m)
     (aI hK) ⟨rfl,rfl,rfl⟩ rfl rfl rfl rfl rfl rfl (by decide) (λs=>by simp) (λs=>by simp) (λq=>?_) (λq=>?_) (λl hl=>?_) ?_ ?_ ?_
    ·simp[ml,uX,sy,bB]
    ·simp[ml,zG,sy,bB]
    ·exact⟨_,GP e.Time l s.2,hΦr _ _ he PG _ hI _ hrr _ hl⟩
    ·simp[bw]
    ·intro K' G m q o Qz hb hg he
     cases hb;refine kO [1,3,5,7,8,18,19,20,48] 2 ?_;refine ar ?_;refine kR [1,3,5,7,8,10,18,19,20,48] ?_;refine kR [1,3,5,7,8,18,19,20,48,60] ?_;refine gJ (!(br cK m q.1).isSome) (λc8=>?_) (λc8=>?_)
     ·refine lr (by simp;rfl) ?_
      have PF:kL e.Time m q=eD cK m q.1 e.Time:=by unfold kL;rw[ah (by simpa using c8)]
      exact⟨_,hg _ rfl,by rw[PF];simp[bw]⟩
     ·refine aN ?_
      have PF:kL e.Time m q=m:=by unfold kL;rw[ai (by simpa using c8)]
      exact⟨_,hg _ rfl,by rw[PF];simp[bw]⟩
    ·intro m hm
     refine lr (by simp;rfl) ?_;exact⟨(s.1+1,m),⟨iN,hm⟩,by show _ - (s.1+1) < _;omega,wk (by simp[bw,hw])⟩
   ·refine kd [[],[0],[],[2],[3],[1,4],[5],[6],[7,6],[6],[9,6],[8,10,6],[11,6],[12,6],[6],[14,6],[13,15,6],[6,16]] [] [] none [] 18 sZ (by decide +kernel) (by simp) ?_
    refine bj 0 2 rfl (by simp (maxSteps:=1000000);rfl) ?_;refine bj 2 2 rfl (by simp (maxSteps:=1000000);rfl) ?_;refine bj 4 2 rfl (by simp (maxSteps:=1000000);rfl) ?_;refine bj 6 1 rfl (by simp (maxSteps:=1000000);rfl) ?_;refine mL 6 31 (decide (((s.1+1:Nat):Int) < ((a0.aC).length:Int))) (by simp[hw]) (λDD=>?_) (λDD=>?_)
    ·have afY:s.1+1 < a0.aC.length:=by simp at DD;omega
     obtain⟨e2,xt⟩:∃e2,a0.aC[s.1+1]? =some e2:=⟨_,ae afY⟩;have PG:gz a0.aC s.1 e.Time=(e2.Time==e.Time):=by unfold gz;rw[xt]
     have hw0:0≤IntKind.i64.wrap ((s.1:Int)+1):=by omega
     have xf:(IntKind.i64.wrap ((s.1:Int)+1)).toNat=s.1+1:=by omega
     refine bj 7 2 rfl (by simp (maxSteps:=1000000) [hw0,xf,xt];rfl) ?_;refine bj 9 2 rfl (by simp (maxSteps:=1000000) [hw0,xf,xt];rfl) ?_;refine bj 11 2 rfl (by simp (maxSteps:=1000000) [hw0,xf,xt];rfl) ?_;refine bj 13 2 rfl (by simp (maxSteps:=1000000) [hw0,xf,xt];rfl) ?_;refine bj 15 2 rfl (by simp (maxSteps:=1000000) [hw0,xf,xt];rfl) ?_;refine bj 17 1 rfl (by simp (maxSteps:=1000000) [hw0,xf,xt];rfl) ?_;refine fu rfl (ar ?_);refine gJ ((e2.Time==e.Time)) (λc7=>?_) (λc7=>?_)
     ·refine bZ ?_
      refine lr (by simp;rfl) ?_;exact⟨(s.1+1,s.2),⟨iN,hΦs _ _ he (PG.trans c7) _ hI⟩,by show _ - (s.1+1) < _;omega,wk (by simp[bw,hw])⟩
     ·refine aN ?_
      exact⟨(),PG.trans c7,cq⟩
    ·have II:a0.aC[s.1+1]? =none:=fy (by simp at DD;omega)
     have PG:gz a0.aC s.1 e.Time=false:=by unfold gz;rw[II]
     refine mw 7 67 [some 32,some 33,some 34,some 35,some 36,some 37,some 38,some 39,some 40,some 41] rfl rfl (by decide) (by kernel_rfl) (by simp only[uZ,aW,cO,cv,di];rfl) ?_;refine bj 17 1 rfl (by simp (maxSteps:=1000000);rfl) ?_;refine fu rfl (ar ?_);refine gJ (false) (λc7=>by cases c7) (λc7=>?_);refine aN ?_;exact⟨(),PG,cq⟩
  ·have hgt:s.1=a0.aC.length:=by simp at c5;omega
   refine bZ ?_;rw[← hgt];exact⟨_,hI,cq⟩
end Go.Vl
namespace Go.Vl
open Go Go.Proofs
noncomputable def oW (m:List (ByteArray×Int)) (e:az):List (ByteArray×Int):=if e.Kind=1 then eD pE m e.Name e.dI else wG pE m e.Name
noncomputable def pF (t:Int) (m:List (ByteArray×Int)):List az→List (ByteArray×Int)
 |[]=>m
 |e::l=>if t < e.Time then m else pF t (oW m e) l
theorem U' {a0:ao} (h:a0.aC.length≤1000000) (t:Int):qv a0 t=some (pF t [] a0.aC):=by
 unfold qv;obtain⟨e,h1,h2⟩:=Hn (body:=pd a0 t) (λs=>∃k:Nat,k≤a0.aC.length∧s.1=(k:Int)∧pF t s.2 (a0.aC.drop k)=pF t [] a0.aC) (λs=>a0.aC.length - s.1.toNat) (λe=>e=pF t [] a0.aC) (λs ⟨k,hk,h1,h2⟩=>by
  unfold pd;rw[h1];by_cases hl:k < a0.aC.length
  ·rw[ai (by simpa using hl),A8,ae hl]
   rw[bN hl] at h2;simp only[aa];simp only[pF] at h2;by_cases ht:t < (a0.aC[k]).Time
   ·rw[ai ht] at h2
    right
    exact⟨_,by rw[ai (by simpa using ht)],h2⟩
   ·rw[ah ht] at h2
    left
    have hw:IntKind.i64.wrap ((k:Int)+1)=((k+1:Nat):Int):=by rw[Np (by omega) (by omega)];rfl
    rw[ah (by simpa using ht),hw];refine⟨(((k+1:Nat):Int),oW s.2 a0.aC[k]),?_,⟨k+1,hl,rfl,h2⟩,?_⟩
    ·unfold oW
     by_cases uO:(a0.aC[k]).Kind=1
     ·rw[ai uO,ai (by simpa using uO)]
     ·rw[ah uO,ah (by simpa using uO)]
    ·show a0.aC.length - (((k+1:Nat):Int)).toNat < a0.aC.length - ((k:Nat):Int).toNat
     simp only[eu];omega
  ·right
   rw[ah (by simpa using hl)];refine⟨_,rfl,?_⟩;rw[cx (by omega)] at h2;simpa[pF] using h2) (0,[]) ⟨0,cE _,rfl,by simp⟩
 rw[h1,h2];rfl
noncomputable def fA (a0:ao) (t:Int):List Int:=(pF t [] a0.aC).map (·.2)
open Classical in
noncomputable def iP (a0:ao) (all:List (Int×ab)):Nat→Int→Option Int
 |0,_=>none
 |n+1,id=>match iP a0 all n id with
  |some t=>some t
  |none=>match a0.aC[n]? with
   |some e=>if gz a0.aC n e.Time=false∧DG all (fA a0 e.Time) id then some e.Time else none
   |none=>none
theorem Ib (t:Int) (m:List (Int×Int)) (q:Int×Bool) (id:Int):br cK (kL t m q) id=if id=q.1 then(match br cK m id with |some u=>some u |none=>some t) else br cK m id:=by
 unfold kL;by_cases h:(br cK m q.1).isSome=true
 ·rw[ai h]
  split
  ·rename_i e;subst e
   cases hg:br cK m q.1 with
   |none=>rw[hg] at h;cases h
   |some u=>rfl
  ·rfl
 ·rw[ah h]
  split
  ·rename_i e;subst e
   rw[(iK eB _ _ _ _).1 rfl];cases hg:br cK m q.1 with
   |none=>rfl
   |some u=>rw[hg] at h;exact absurd rfl h
  ·rename_i e
   rw[(iK eB _ _ _ _).2 e]
theorem AG (t:Int):∀(l:List (Int×Bool)) (m:List (Int×Int)) (id:Int),br cK (l.foldl (kL t) m) id=if id∈l.map (·.1) then(match br cK m id with |some u=>some u |none=>some t) else br cK m id
 |[],m,id=>by simp
 |q::l,m,id=>by
  rw[ea,AG t l _ id,Ib];by_cases h1:id=q.1
  ·simp only[h1,eM,aW,aZ,true_or]
   cases br cK m q.1 <;> simp
  ·simp[h1]
theorem CI (t:Int):∀(l:List (Int×Bool)) (m:List (Int×Int)),(m.map (·.1)).Nodup→((l.foldl (kL t) m).map (·.1)).Nodup
 |[],m,h=>h
 |q::l,m,h=>by
  rw[ea];refine CI t l _ ?_;unfold kL;split
  ·exact h
  ·exact zQ eB h _ _
structure sb (a0:ao) (all:List (Int×ab)) (n:Nat) (m:List (Int×Int)):Prop where
 nd:(m.map (·.1)).Nodup
 eq:∀id,br cK m id=iP a0 all n id
theorem BP (a0:ao) (all:List (Int×ab)):sb a0 all 0 []:=⟨by simp,λid=>rfl⟩
theorem BQ {a0:ao} {all:List (Int×ab)} {i:Nat} {e:az} (he:a0.aC[i]? =some e) (hs:gz a0.aC i e.Time=true) {m:List (Int×Int)} (h:sb a0 all i m):sb a0 all (i+1) m:=⟨h.nd,λid=>by
 rw[h.eq];simp only[iP,he];rw[ah (λq=>by rw[hs] at q;cases q.1)];cases iP a0 all i id <;> rfl⟩
theorem GO {a0:ao} {all:List (Int×ab)} {i:Nat} {e:az} (he:a0.aC[i]? =some e) (hs:gz a0.aC i e.Time=false) {m:List (Int×Int)} (h:sb a0 all i m) {rr l:List (Int×Bool)}
  (hr:Qp all (fA a0 e.Time) rr) (hl:l.Perm rr):sb a0 all (i+1) (l.foldl (kL e.Time) m):=⟨CI _ _ _ h.nd,λid=>by
 have hm:id∈l.map (·.1)↔DG all (fA a0 e.Time) id:=(hl.map _).mem_iff.trans (hr.iff id);rw[AG,h.eq];simp only[iP,he];by_cases h1:DG all (fA a0 e.Time) id
 ·rw[ai (hm.2 h1),ai ⟨hs,h1⟩]
 ·rw[ah (λq=>h1 (hm.1 q)),ah (λq=>h1 q.2)]
  cases iP a0 all i id <;> rfl⟩
structure OkH (a0:ao) (all:List (Int×ab)):Prop where
 ev:a0.aC.length≤1000000
 nd:(all.map (·.1)).Nodup
 fit:∀q∈all,zj q.2=true
 sz:DS (λ_=>false) all≤100000000
theorem JS (m:List (ByteArray×Int)) (e:az):(oW m e).length≤m.length+1:=by
 unfold oW;split
 ·unfold eD
  split
  ·simp
  ·simp
 ·have:=(ye (e:=pE) m e.Name).length_le
  omega
theorem GX (t:Int):∀(l:List az) (m:List (ByteArray×Int)),(pF t m l).length≤m.length+l.length
 |[],m=>by simp[pF]
 |e::l,m=>by
  simp only[pF];split
  ·omega
  ·have h1:=GX t l (oW m e)
   have h2:=JS m e;simp only[cQ];omega
theorem xO (a0:ao) (t:Int):(fA a0 t).length≤a0.aC.length:=by
 have:=GX t a0.aC [];unfold fA;simpa using this
theorem Ij {a0:ao} {all:List (Int×ab)} (ok:OkH a0 all) (t:Int):
  BD Tryz.prog 56 [.agg (ay a0),.d (.mp (bL 71 1 false true) 9 (ak (bB (aH .i64) au) all)),.d (.int .i64 t)] (Qp all (fA a0 t)) (λr=>.d (.mp (bL 103 1 false false) 2 (ak (bB (aH .i64) gm) r))) (λ_=>[]):=
 yp (U' ok.ev t) (by have:=xO a0 t;have:=ok.ev;unfold fA at *;simp at *;omega) λss PF=>by
  have hl:=xO a0 t;have Qy:=ok.ev;refine Eo ⟨ok.nd,ok.fit,?_⟩ λid=>PF.mem_iff
  have:=PF.length_eq;have hz:=ok.sz;unfold fA at hl;omega
theorem ND {a0:ao} {all:List (Int×ab)} {sg:Bool} (Cj:ic a0=some (all,sg)) (ok:OkH a0 all):
  BD Tryz.prog 27 [.agg (ay a0)] (sb a0 all a0.aC.length) (λr=>.d (.mp (bL 73 1 false false) 2 (ak (bB (aH .i64) (aH .i64)) r))) (λ_=>[]):=
 Dy Cj ok.ev (λt=>Ij ok t) (BP a0 all) (λ_ _ he hs _ h=>BQ he hs h) λ_ _ he hs _ h _ hr _ hl=>GO he hs h hr hl
end Go.Vl
namespace Go.Vl
open Go Go.Proofs
def xL (l:List Int):List Int:=l.mergeSort λx y=>decide (x≤y)
theorem L5 {a b:List Int} (h:a.Perm b):xL a=xL b:=by
 unfold xL;refine ri (le:=λx y:Int=>x≤y) (λx y _ _ h1 h2=>by omega) ?_ ?_ ((iY ..).trans (h.trans (iY ..).symm))
 ·refine List.Pairwise.imp (λ{a b} h=>?_) (jX (le:=λx y:Int=>decide (x≤y)) (λa b c h1 h2=>by simp at h1 h2 ⊢;omega) (λa b=>by simp;omega) a)
  simpa using h
 ·refine List.Pairwise.imp (λ{a b} h=>?_) (jX (le:=λx y:Int=>decide (x≤y)) (λa b c h1 h2=>by simp at h1 h2 ⊢;omega) (λa b=>by simp;omega) b)
  simpa using h
theorem OX {a b:List Int} (ha:a.Nodup) (hb:b.Nodup) (h:∀x,x∈a↔x∈b):xL a=xL b:=L5 ((pT ha hb).2 h)
open Classical in
noncomputable def vU (a0:ao) (all:List (Int×ab)):List Int:=if h:∃m,sb a0 all a0.aC.length m then xL ((Classical.choose h).map (·.1)) else []
theorem D5 {a0:ao} {all:List (Int×ab)} {n:Nat} {m:List (Int×Int)} (h:sb a0 all n m) (x:Int):x∈m.map (·.1)↔(iP a0 all n x).isSome=true:=by rw[← h.eq,mH eB]
theorem Bk {a0:ao} {all:List (Int×ab)} {m:List (Int×Int)} (h:sb a0 all a0.aC.length m):xL (m.map (·.1))=vU a0 all:=by
 unfold vU;have hx:∃m,sb a0 all a0.aC.length m:=⟨m,h⟩;rw[dif_pos hx];have h2:=de hx;exact OX h.nd h2.nd λx=>(D5 h x).trans (D5 h2 x).symm
end Go.Vl
namespace Go.Vl
open Go
theorem OB (x:Int) (m:List (Int×Int)) (t:Int) (M:List (Int×ab)) (k:Int):gR x m t M k=some (jU m M k t x):=rfl
theorem YI (l:List Int) (hl:l.length≤268435456) (m:List (Int×Int)) (t:Int) (M:List (Int×ab)) (k:Int):(cR l m t M k=some (-1)∧∀x∈l,jU m M k t x=false)∨
  ∃i:Nat,i < l.length∧cR l m t M k=some (i:Int)∧(∀x∈l.take i,jU m M k t x=false)∧∃x,l[i]? =some x∧jU m M k t x=true:=by
 obtain⟨e,he,hR⟩:=qu (body:=dO l m t M k) (λs:Int=>∃i:Nat,s=(i:Int)∧i≤l.length∧∀x∈l.take i,jU m M k t x=false) (λs=>l.length - s.toNat)
  (λe:Unit ⊕ Int=>(e=.inl ()∧∀x∈l,jU m M k t x=false)∨∃i:Nat,e=.inr (i:Int)∧i < l.length∧(∀x∈l.take i,jU m M k t x=false)∧∃x,l[i]? =some x∧jU m M k t x=true)
  (λs ⟨i,hs,hi,hd⟩=>by
   subst hs;unfold dO;by_cases h:i < l.length
   ·rw[ai (by simpa using h),dj h]
    simp only[aa,OB];cases hx:jU m M k t l[i] with
    |true=>exact .inr ⟨_,ai rfl,.inr ⟨i,rfl,h,hd,l[i],ae h,hx⟩⟩
    |false=>
     refine .inl ⟨((i+1:Nat):Int),by rw[ah (by decide),iI (by omega) (by omega)];rfl,⟨i+1,rfl,h,λx CV=>?_⟩,by simp;omega⟩;rw[eF h] at CV;rcases aQ.1 CV with CV |CV
     ·exact hd x CV
     ·rw[aD] at CV;subst CV;exact hx
   ·rw[ah (by simpa using h)]
    refine .inr ⟨_,rfl,.inl ⟨rfl,?_⟩⟩;have:i=l.length:=by omega
    subst this
    rwa [ll] at hd) (s:=0) ⟨0,rfl,by omega,by simp⟩
 unfold cR;rw[he];rcases hR with ⟨rfl,h⟩ |⟨i,rfl,h1,h2,h3⟩
 ·exact .inl ⟨rfl,h⟩
 ·exact .inr ⟨i,h1,rfl,h2,h3⟩
theorem Wn (l:List Int) (hl:l.length≤268435456) (m:List (Int×Int)) (t:Int) (M:List (Int×ab)) (k:Int):cG l m t M k=some (l.filter λx=>!jU m M k t x):=by
 unfold cG;rcases YI l hl m t M k with ⟨h1,h2⟩ |⟨i,hi,h1,h2,x,h3,h4⟩
 ·rw[h1]
  simp only[aa];rw[ai (by decide),fC.2 λx hx=>by rw[h2 x hx];rfl]
 ·rw[h1]
  simp only[aa];rw[ah (by simp)];have VY:∀(l:List Int) (j:Nat) (h:j < l.length),(l.take (j+1)).filter (λx=>!jU m M k t x)=(l.take j).filter (λx=>!jU m M k t x)++if jU m M k t l[j]=true then [] else [l[j]]:=λl j h=>by
   rw[eF h,List.filter_append]
   congr 1
   cases hx:jU m M k t l[j] <;> simp[hx]
  obtain⟨e,he,hR⟩:=qu (body:=df m t M k)
   (λs:Int×Int×List Int=>∃a b:Nat,s.1=(a:Int)∧s.2.1=(b:Int)∧a < b∧b≤l.length∧s.2.2.length=l.length∧s.2.2.drop b=l.drop b∧s.2.2.take a=(l.take b).filter λx=>!jU m M k t x)
   (λs=>l.length - s.2.1.toNat) (λe:Int×List Int=>∃a:Nat,e.1=(a:Int)∧a < l.length∧e.2.length=l.length∧e.2.take a=l.filter λx=>!jU m M k t x)
   (λ⟨s1,s2,s3⟩ ⟨a,b,e1,e2,PR,hb,hlen,Ay,KD⟩=>by
    simp only at e1 e2 hlen Ay KD;subst e1;subst e2;unfold df;simp only;by_cases h:b < s3.length
    ·have Ad:b < l.length:=by omega
     have hel:s3[b]=l[b]:=by
      have:=bR (·[0]?) Ay;simp only[dc,ov] at this;rw[ae h,ae Ad] at this;exact af this
     have Tf:s3.drop (b+1)=l.drop (b+1):=by rw[← List.drop_drop,←List.drop_drop,Ay]
     rw[ai (by simpa using h),eV (by constructor;omega;simpa using h),dj h];simp only[aa,OB,hel];cases hx:jU m M k t l[b] with
     |true=>
      refine .inl ⟨_,ah (by decide),⟨a,b+1,rfl,by simp only;rw[iI (by omega) (by omega)];rfl,by omega,by omega,hlen,Tf,?_⟩,?_⟩
      ·simp only;rw[KD,VY l b Ad,ai hx,kj]
      ·simp only;rw[iI (by omega) (by omega)];omega
     |false=>
      rw[ai (by decide),eV (by constructor;omega;simp;omega),dj (show a < s3.length by omega)];refine .inl ⟨_,rfl,⟨a+1,b+1,by simp only;rw[iI (by omega) (by omega)];rfl,by simp only;rw[iI (by omega) (by omega)];rfl,by omega,by omega,by simp[hlen],?_,?_⟩,?_⟩
      ·simp only[eu]
       rw[List.drop_set_of_lt (by omega),Tf]
      ·simp only[eu]
       rw[eF (by simp;omega),List.getElem_set_self,List.take_set_of_le (by omega),KD,VY l b Ad,ah (by rw[hx];decide)]
      ·simp only;rw[iI (by omega) (by omega)];omega
    ·rw[ah (by simpa using h)]
     have:b=l.length:=by omega
     subst this;exact .inr ⟨_,rfl,a,rfl,PR,hlen,by simpa using KD⟩) (s:=((i:Int),IntKind.i64.wrap ((i:Int)+1),l)) ⟨i,i+1,rfl,by simp only;rw[iI (by omega) (by omega)];rfl,by omega,by omega,rfl,rfl,by
    have h3':l[i]=x:=by rw[ae hi] at h3;exact af h3
    simp only;rw[VY l i hi,h3',ai h4,kj,fC.2 λx hx=>by rw[h2 x hx];rfl]⟩
  obtain⟨e1,e2⟩:=e;obtain⟨a,ha,Jn,hlen,KD⟩:=hR;simp only at ha hlen KD;subst ha;rw[he];simp only[aa];rw[eV (by omega)];simp only[aa,eu];rw[eV (by simp;omega)];simp only[aa];rw[nY (by simp;omega),List.take_take,Nat.min_self,KD]
noncomputable def yB (a0:ao) (all:List (Int×ab)) (objs:List (Int×ab)) (kind t:Int):List Int:=
 (vU a0 all).filter λid=>!((decide (t < ((iP a0 all a0.aC.length id).getD 0)))||((((br cK objs id).getD (⟨0,0,[],[],0,[],ByteArray.empty,0⟩:ab)).Kind) != kind))
theorem Ng {a0:ao} {all objs:List (Int×ab)} {m:List (Int×Int)} (hm:sb a0 all a0.aC.length m) (hl:(vU a0 all).length≤1000000) (kind t:Int):uB m objs kind t=some (yB a0 all objs kind t):=by
 have hs:((m.map (·.1)).mergeSort λx y=>decide (x≤y))=vU a0 all:=Bk hm;have Us:m.length≤1000000:=by
  rw[← hs,ui,bq] at hl;exact hl
 unfold uB;rw[eV Us,hs];simp only[aa];rw[Wn _ (by omega)];unfold yB
 congr 2
 funext id
 unfold jU;rw[hm.eq]
end Go.Vl
namespace Go.Vl
open Go
noncomputable def pb (t:Int) (L:List (Int×List dG)) (x:aB):List (Int×List dG):=eD cK L x.ID ((br cK L x.ID).getD []++[⟨0,x.Name,t⟩])
noncomputable def nU (objs:List (Int×ab)) (seen:Int→Int):List Int→Int→Nat→List (Int×List dG)→Option (Option (List (Int×List dG)))
 |[],_,_,L=>some (some L)
 |c::cs,left,uV,L=>(iH objs c left).bind λr=>
  if(!r.2)=true then some none else
  (ck (uV+r.1.length≤200000000)).bind λ_=>nU objs seen cs (IntKind.i64.wrap (left - (r.1.length:Int))) (uV+r.1.length) (r.1.foldl (pb (seen c)) L)
noncomputable def lK (y5:List Int) (y2:List (Int×ab)) (PL:List (Int×List dG)) (s7:Int×(List bU)):Option (Lp (Int×(List bU)) (List bU)):=
 if(decide (s7.1 < ((y5).length:Int)))=true then
  (idx y5 s7.1).bind λx8=>
  (mZ (((br cK y2 x8).getD (⟨0,0,[],[],0,[],ByteArray.empty,0⟩:ab)).Data)).bind λy9=>
  (ck ((s7.2).length+([(⟨y9,((br cK PL x8).getD [])⟩:bU)]).length≤268435456)).bind λ_=>
  some (.go (IntKind.i64.wrap (s7.1+1),(s7.2++[(⟨y9,((br cK PL x8).getD [])⟩:bU)])))
 else
  some (.out s7.2)
noncomputable def la (a0:ao) (a1:Int):Option ((List bU)×Int):=
 (jy a0).bind λy1=>
 if(y1 != 0)=true then
  some ([],y1)
 else
 (po a0).bind λy2=>
 (ic a0).bind λp=>
 (open Classical in ck (OkH a0 p.1∧(vU a0 p.1).length≤1000000)).bind λ_=>
 (nU y2 (λc=>(iP a0 p.1 a0.aC.length c).getD 0) (yB a0 p.1 y2 3 a1) 2000 0 []).bind λo=>
 match o with
 |none=>some ([],3)
 |some PL=>
  (iter (lK (yB a0 p.1 y2 1 a1) y2 PL) (0,[])).bind λv6=>
  some (v6,0)
noncomputable def pq (a0:ao) (a1:Int):Option (List Int):=
 (jy a0).bind λy1=>
 if(y1 != 0)=true then
  some []
 else
 (po a0).bind λy2=>
 (ic a0).bind λp=>
 (open Classical in ck (OkH a0 p.1∧(vU a0 p.1).length≤1000000)).bind λ_=>
 some (yB a0 p.1 y2 1 a1)
end Go.Vl
