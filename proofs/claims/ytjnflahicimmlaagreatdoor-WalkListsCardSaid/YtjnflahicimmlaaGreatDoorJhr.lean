/- ref15.reach, ref15.At: their contracts. Conditions: none. -/
import Derived.Test.YtjnflahicimmlaaGreatDoorJq1
import Derived.Test.YtjnflahicimmlaaGreatDoorJRw
import Derived.Test.YtjnflahicimmlaaGreatDoorVmHx
set_option maxHeartbeats 2000000
set_option linter.unusedSimpArgs false
set_option linter.unusedVariables false
namespace Go.Vl
open Go Go.Proofs Go.RowKit
theorem WM {P:Program} {K:Ctx P} {st:St} {a:Act} {w:World} {p:Pl} (R:Rel K st a w p) {t n:Nat} (h:get st.env t=some (.vec n)):a.eval (.tmp t)=p.rw n:=by
 have:=R.env t (.vec n) h;simp only[Act.eval];generalize a.tmps.getD t undef=u at this;cases this;rfl
theorem Tt {l:List ab} (hz:∀o∈l,o.bd.length≤1000000∧o.bf.length≤1000000) (id:Int):(lV l id).bd.length≤1000000∧(lV l id).bf.length≤1000000:=by
 unfold lV;cases h:l.find? (λo=>o.ID==id) with
 |none=>simp
 |some o=>exact hz o (List.mem_of_find?_eq_some h)
theorem MX {l:List ab} (hl:l.length≤1000000) (id:Int):∃b,pt l id=some (lV l id,b):=by
 rw[Ee hl];unfold lV;cases l.find? (λo=>o.ID==id) with
 |none=>exact⟨false,rfl⟩
 |some o=>exact⟨true,rfl⟩
theorem O9 {r:ao} (hl:r.aq.length≤1000000) (hz:∀o∈r.aq,o.bd.length≤1000000∧o.bf.length≤1000000):∀(n:Nat) {id:Int} {M M':List (Int×Bool)},nJ r.aq n id M=some M'→
  FO Tryz.prog 109 [] [⟨bL 103 1 false false,2,ak (bB (aH .i64) gm) M⟩] [.agg (ay r),.d (.int .i64 id),.vec (wa 0)] (.ia []) [] [⟨bL 103 1 false false,2,ak (bB (aH .i64) gm) M'⟩]:=by
 intro n
 induction n with
 |zero=>intro id M M' h;simp[nJ] at h
 |succ n ih=>
  intro id M M' h0;refine V4 (nt:=37) (rs:=[]) Tryz.func109 rfl Tryz.ntmps109 rfl (by simp) (by decide) rfl λK a w p hK R=>?_
  have Cm:K.lx=[]:=aI hK;generalize hp0:p=p0 at R;subst hp0;have hv:a.eval (.tmp 2)=p.rw 2000000:=WM R rfl;have fin:∀{Q:Exit} {s:St} {a':Act} {w':World} {p':Pl} {M1:List (Int×Bool)},Q=.ret∨Q=.normal→Rel K s a' w' p'→get s.env 2=some (.vec 2000000)→get s.vec 2000000=some ⟨bL 103 1 false false,2,ak (bB (aH .i64) gm) M'⟩→a'.eval (.tmp 2)=p.rw 2000000→
    (Q=.normal∨Q=.ret)∧∃s p',Rel K s a' w' p'∧∃τ:List Nat,T' Tryz.prog [] (.ia []) [] [⟨bL 103 1 false false,2,ak (bB (aH .i64) gm) M'⟩] τ s∧τ=(List.range 1).map (λi=>2000000+i)∧τ.map p'.rw=τ.map p.rw:=λ{Q s a' w' p' M1} hQ R' he hvv lE=>
   ⟨hQ.symm,s,p',R',[2000000],⟨rfl,rfl,trivial,⟨hvv,trivial⟩,by simp⟩,rfl,by
    have:=WM R' he;simp only[aW,cO];rw[← this,lE]⟩
  unfold nJ at h0;refine xF (ko [1,2,3] 1 (by simp[gk,kS];rfl) ct) (by simp) R hv λa w p1 R hv=>?_
  refine eU (xF (ko [1,2,3,12] 3 (by simp;rfl) ct) (by simp) R hv λa w p1 R hv=>?_);have h12:=uA R (t:=12) (b:=(br cK M id).getD false) (by simp[St.look,get]);refine dz h12 (λhc=>wp_ret ?_) λhc=>oJ (dB ?_)
  ·rw[ai hc] at h0
   cases h0;exact fin (M1:=[]) (.inl rfl) R (by simp[get]) (by simp[get]) hv
  rw[ah (by rw[hc];decide)] at h0;refine xF (ko [1,2,3] 3 (by simp;rfl) ct) (by simp) R hv λa w p1 R hv=>?_
  obtain⟨bb,acG⟩:=MX hl id;have gS:=Tt hz id;refine xF (ko [1,2,3,17,18] 3 (by simp;rfl) (jg [2,3,19] [] (vc acG) rfl rfl rfl Tryz.call71 (by simp) (by simp;rfl) (ko [2,3,6] 6 (by simp;rfl) ct))) (by simp) R hv λa w p1 R hv=>?_
  refine xF (ko [2,3,22] 1 (by simp;rfl) (jg [2,3,23] [] (xT (G0 gS.1 gS.2)) rfl rfl rfl Tryz.call127 (by simp) (by simp;rfl) (ko [2,3,8] 1 (by simp;rfl) ct))) (by simp) R hv λa w p1 R hv=>?_
  refine xF (ko [2,3,8,9] 1 (by simp;rfl) ct) (by simp) R hv λa w p1 R hv=>?_
  obtain⟨p2,R⟩:=R.kh (n:=3) (cs:=(ay r)) (row:=(aK r)) (by simp[get]) (by simp) hK (by decide) (λi hi=>absurd hi (fR i));obtain⟨p3,R,_⟩:=R.oK (cM:=(⟨37,[(2,.vec 2000000),(3,.cN (aK r) 0),(8,.d (.slice (ak (aH .i64) (fQ (lV r.aq id))))),(9,.d (.int .i64 0))],[],[(2000000,⟨bL 103 1 false false,2,ak (bB (aH .i64) gm) (eD cK M id true)⟩)]⟩:St)) (by simp[bw,St.kh]);have Ad:=FK gS;refine gn (gG (λn1 a w=>∃(j:Nat) (M1:List (Int×Bool)) (p1:Pl),Rel K (⟨37,[(2,.vec 2000000),(3,.cN (aK r) 0),(8,.d (.slice (ak (aH .i64) (fQ (lV r.aq id))))),(9,.d (.int .i64 (j:Int)))],[],[(2000000,⟨bL 103 1 false false,2,ak (bB (aH .i64) gm) M1⟩)]⟩:St) a w p1∧a.eval (.tmp 2)=p.rw 2000000∧((fQ (lV r.aq id)).drop j).foldlM (λM j=>nJ r.aq n j M) M1=some M'∧j≤(fQ (lV r.aq id)).length∧n1=(fQ (lV r.aq id)).length - j) (fQ (lV r.aq id)).length ⟨0,_,p3,R,hv,h0,cE _,rfl⟩ λn1 a w ⟨j,M1,p1,R,hv,lU,hj,IJ⟩=>?_);refine eU (xF (ko [2,3,8,9,27] 4 (by simp;rfl) ct) (by simp) R hv λa w p1 R hv=>?_);have h27:=uA R (t:=27) (b:=decide ((j:Int) < ((fQ (lV r.aq id)).length:Int))) (by simp[St.look,get]);refine dz h27 (λyq=>oJ (dB ?_)) λyq=>qQ ?_
  case refine_2=>
   have wj:j=(fQ (lV r.aq id)).length:=by have:=iB yq;omega
   subst wj;rw[cx (aM _)] at lU;simp only[List.foldlM_nil,Option.pure_def,ba] at lU;subst lU;refine eR (eR (ot ?_));exact fin (M1:=[]) (.inr rfl) R (by simp[get]) (by simp[get]) hv
  have wj:j < (fQ (lV r.aq id)).length:=by have:=gf yq;omega
  obtain⟨x,hx⟩:∃x,(fQ (lV r.aq id))[j]? =some x:=⟨_,ae wj⟩;have Ay:(fQ (lV r.aq id)).drop j=x::(fQ (lV r.aq id)).drop (j+1):=by
   rw[ae wj] at hx;rw[bN wj,af hx]
  rw[Ay,ux] at lU;obtain⟨M2,e2,lU⟩:=jW.1 lU;refine eU (gn ?_);obtain⟨p4,R,_⟩:=R.oK (cM:=(⟨37,[(2,.vec 2000000),(3,.cN (aK r) 0),(8,.d (.slice (ak (aH .i64) (fQ (lV r.aq id))))),(9,.d (.int .i64 (j:Int)))],[],[(2000000,⟨bL 103 1 false false,2,ak (bB (aH .i64) gm) M1⟩)]⟩:St)) (by simp[bw]);refine AD (st2:=(⟨37,[(2,.vec 2000000),(3,.cN (aK r) 0),(8,.d (.slice (ak (aH .i64) (fQ (lV r.aq id))))),(9,.d (.int .i64 (j:Int)))],[],[(2000000,⟨bL 103 1 false false,2,ak (bB (aH .i64) gm) M2⟩)]⟩:St)) [0,1,2,3,4,5] Cm sZ (by decide +kernel) rfl rfl rfl (by decide +kernel) (i:=6) rfl (by decide +kernel) (by decide +kernel) (by simp) R hv (by simp[gX,iZ,gB,gZ,hx];rfl) (λK'=>Sy [2,3,8,9] [] [2000000] [(2,2000000)] (ih e2) rfl rfl rfl Tryz.call109 (by simp) (by simp <;> rfl) ct) λa w p1 R hv=>?_
  refine lC (dB ?_);refine eW (wq (ko [2,3,8,9] 3 (by simp;rfl) ct) (by simp) R hv λa w p1 R hv=>?_);have hw:IntKind.i64.wrap ((j:Int)+1)=(j:Int)+1:=iI (by omega) (by omega);obtain⟨p5,R,_⟩:=R.oK (cM:=(⟨37,[(2,.vec 2000000),(3,.cN (aK r) 0),(8,.d (.slice (ak (aH .i64) (fQ (lV r.aq id))))),(9,.d (.int .i64 ((j+1:Nat):Int)))],[],[(2000000,⟨bL 103 1 false false,2,ak (bB (aH .i64) gm) M2⟩)]⟩:St)) (by simp[bw,hw]);exact⟨(fQ (lV r.aq id)).length - (j+1),by omega,j+1,M2,p5,R,hv,lU,by omega,rfl⟩
theorem zt (e:az) (s:List aB×Bool×Bool):(fL e s).1.length≤s.1.length+1:=by
 unfold fL;simp only;split
 ·split
  ·split
   ·simp
   ·simp <;> omega
  ·split
   ·simp <;> omega
   ·simp
 ·split
  ·simp <;> omega
  ·simp
theorem EO (t:Int):∀(l:List az) (s:List aB×Bool×Bool),(nM t l s).1.length≤s.1.length+l.length
 |[],s=>by simp[nM]
 |e::l,s=>by
  rw[nM];split
  ·simp
  ·have h1:=EO t l (fL e s)
   have h2:=zt e s;simp only[cQ];omega
theorem adm (AY:∀{a0:ao} {a1:Int} {r:List aB×Bool×Bool},ja a0 a1=some r→dY Tryz.prog 106 [] [.agg (ay a0),.d (.int .i64 a1)] (.ia [.d (.slice (ak aw r.1)),.d (.bool r.2.1),.d (.bool r.2.2)]) [])
  {a0:ao} {a1:Int} {r:List (Int×Bool)} (h0:vE a0 a1=some r):dY Tryz.prog 70 [] [.agg (ay a0),.d (.int .i64 a1)] (.d (.mp (bL 103 1 false false) 2 (ak (bB (aH .i64) gm) r))) []:=by
 unfold vE at h0;obtain⟨y,hy,h0⟩:=bI h0;obtain⟨_,gS,h0⟩:=bI h0;replace gS:=bT gS;obtain⟨n,sJ⟩:∃n,ZY a0.aq n y.1=some r:=by
  split at h0
  ·rename_i hex
   cases h0;exact⟨_,de (de hex)⟩
  ·cases h0
 have hyl:y.1.length≤1000000:=by
  unfold ja at hy;obtain⟨_,tv,hy⟩:=bI hy;replace tv:=bT tv;cases hy;exact bO (EO a1 a0.aC ([],true,true)) (by simpa using tv)
 refine tY (nt:=33) (rs:=[.tmp 4]) Tryz.func70 rfl Tryz.ntmps70 rfl (by simp) (by decide) rfl λK hK=>?_
 have Cm:K.lx=[]:=aI hK;refine kR [1,2] ?_;refine kR [1,2,5] ?_;refine kc ?_;refine kO [2,5,12,13] 2 ?_;refine ku [2,5,14] (AY hy) Tryz.call106 ?_;refine kO [2,5,6] 7 ?_;refine ar ?_;refine aF ?_;refine kR [2,5,6,9] ?_;refine rp 2 (ay a0) (aK a0) (by simp) (by simp) hK (by decide) (λi hi=>absurd hi (fR i)) ?_;refine oa (λ_:Unit=>(⟨33,[(5,.vec 10)],[],[(10,⟨bL 103 1 false false,2,ak (bB (aH .i64) gm) r⟩)]⟩:St)) (λ_=>True) (λ_ _ _ W1=>?_) ?_
 ·refine dp W1 ?_
  refine kR [4] ?_;exact fo ⟨[10],by simp,rfl,by simp⟩
 ·intro a w p R
  obtain⟨p1,R,_⟩:=R.oK (cM:=(⟨33,[(2,.cN (aK a0) 0),(5,.vec 10),(6,.d (.slice (ak aw y.1))),(9,.d (.int .i64 0))],[],[(10,⟨bL 103 1 false false,2,ak (bB (aH .i64) gm) []⟩)]⟩:St)) (by simp[bw,St.kh]);refine gn (gG (λn1 a w=>∃(j:Nat) (M1:List (Int×Bool)) (p1:Pl),Rel K (⟨33,[(2,.cN (aK a0) 0),(5,.vec 10),(6,.d (.slice (ak aw y.1))),(9,.d (.int .i64 (j:Int)))],[],[(10,⟨bL 103 1 false false,2,ak (bB (aH .i64) gm) M1⟩)]⟩:St) a w p1∧(y.1.drop j).foldlM (λM x=>nJ a0.aq n x.ID M) M1=some r∧j≤y.1.length∧n1=y.1.length - j) y.1.length ⟨0,_,p1,R,sJ,cE _,rfl⟩ λn1 a w ⟨j,M1,p1,R,lU,hj,IJ⟩=>?_);refine eU (xF (t:=5) (ko [2,5,6,9,21] 4 (by simp;rfl) ct) (by simp) R rfl λa w p1 R _=>?_);have h21:=uA R (t:=21) (b:=decide ((j:Int) < (y.1.length:Int))) (by simp[St.look,get]);refine dz h21 (λyq=>oJ (dB ?_)) λyq=>qQ ?_
  case refine_2=>
   have wj:j=y.1.length:=by have:=iB yq;omega
   subst wj;rw[cx (aM _)] at lU;simp only[List.foldlM_nil,Option.pure_def,ba] at lU;subst lU;refine eR (eR (ot ?_));exact⟨_,p1,R,(),trivial,cq⟩
  have wj:j < y.1.length:=by have:=gf yq;omega
  obtain⟨x,hx⟩:∃x,y.1[j]? =some x:=⟨_,ae wj⟩;have Ay:y.1.drop j=x::y.1.drop (j+1):=by
   rw[ae wj] at hx;rw[bN wj,af hx]
  rw[Ay,ux] at lU;obtain⟨M2,e2,lU⟩:=jW.1 lU;refine eU (gn ?_);obtain⟨p4,R,_⟩:=R.oK (cM:=(⟨33,[(2,.cN (aK a0) 0),(5,.vec 10),(6,.d (.slice (ak aw y.1))),(9,.d (.int .i64 (j:Int)))],[],[(10,⟨bL 103 1 false false,2,ak (bB (aH .i64) gm) M1⟩)]⟩:St)) (by simp[bw]);refine AD (t:=5) (st2:=(⟨33,[(2,.cN (aK a0) 0),(5,.vec 10),(6,.d (.slice (ak aw y.1))),(9,.d (.int .i64 (j:Int)))],[],[(10,⟨bL 103 1 false false,2,ak (bB (aH .i64) gm) M2⟩)]⟩:St)) [0,1,2,3,4,5,6] Cm sZ (by decide +kernel) rfl rfl rfl (by decide +kernel) (i:=7) rfl (by decide +kernel) (by decide +kernel) (by simp) R rfl (by simp[gX,iZ,gB,gZ,hx];rfl) (λK'=>Sy [2,5,6,9] [] [10] [(5,10)] (O9 gS.1 gS.2 n e2) rfl rfl rfl Tryz.call109 (by simp) (by simp <;> rfl) ct) λa w p1 R _=>?_
  refine lC (dB ?_);refine eW (wq (t:=5) (ko [2,5,6,9] 3 (by simp;rfl) ct) (by simp) R rfl λa w p1 R _=>?_);have hw:IntKind.i64.wrap ((j:Int)+1)=(j:Int)+1:=iI (by omega) (by omega);obtain⟨p5,R,_⟩:=R.oK (cM:=(⟨33,[(2,.cN (aK a0) 0),(5,.vec 10),(6,.d (.slice (ak aw y.1))),(9,.d (.int .i64 ((j+1:Nat):Int)))],[],[(10,⟨bL 103 1 false false,2,ak (bB (aH .i64) gm) M2⟩)]⟩:St)) (by simp[bw,hw]);exact⟨y.1.length - (j+1),by omega,j+1,M2,p5,R,lU,by omega,rfl⟩
end Go.Vl
