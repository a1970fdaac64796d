/- The IDs that an object names: history.named. Conditions: none. -/
import Derived.Test.YtjnflahicimmlaaGreatDoorVmSl
import Derived.Test.YtjnflahicimmlaaGreatDoorPlG
import Derived.Test.YtjnflahicimmlaaGreatDoorJq
set_option maxHeartbeats 1000000
set_option linter.unusedSimpArgs false
set_option linter.unusedVariables false
namespace Go.Vl
open Go
def gp (o:ab):List Int:=o.bf++o.bd.map (·.ID)++(if o.Kind=3 then [o.Tree] else [])
def zj (o:ab):Bool:=decide (o.bf.length≤1000000)&&decide (o.bd.length≤1000000)
def mR (o:ab):Option (List Int):=if zj o=true then some (gp o) else none
end Go.Vl
namespace Go.Vl
open Go Go.Proofs
noncomputable def I5 (a0:List Int):Option (List Int):=
 (ck ((a0).length≤268435456)).bind λ_=>
 some a0
noncomputable def vN (a0:ab) (s3:Int×(List Int)):Option (Lp (Int×(List Int)) (List Int)):=
 if(decide (s3.1 < ((a0.bd).length:Int)))=true then
  (idx a0.bd s3.1).bind λx4=>
  (ck ((s3.2).length+([x4.ID]).length≤268435456)).bind λ_=>
  some (.go (IntKind.i64.wrap (s3.1+1),(s3.2++[x4.ID])))
 else
  some (.out s3.2)
noncomputable def IH (a0:ab):Option ((List Int)):=
 (I5 a0.bf).bind λy1=>
 (iter (vN a0) (0,y1)).bind λv2=>
 if(a0.Kind==3)=true then
  (ck ((v2).length+([a0.Tree]).length≤268435456)).bind λ_=>
  some (v2++[a0.Tree])
 else
  some v2
theorem Qa {a0:List Int} {r:List Int} (h0:I5 a0=some r):nV Tryz.prog 75 [] [] [.d (.slice (ak (aH .i64) a0))] (.vec (wa 0)) [] [⟨3,1,ak (aH .i64) r⟩]:=by
 unfold I5 at h0;obtain⟨_,p1,h0⟩:=bI h0;replace p1:=bT p1;cases h0;refine yr (nt:=8) (rs:=[.tmp 2]) Tryz.func75 rfl Tryz.ntmps75 rfl (by simp) (by decide) rfl λK=>?_
 refine kR [0,2] ?_;cases a0 with
 |nil=>
  refine aF ?_;refine kc ?_;refine kO [0,3] 1 ?_;refine OT (by simp) rfl rfl (by simp) (by simp) (by simp) Tryz.underlying22 λb=>?_
  refine ar ?_;refine gJ (b) (λh=>?_) (λh=>?_)
  ·refine kR [2] ?_
   refine dp (pX 2 7 3 1 (by simp) (by simp)) ?_;exact fo ⟨[],[7],by simp,by simp,by simp,by simp,by simp⟩
  ·refine aN ?_
   refine kR [2] ?_;exact fo ⟨[],[7],by simp,by simp,by simp,by simp,by simp⟩
 |cons x l=>
  refine aF ?_;refine kR [0,4] ?_;refine gJ (false) (λh=>by cases h) (λ_=>?_);refine aN ?_;have p2:=p1;simp at p2;refine kr [2] (by simp[p1,p2];rfl) ?_;exact fo ⟨[],[7],by simp,by simp,by simp,by simp,by simp⟩
theorem PJ {a0:ab} {r:(List Int)} (h0:IH a0=some r):dY Tryz.prog 85 [] [.agg (bc a0)] (.d (.slice (ak (aH .i64) r))) []:=by
 unfold IH at h0;refine dS (nt:=31) (rs:=[.tmp 2]) Tryz.func85 rfl Tryz.ntmps85 rfl (by simp) (by decide) rfl λK=>?_
 refine kR [1] ?_;refine kc ?_;refine kO [1,7] 2 ?_;obtain⟨y1,oC,h0⟩:=bI h0;refine jQ [1,8] [] [] [600032] (Qa oC) rfl rfl rfl Tryz.call75 (by simp) (by simp;rfl) ?_;refine kO [1,3] 1 ?_;refine ar ?_;refine aF ?_;refine kR [1,3,10,11,12] ?_;obtain⟨e1,jR,h0⟩:=bI h0;refine oa (λv2:(List Int)=>(⟨31,[(1,.ptr 1 0),(3,.vec 600032)],[(1,(bc a0))],[(600032,⟨3,1,ak (aH .i64) v2⟩)]⟩:St)) (λv2=>v2=e1) (λv2 eP _ W1=>?_) ?_
 ·subst eP
  refine dp W1 ?_;refine aF ?_;refine kR [1,3,24] ?_;refine gJ ((a0.Kind==3)) (λc3=>?_) (λc3=>?_)
  ·rw[ai c3] at h0
   obtain⟨_,p5,h0⟩:=bI h0;replace p5:=bT p5;have Qv:=p5;try simp at Qv
   refine lr (by simp[p5,Qv];rfl) ?_;refine kR [2] ?_;cases h0;exact fo ⟨[29],by simp,rfl,by simp⟩
  ·rw[ah (by rw[c3];decide)] at h0
   refine aN ?_;refine kR [2] ?_;cases h0;exact fo ⟨[600032],by simp,rfl,by simp⟩
 ·refine aO (cA (λs3:Int×(List Int)=>(⟨31,[(1,.ptr 1 0),(3,.vec 600032),(10,.d (.slice (ak aw a0.bd))),(11,.d (.int .i64 ((a0.bd).length:Int))),(12,.d (.int .i64 s3.1))],[(1,(bc a0))],[(600032,⟨3,1,ak (aH .i64) s3.2⟩)]⟩:St)) jR cq λG1 s3 o1 h1 gY iq=>?_)
  unfold vN at h1;refine kR [1,3,10,11,12,13] ?_;refine aF ?_;refine cF (b:=(decide (s3.1 < ((a0.bd).length:Int)))) (by simp) (λc4=>?_) (λc4=>?_)
  ·rw[ai c4] at h1
   refine aN ?_;refine aF ?_;refine aO ?_;obtain⟨x4,p6,h1⟩:=bI h1;replace p6:=bD p6;have WO:=p6;try simp at WO
   refine kr [1,3,5,10,11,12] (by simp[p6,WO];rfl) ?_;obtain⟨_,p7,h1⟩:=bI h1;replace p7:=bT p7;have p7':=p7;try simp at p7'
   refine lr (by simp[p7,p7'];rfl) ?_;refine lr (by simp;rfl) ?_;exact⟨_,gY _ (af h1),Wk.trans (sx 20 600032) cq⟩
  ·rw[ah (by rw[c4];decide)] at h1
   refine bZ ?_;exact⟨_,iq _ (af h1),cq⟩
theorem PI {o:ab} (h:zj o=true):IH o=some (gp o):=by
 unfold zj at h;simp only[aR,bg] at h;unfold IH I5 gp;rw[eV (by omega)];simp only[aa];have hl:=CU (body:=vN o) o.bd (λi l=>((i:Int),l)) (λl x=>l++[x.ID]) (λl=>l) (λi l=>l.length=o.bf.length+i) (λi hi l h1=>by
  refine⟨?_,by simp[h1];omega⟩;unfold vN;simp only;rw[ai (by simp <;> omega),dj hi,iI (by omega) (by omega)];simp only[aa];rw[eV (by simp;omega)]
  rfl) (λl _=>by
  unfold vN;simp only;rw[ah (by simp)]) o.bf (by simp)
 have hf:∀(l:List aB) (s:List Int),l.foldl (λl x=>l++[x.ID]) s=s++l.map (·.ID):=λl=>by
  induction l with
  |nil=>intro s;simp
  |cons x l ih=>intro s;rw[ea,ih];simp
 rw[hf] at hl;rw[show ((0,o.bf):Int×List Int)=(((0:Nat):Int),o.bf) from rfl,hl.1];simp only[aa];by_cases hk:o.Kind=3
 ·rw[ai (by simpa using hk),eV (by have:=hl.2;simp at this ⊢;omega),ai hk];rfl
 ·rw[ah (by simpa using hk),ah hk];simp
theorem vP {a0:ab} {r:List Int} (h0:mR a0=some r):dY Tryz.prog 85 [] [.agg (bc a0)] (.d (.slice (ak (aH .i64) r))) []:=by
 unfold mR at h0;split at h0
 case isFalse=>cases h0
 rename_i h;cases h0;exact PJ (PI h)
end Go.Vl
namespace Go.Vl
open Go
noncomputable def jT (a0:Int) (a1:List (Int×ab)):Option (Bool):=
 some ((br cK a1 a0).isSome)
noncomputable def dA (a0:List Int) (b10:List (Int×ab)) (s2:Int):Option (Lp Int (Unit ⊕ Int)):=
 if(decide (s2 < ((a0).length:Int)))=true then
  (idx a0 s2).bind λx3=>
  (jT x3 b10).bind λy4=>
  if y4=true then
   some (.out (.inr s2))
  else
   some (.go (IntKind.i64.wrap (s2+1)))
 else
  some (.out (.inl ()))
noncomputable def eA (a0:List Int) (b10:List (Int×ab)):Option (Int):=
 (iter (dA a0 b10) 0).bind λq6=>
 match q6 with
 | .inl v1=>
  some (-1)
 | .inr r5=>
  some r5
noncomputable def dX (a0:List Int) (b10:List (Int×ab)):Option (Bool):=
 (eA a0 b10).bind λy1=>
 some (decide (0≤y1))
noncomputable def lG (a0:Int) (a1:ab) (a2:List (Int×ab)):Option (Bool):=
 (mR a1).bind λy1=>
 (dX y1 a2).bind λy2=>
 some (!y2)
end Go.Vl
namespace Go.Vl
open Go Go.Proofs
theorem vn {a0:Int} {a1:List (Int×ab)} {r:Bool} (h0:jT a0 a1=some r):dY Tryz.prog 86 [] [.d (.int .i64 a0),.cN [.mp (bL 71 1 false true) 9 (ak (bB (aH .i64) au) a1)] 0] (.d (.bool r)) []:=by
 unfold jT at h0;refine dS (nt:=13) (rs:=[.tmp 3]) Tryz.func86 rfl Tryz.ntmps86 rfl (by simp) (by decide) rfl λK=>?_
 refine kR [0,1] ?_;refine kR [5] ?_;refine kR [3] ?_;cases h0;exact fM
theorem kK {a0:List Int} {b10:List (Int×ab)} {r:Int} (h0:eA a0 b10=some r):dY Tryz.prog 94 [] [.d (.slice (ak (aH .i64) a0)),.fn 86 [.cN [.mp (bL 71 1 false true) 9 (ak (bB (aH .i64) au) b10)] 0]] (.d (.int .i64 r)) []:=by
 unfold eA at h0;refine dS (nt:=19) (rs:=[.tmp 4]) Tryz.func94 rfl Tryz.ntmps94 rfl (by simp) (by decide) rfl λK=>?_
 refine kR [0,1] ?_;refine aF ?_;refine kR [0,1,7,8] ?_;obtain⟨e1,jR,h0⟩:=bI h0;refine oa (λv1:Unit=>(⟨19,[],[],[]⟩:St)) (λv1=>.inl v1=e1) (λv1 eP _ W1=>?_) ?_
 ·subst eP
  dsimp only at h0;refine dp W1 ?_;refine kR [4] ?_;cases h0;exact fM
 ·refine aO (cA (λs2:Int=>(⟨19,[(0,.d (.slice (ak (aH .i64) a0))),(1,.fn 86 [.cN [.mp (bL 71 1 false true) 9 (ak (bB (aH .i64) au) b10)] 0]),(7,.d (.int .i64 ((a0).length:Int))),(8,.d (.int .i64 s2))],[],[]⟩:St)) jR cq λG1 s2 o1 h1 gY iq=>?_)
  unfold dA at h1;refine kR [0,1,7,8,9] ?_;refine aF ?_;refine cF (b:=(decide (s2 < ((a0).length:Int)))) (by simp) (λc5=>?_) (λc5=>?_)
  ·rw[ai c5] at h1
   refine aN ?_;refine aF ?_;refine aO ?_;refine kR [0,1,5,7,8] ?_;refine kc ?_;obtain⟨x3,p3,h1⟩:=bI h1;replace p3:=bD p3;have og:=p3;try simp at og
   refine ko [0,1,5,7,8,11,15] 5 (by simp[p3,og];rfl) ?_;obtain⟨y4,zh,h1⟩:=bI h1;refine jQ [0,1,5,7,8,16] [] [] [] (vn zh) rfl rfl rfl Tryz.call86 (by simp) (by simp;rfl) ?_;refine ar ?_;refine gJ (y4) (λc6=>?_) (λc6=>?_)
   ·rw[ai c6] at h1
    refine kR [4] ?_;have k1:=iq _ (af h1);subst k1;dsimp only at h0;cases h0;exact fM
   ·rw[ah (by rw[c6];decide)] at h1
    refine aN ?_;refine lr (by simp;rfl) ?_;exact⟨_,gY _ (af h1),cq⟩
  ·rw[ah (by rw[c5];decide)] at h1
   refine bZ ?_;exact⟨_,iq _ (af h1),cq⟩
theorem jF {a0:List Int} {b10:List (Int×ab)} {r:Bool} (h0:dX a0 b10=some r):dY Tryz.prog 84 [] [.d (.slice (ak (aH .i64) a0)),.fn 86 [.cN [.mp (bL 71 1 false true) 9 (ak (bB (aH .i64) au) b10)] 0]] (.d (.bool r)) []:=by
 unfold dX at h0;refine dS (nt:=9) (rs:=[.tmp 4]) Tryz.func84 rfl Tryz.ntmps84 rfl (by simp) (by decide) rfl λK=>?_
 refine kR [0,1] ?_;refine kc ?_;refine kO [5,6] 2 ?_;obtain⟨y1,oC,h0⟩:=bI h0;refine ku [7] (kK oC) Tryz.call94 ?_;refine kO [4] 2 ?_;refine ar ?_;cases h0;exact fM
theorem wN {a0:Int} {a1:ab} {a2:List (Int×ab)} {r:Bool} (h0:lG a0 a1 a2=some r):dY Tryz.prog 83 [] [.d (.int .i64 a0),.agg (bc a1),.cN [.mp (bL 71 1 false true) 9 (ak (bB (aH .i64) au) a2)] 0] (.d (.bool r)) []:=by
 unfold lG at h0;refine dS (nt:=11) (rs:=[.tmp 5]) Tryz.func83 rfl Tryz.ntmps83 rfl (by simp) (by decide) rfl λK=>?_
 refine kR [2,4] ?_;refine kc ?_;refine kO [2,6] 1 ?_;obtain⟨y1,oC,h0⟩:=bI h0;refine ku [2,7] (vP oC) Tryz.call85 ?_;refine kO [7,8] 1 ?_;obtain⟨y2,DM,h0⟩:=bI h0;refine ku [9] (jF DM) Tryz.call84 ?_;refine kO [5] 2 ?_;refine ar ?_;cases h0;exact fM
end Go.Vl
