/- Walks: each function of the given program computes what its mirror says. Conditions: none. -/
import Derived.Test.YtjnflahicimmlaaGreatDoorJSw
import Derived.Test.YtjnflahicimmlaaGreatDoorJuw
set_option maxHeartbeats 4000000
set_option linter.unusedSimpArgs false
set_option linter.unusedVariables false
namespace Go.Vl
open Go Go.Proofs
theorem Eh {a0:ao} {a1:Int} {r:(List aB)×Int} (h0:nC a0 a1=some r):dY Tryz.prog 16 [] [.agg (ay a0),.d (.int .i64 a1)] (.ia [.d (.slice (ak aw r.1)),.d (.int .i64 r.2)]) []:=by
 unfold nC at h0;refine dS (nt:=28) (rs:=[.tmp 4,.tmp 5]) Tryz.func16 rfl Tryz.ntmps16 rfl (by simp) (by decide) rfl λK=>?_
 refine kR [1,2] ?_;refine aF ?_;refine kc ?_;refine kO [1,2,9] 1 ?_;obtain⟨y1,oC,h0⟩:=bI h0;refine ku [1,2,10] (tG oC) Tryz.call31 ?_;refine kO [1,2,6] 1 ?_;refine ar ?_;refine kR [1,2,6,12] ?_;refine gJ ((y1 != 0)) (λc1=>?_) (λc1=>?_)
 ·rw[ai c1] at h0
  refine kR [4,5] ?_;cases h0;exact fM
 ·rw[ah (by rw[c1];decide)] at h0
  refine aN ?_;refine aF ?_;refine kc ?_;refine kO [1,2,14,15] 2 ?_;obtain⟨y2,DM,h0⟩:=bI h0;refine ku [1,2,16] (kI DM) Tryz.call35 ?_;refine kO [1,2,18] 2 ?_;refine ar ?_;refine gJ ((y2.Kind != 3)) (λc2=>?_) (λc2=>?_)
  ·rw[ai c2] at h0
   refine kR [4,5] ?_;cases h0;exact fM
  ·rw[ah (by rw[c2];decide)] at h0
   refine aN ?_;refine kc ?_;refine kO [20,21] 2 ?_;obtain⟨y3,Ce,h0⟩:=bI h0;refine ku [22] (xR Ce) Tryz.call36 ?_;refine kO [7,8] 5 ?_;refine ar ?_;refine aF ?_;refine kR [7,26] ?_;refine gJ ((!y3.2)) (λc3=>?_) (λc3=>?_)
   ·rw[ai c3] at h0
    refine kR [4,5] ?_;cases h0;exact fM
   ·rw[ah (by rw[c3];decide)] at h0
    refine aN ?_;refine kR [4,5] ?_;cases h0;exact fM
end Go.Vl
namespace Go.Vl
open Go Go.Proofs Go.RowKit
theorem Ox:fZ Tryz.prog 56=some [.d (.int .i64 0),.d (.str ByteArray.empty),.d (.int .i64 0)]:=by kernel_rfl
theorem OA:wV Tryz.prog 56=true:=by kernel_rfl
theorem Oz:∀x,∀d∈cP x,qC d:=λx d hd=>by
 simp only[cP,aZ,fE,td] at hd;rcases hd with rfl |rfl |rfl <;> trivial
theorem ZA:(Tryz.prog.info? 54).map (λi=>(i.size,i.bytes,i.zero))=some (2,48,some (.agg #[.slice none 0 0,.slice none 0 0])):=by kernel_rfl
theorem Oy:fh Tryz.prog 52=some 1:=by kernel_rfl
theorem I3:fh Tryz.prog 54=some 2:=by kernel_rfl
theorem Le (w:World):(isAgg 52).run Tryz.prog w=.ok false w:=by
 simp[isAgg,aJ Tryz.underlying52]
def cL (out:List bU):List (D×List dG):=out.map λc=>(D.slice (ak (aH .u8) c.Data),c.vu)
theorem Wf (out:List bU) (d:List Int):cL out++[(D.slice (ak (aH .u8) d),[])]=cL (out++[⟨d,[]⟩]):=by simp[cL]
theorem ZH (out:List bU) (j:Nat) (q:bU) (l:List dG):(cL out).set j (D.slice (ak (aH .u8) q.Data),l)=cL (out.set j ⟨q.Data,l⟩):=by simp[cL,List.map_set]
theorem We (out:List bU):((cL out).map λq=>[q.1,D.slice (ak cP q.2)])=ak eL out:=by simp[cL,ak]
theorem drop_cons {α:Type} {l:List α} {i:Nat} {x:α} (h:l[i]? =some x):l.drop i=x::l.drop (i+1):=by
 have hi:=(aj.1 h).1;rw[ae hi] at h;rw[bN hi,af h]
open Classical in
theorem AM {a0:ao} {a1:Int} {r:List bU×Int} (h0:jG a0 a1=some r):dY Tryz.prog 10 [] [.agg (ay a0),.d (.int .i64 a1)] (.ia [.d (.slice (ak eL r.1)),.d (.int .i64 r.2)]) []:=by
 unfold jG at h0;refine tY (nt:=122) (rs:=[.tmp 4,.tmp 5]) Tryz.func10 rfl Tryz.ntmps10 rfl (by simp) (by decide) rfl λK hK=>?_
 have Cm:K.lx=[]:=aI hK;refine kR [1,2] ?_;refine aF ?_;refine kc ?_;refine kO [1,2,20] 1 ?_;obtain⟨y1,oC,h0⟩:=bI h0;refine ku [1,2,21] (tG oC) Tryz.call31 ?_;refine kO [1,2,6] 1 ?_;refine ar ?_;refine kR [1,2,6,23] ?_;refine gJ ((y1 != 0)) (λc1=>?_) (λc1=>?_)
 ·rw[ai c1] at h0
  refine kR [4,5] ?_;cases h0;exact fM
 rw[ah (by rw[c1];decide)] at h0;refine aN ?_;obtain⟨ids,agd,h0⟩:=bI h0;obtain⟨bl,Ad,h0⟩:=bI h0;obtain⟨cm,hcm,h0⟩:=bI h0;obtain⟨fi,VY,h0⟩:=bI h0;obtain⟨_,tv,h0⟩:=bI h0;replace tv:=bT tv;obtain⟨hbn,hcn⟩:=tv;obtain⟨z,hz,h0⟩:=bI h0;obtain⟨o,ho,h0⟩:=bI h0;refine rp 2 (ay a0) (aK a0) (by simp) (by simp) hK (by decide) (λi hi=>absurd hi (fR i)) ?_;refine dp (st1:=(⟨122,[(1,.d (.int .i64 a1)),(2,.cN (aK a0) 0)],[],[]⟩:St)) (wk (by simp[bw,St.kh])) ?_;refine kc ?_;refine kO [2,25,26] 2 ?_;refine ku [2,27] (xU agd) Tryz.call32 ?_;refine kO [2,7] 1 ?_;refine ar ?_;refine N2 (S0:=(⟨122,[(2,.cN (aK a0) 0),(8,.d (.slice (ak (aH .i64) bl))),(9,.d (.slice (ak (aH .i64) cm)))],[],[]⟩:St)) [0,1,3,4] 4 (by simpa using hK) sZ (by decide +kernel) rfl rfl rfl (by simp[gX,iZ,gB,gZ];rfl) (λK' S F C=>?_) ?_
 ·refine vk C [2] ?_
  refine bW rfl (ku [2,30,31,32] (xS Ad) Tryz.call33 (ar ?_)) trivial;refine vk C [5] ?_;refine bW rfl (ku [2,30,33] (xS hcm) Tryz.call33 (ar ?_)) trivial;refine vk C [6] ?_;refine bW rfl (sL ?_) trivial;refine vk C [7] ?_;refine bW rfl (sL ?_) trivial;exact kx C (by decide +kernel) ⟨rfl,bw.2 (by simp)⟩
 refine kc ?_;refine kO [2,8,9,34] 1 ?_;refine ku [2,8,9,35] (xV VY) Tryz.call34 ?_;refine kO [2,8,9,10] 1 ?_;refine ar ?_;refine kR [2,8,9,10,11] ?_;refine kR [2,8,9,10,11,12] ?_;intro a w p R;have H:HW K cP 54 56 3 11 (cL []) _ a w:=HW.start R Cm (by simp[St.look,get]);replace H:=H.qR (cM:=(⟨122,[(2,.cN (aK a0) 0),(8,.d (.slice (ak (aH .i64) bl))),(9,.d (.slice (ak (aH .i64) cm))),(10,.d (.mp (bL 73 1 false false) 2 (ak (bB (aH .i64) (aH .i64)) fi))),(12,.vec 36)],[],[(36,⟨bL 73 1 false false,2,ak (bB (aH .i64) (aH .i64)) ([]:List (Int×Int))⟩)]⟩:St)) (by simp[bw]);refine eU (H.xc (λK' _=>ko [2,8,9,10,12,13] 1 (by simp;rfl) ct) (by simp) λa w H=>?_);refine(gn (gG (λn a w=>∃(i:Nat) (out:List bU) (num:List (Int×Int)),HW K cP 54 56 3 11 (cL out) (⟨122,[(2,.cN (aK a0) 0),(8,.d (.slice (ak (aH .i64) bl))),(9,.d (.slice (ak (aH .i64) cm))),(10,.d (.mp (bL 73 1 false false) 2 (ak (bB (aH .i64) (aH .i64)) fi))),(12,.vec 36),(13,.d (.int .i64 (i:Int)))],[],[(36,⟨bL 73 1 false false,2,ak (bB (aH .i64) (aH .i64)) num⟩)]⟩:St) a w∧FC a0 (bl.drop i) i out num=some z∧i≤bl.length∧out.length≤i∧n=bl.length - i) bl.length ⟨0,[],[],H,hz,cE _,aM _,rfl⟩ λn a w ⟨i,out,num,H,hc,hi,FV,hn⟩=>?_));refine eU (H.xc (λK' _=>ko [2,8,9,10,12,13,40] 4 (by simp;rfl) ct) (by simp) λa w H=>?_);have h40:=H.bool (s:=40) (c:=decide ((i:Int) < (bl.length:Int))) (by simp[St.look,get]);refine(dz h40 (λyq=>oJ (dB ?_)) λyq=>qQ ?_)
 ·have ph:i < bl.length:=by have:=gf yq;omega
  obtain⟨b,hbb⟩:∃b,bl[i]? =some b:=⟨_,ae ph⟩;rw[drop_cons hbb] at hc;unfold FC at hc;obtain⟨ob,hob,hc⟩:=bI hc;refine eU (gn ?_);refine H.xc (λK' _=>ko [2,8,9,10,12,13] 7 (by simp[hbb];rfl) ct) (by simp) λa w H=>?_
  refine hU (Q:=λe a w=>e=.normal∧HW K cP 54 56 3 11 (cL (out++[⟨ob.Data,[]⟩])) (⟨122,[(2,.cN (aK a0) 0),(8,.d (.slice (ak (aH .i64) bl))),(9,.d (.slice (ak (aH .i64) cm))),(10,.d (.mp (bL 73 1 false false) 2 (ak (bB (aH .i64) (aH .i64)) fi))),(12,.vec 36),(13,.d (.int .i64 (i:Int)))],[],[(36,⟨bL 73 1 false false,2,ak (bB (aH .i64) (aH .i64)) (eD cK num b (i:Int))⟩)]⟩:St) a w) (H.draw (cM:=(⟨122,[(2,.cN (aK a0) 0),(8,.d (.slice (ak (aH .i64) bl))),(9,.d (.slice (ak (aH .i64) cm))),(10,.d (.mp (bL 73 1 false false) 2 (ak (bB (aH .i64) (aH .i64)) fi))),(12,.vec 36),(13,.d (.int .i64 (i:Int)))],[],[(36,⟨bL 73 1 false false,2,ak (bB (aH .i64) (aH .i64)) (eD cK num b (i:Int))⟩)]⟩:St)) (by simp[bw]) Cm sZ λK' p' v xs w' k1 k2 k3 R H6 Ba sW=>?_) λe a w ⟨he,H⟩=>?_
  case refine_2=>
   subst he;have hw:IntKind.i64.wrap ((i:Int)+1)=((i+1:Nat):Int):=by rw[iI (by omega) (by omega)];rfl
   refine lC (dB ?_);refine H.zM (λK' _=>ko [2,8,9,10,12,13] 3 (by simp;rfl) ct) (by simp) λa w H=>?_
   exact⟨bl.length - (i+1),by omega,i+1,_,_,H.qR (by simp[bw,hw]),hc,by omega,by simp;omega,rfl⟩
  refine(?_:wpAnyH Tryz.prog .any _ _ _ (11+1) _ a w');refine yL (i:=0) rfl (by decide +kernel) (by decide +kernel) (by decide +kernel) (λc a w q=>absurd q.1 (by simp)) rfl rfl rfl Ba (ng.of k1 R) ?_;have V6:(a.put (some 49) v).eval (.tmp 49)=v:=dm (by rw[R.nt];simp);have R2:=R.put (d:=49) (x:=.undef) (v:=v) .undef (by simp);clear Ba;generalize a.put (some 49) v=a at *;refine pD [49] (by decide +kernel) (λc a w q=>absurd q.1 (by simp)) (λw2 h q hq=>cT (h.agree k1 R sW _ hq)) (ng.of k1 R) (n:=6) [1,2,3,4,5] _ _ _ (by decide +kernel) (yb (by decide +kernel)) R2 (tE rfl rfl rfl (by simp[gX,iZ,gB,gZ,St.put,hbb];rfl)) λa4 R4 hk=>?_
  have V6:a4.eval (.tmp 49)=v:=(hk 49 (by simp)).trans V6;clear hk R2;refine(?_:wpAnyH Tryz.prog .any _ _ _ (5+1) _ a4 w');refine fv (rs:=[6]) (by decide +kernel) (by simp) λi' Fe=>?_
  rw[aD.1 Fe];refine XV rfl (jg [2,8,9,10,12,13,55] [] (kI hob) rfl rfl rfl Tryz.call35 (by simp) (by simp;rfl) ct) (by simp) R4 V6 λa5 w5 p5 R5 V6=>⟨ng.of k1 R5,?_⟩
  refine(?_:wpAnyH Tryz.prog .any _ _ _ (4+1) _ a5 w5);refine fv (rs:=[7]) (by decide +kernel) (by simp) λi' Fe=>?_
  rw[aD.1 Fe];refine wpOp_step R5 rfl rfl rfl (by simp;rfl) λu w6 p6 R6=>⟨ng.of k1 R6,?_⟩
  replace V6:(a5.put (some 56) u).eval (.tmp 49)=v:=(aX (by simp)).trans V6;generalize a5.put (some 56) u=a6 at *;refine(?_:wpAnyH Tryz.prog .any _ _ _ (3+1) _ a6 w6);refine fv (rs:=[8]) (by decide +kernel) (by simp) λi' Fe=>?_
  rw[aD.1 Fe];refine wpOp_step R6 rfl rfl rfl (by simp;rfl) λu w7 p7 R7=>⟨ng.of k1 R7,?_⟩
  replace V6:(a6.put (some 57) u).eval (.tmp 49)=v:=(aX (by simp)).trans V6;generalize a6.put (some 57) u=a7 at *;rw[← Wf];exact Pc k1 Cm k2 k3 R7 (H6.keep k1 R R7) Tryz.underlying34 ZA (by decide) (by simp[cL];omega) (by decide) (i1:=9) (i2:=10) (i3:=11) rfl rfl rfl rfl rfl rfl rfl rfl rfl rfl rfl rfl (by decide +kernel) (by decide +kernel) (by decide +kernel) (by decide +kernel) (by simp[ca,St.look,get,St.put]) V6 (by decide) (by simp[St.put]) (by simp[St.put]) (by simp[St.put]) (by simp[bw,St.put])
 have ph:i=bl.length:=by have:=iB yq;omega
 subst ph;rw[cx (aM _)] at hc;have Ul:z=(out,num):=(af hc).symm;subst Ul;refine eR (eR (ot (dB ?_)));replace H:=(H.wk (BJ 36)).qR (cM:=(⟨122,[(2,.cN (aK a0) 0),(9,.d (.slice (ak (aH .i64) cm))),(10,.d (.mp (bL 73 1 false false) 2 (ak (bB (aH .i64) (aH .i64)) fi))),(12,.d (.mp (bL 73 1 false false) 2 (ak (bB (aH .i64) (aH .i64)) num)))],[],[]⟩:St)) (by simp[bw,St.sY]);refine H.xc (λK' _=>ko [2,9,10,12,14] 1 (by simp;rfl) ct) (by simp) λa w H=>?_
 refine eU (H.xc (λK' _=>ko [2,9,10,12,14,15] 1 (by simp;rfl) ct) (by simp) λa w H=>?_);clear FV yq h40;dsimp only at ho;refine(gn (gG (λn a w=>∃(j uV:Nat) (out:List bU),HW K cP 54 56 3 11 (cL out) (⟨122,[(2,.cN (aK a0) 0),(9,.d (.slice (ak (aH .i64) cm))),(10,.d (.mp (bL 73 1 false false) 2 (ak (bB (aH .i64) (aH .i64)) fi))),(12,.d (.mp (bL 73 1 false false) 2 (ak (bB (aH .i64) (aH .i64)) num))),(14,.d (.int .i64 (uV:Int))),(15,.d (.int .i64 (j:Int)))],[],[]⟩:St) a w∧C7 a0 num (λc=>(br cK fi c).getD 0) (cm.drop j) uV out=some o∧j≤cm.length∧uV≤200000000∧n=cm.length - j) cm.length ⟨0,0,out,H,ho,cE _,cE _,rfl⟩ λn a w ⟨j,uV,out,H,hc,hj,VH,hn⟩=>?_));refine eU (H.xc (λK' _=>ko [2,9,10,12,14,15,63] 4 (by simp;rfl) ct) (by simp) λa w H=>?_);have h63:=H.bool (s:=63) (c:=decide ((j:Int) < (cm.length:Int))) (by simp[St.look,get]);refine(dz h63 (λyq=>oJ (dB ?_)) λyq=>qQ ?_)
 case refine_2=>
  have wj:j=cm.length:=by have:=iB yq;omega
  subst wj;rw[cx (aM _)] at hc;have FW:o=some out:=(af hc).symm;subst FW;cases h0;refine eR (eR (ot (dB ?_)));obtain⟨p',R'⟩:=H.show (λ_=>rfl);rw[We] at R';exact(kr [4,5] (by simp[St.put];rfl) (fM)) a w p' R'
 have wj:j < cm.length:=by have:=gf yq;omega
 obtain⟨c,V1⟩:∃c,cm[j]? =some c:=⟨_,ae wj⟩;rw[drop_cons V1] at hc;unfold C7 at hc;obtain⟨y,hy,hc⟩:=bI hc;obtain⟨_,tv,hc⟩:=bI hc;replace tv:=bT tv;refine eU (gn ?_);refine eU (H.held (S0:=(⟨122,[(2,.cN (aK a0) 0),(9,.d (.slice (ak (aH .i64) cm))),(10,.d (.mp (bL 73 1 false false) 2 (ak (bB (aH .i64) (aH .i64)) fi))),(12,.d (.mp (bL 73 1 false false) 2 (ak (bB (aH .i64) (aH .i64)) num))),(14,.d (.int .i64 (uV:Int))),(15,.d (.int .i64 (j:Int))),(16,.d (.slice (ak aw y.1))),(17,.d (.bool y.2))],[],[]⟩:St)) [0,1,2,3,4] 6 sZ (by decide +kernel) rfl rfl rfl (by simp[lB,uY,iZ,gB,gZ,V1];rfl) (λK2 S F C=>?_) (by simp) λa w H=>dB ?_)
 ·refine vk C [5] ?_
  refine bW rfl (ku [2,9,10,12,14,15,72] (xR hy) Tryz.call36 (ar ?_)) trivial;refine vk C [6] ?_;refine bW rfl (sL ?_) trivial;refine vk C [7,8] ?_;refine bW rfl (sL ?_) (bW rfl (sL ?_) trivial)
  ·refine vk C [8,9] ?_
   refine bW rfl (sL ?_) (bW rfl (sL ?_) trivial)
   ·refine vk C [9] ?_
    refine bW rfl (sL ?_) trivial;refine vk C [10] ?_;refine bW rfl (sL ?_) trivial;exact kx C (by decide +kernel) ⟨rfl,bw.2 (by simp)⟩
   ·refine vk C [8] ?_
    refine bW rfl (sL ?_) trivial;refine vk C [10] ?_;refine bW rfl (sL ?_) trivial;exact kx C (by decide +kernel) ⟨rfl,bw.2 (by simp)⟩
  ·refine vk C [7] ?_
   refine bW rfl (sL ?_) trivial;refine vk C [9] ?_;refine bW rfl (sL ?_) trivial;refine vk C [10] ?_;refine bW rfl (sL ?_) trivial;exact kx C (by decide +kernel) ⟨rfl,bw.2 (by simp)⟩
 refine H.xc (λK' _=>ko [2,9,10,12,14,15,16,17] 5 (by simp;rfl) ct) (by simp) λa w H=>?_
 have hw:IntKind.i64.wrap ((uV:Int)+(y.1.length:Int))=((uV+y.1.length:Nat):Int):=by rw[iI (by omega) (by omega)];rfl
 replace H:=H.qR (cM:=(⟨122,[(2,.cN (aK a0) 0),(9,.d (.slice (ak (aH .i64) cm))),(10,.d (.mp (bL 73 1 false false) 2 (ak (bB (aH .i64) (aH .i64)) fi))),(12,.d (.mp (bL 73 1 false false) 2 (ak (bB (aH .i64) (aH .i64)) num))),(14,.d (.int .i64 ((uV+y.1.length:Nat):Int))),(15,.d (.int .i64 (j:Int))),(16,.d (.slice (ak aw y.1))),(17,.d (.bool y.2))],[],[]⟩:St)) (by simp[bw,hw]);have akc:∀{a:Act} {w:World} {st:St},HW K cP 54 56 3 11 (cL out) st a w→st.nt=122→o=none→(∃p,Rel K st a w p):=λH _ _=>H.back
 cases DM:y.2 with
 |false=>
  rw[DM] at hc H;refine eU (H.xc (λK' _=>ko [84] 6 (by simp;rfl) ct) (by simp) λa w H=>?_);have h84:=H.bool (s:=84) (c:=true) (by simp[St.look,get]);refine(dz h84 (λ_=>?_) λIP=>by cases IP);rw[ai (by simp)] at hc;have FW:o=none:=(af hc).symm;subst FW;cases h0;obtain⟨p',R'⟩:=H.back;refine QN (Q:=λe s=>e=.ret∧Ub Tryz.prog [ResultVar.tmp 4,ResultVar.tmp 5] (AV.ia [AV.d (D.slice (ak eL [])),AV.d (D.int IntKind.i64 3)]) [] .ret s) R' (kr [4,5] (by simp;rfl) (fo ⟨rfl,[],by simp,rfl,by simp⟩)) λe s a' w' p' R' ⟨he,hq⟩=>?_
  subst he;exact⟨s,p',R',hq⟩
 |true=>
 rw[DM] at hc H;refine eU (H.xc (λK' _=>ko [2,9,10,12,14,15,16,84] 6 (by simp;rfl) ct) (by simp) λa w H=>?_);have h84:=H.bool (s:=84) (c:=decide (2000 < ((uV+y.1.length:Nat):Int))) (by simp[St.look,get]);refine(dz h84 (λIP=>?_) λIP=>oJ (dB ?_))
 ·rw[ai (by rw[IP];rfl)] at hc
  have FW:o=none:=(af hc).symm;subst FW;cases h0;obtain⟨p',R'⟩:=H.back;refine QN (Q:=λe s=>e=.ret∧Ub Tryz.prog [ResultVar.tmp 4,ResultVar.tmp 5] (AV.ia [AV.d (D.slice (ak eL [])),AV.d (D.int IntKind.i64 3)]) [] .ret s) R' (kr [4,5] (by simp;rfl) (fo ⟨rfl,[],by simp,rfl,by simp⟩)) λe s a' w' p' R' ⟨he,hq⟩=>?_
  subst he;exact⟨s,p',R',hq⟩
 rw[ah (by rw[IP];decide)] at hc;obtain⟨abo,hpl,hc⟩:=bI hc;refine H.xc (λK' _=>ko [2,9,10,12,14,15,16,18] 1 (by simp;rfl) ct) (by simp) λa w H=>?_
 refine gn (gG (λn a w=>∃(k:Nat) (out:List bU),HW K cP 54 56 3 11 (cL out) (⟨122,[(2,.cN (aK a0) 0),(9,.d (.slice (ak (aH .i64) cm))),(10,.d (.mp (bL 73 1 false false) 2 (ak (bB (aH .i64) (aH .i64)) fi))),(12,.d (.mp (bL 73 1 false false) 2 (ak (bB (aH .i64) (aH .i64)) num))),(14,.d (.int .i64 ((uV+y.1.length:Nat):Int))),(15,.d (.int .i64 (j:Int))),(16,.d (.slice (ak aw y.1))),(18,.d (.int .i64 (k:Int)))],[],[]⟩:St) a w∧zO num ((br cK fi c).getD 0) (y.1.drop k) out=some abo∧k≤y.1.length∧n=y.1.length - k) y.1.length ⟨0,out,H,hpl,cE _,rfl⟩ λn a w ⟨k,out,H,hp,hk,hn⟩=>?_);refine eU (H.xc (λK' _=>ko [2,9,10,12,14,15,16,18,88] 4 (by simp;rfl) ct) (by simp) λa w H=>?_);have h88:=H.bool (s:=88) (c:=decide ((k:Int) < (y.1.length:Int))) (by simp[St.look,get]);refine(dz h88 (λZj=>oJ (dB ?_)) λZj=>qQ ?_)
 case refine_2=>
  have MM:k=y.1.length:=by have:=iB Zj;omega
  subst MM;rw[cx (aM _)] at hp;have Y5:abo=out:=(af hp).symm;subst Y5;have hw:IntKind.i64.wrap ((j:Int)+1)=((j+1:Nat):Int):=by rw[iI (by omega) (by omega)];rfl
  refine eR (eR (ot (lC (dB ?_))));refine H.zM (λK' _=>ko [2,9,10,12,14,15] 3 (by simp;rfl) ct) (by simp) λa w H=>?_
  exact⟨cm.length - (j+1),by omega,j+1,_,_,H.qR (by simp[bw,hw]),hc,by omega,tv,rfl⟩
 have MM:k < y.1.length:=by have:=gf Zj;omega
 obtain⟨x,Um⟩:∃x,y.1[k]? =some x:=⟨_,ae MM⟩;rw[drop_cons Um] at hp;unfold zO at hp;obtain⟨q,hq,hp⟩:=bI hp;obtain⟨_,MT,hp⟩:=bI hp;replace MT:=bT MT;obtain⟨hq0,hqg⟩:=bD hq;refine eU (gn ?_);refine H.xc (λK' _=>ko [2,9,10,12,14,15,16,18,19] 8 (by simp[Um];rfl) ct) (by simp) λa w H=>?_
 obtain⟨jn,S8⟩:∃jn:Nat,(br cK num x.ID).getD 0=(jn:Int):=⟨_,(Int.toNat_of_nonneg hq0).symm⟩;rw[S8,eu] at hqg hp;have S7:(cL out)[jn]? =some (D.slice (ak (aH .u8) q.Data),q.vu):=by simp[cL,hqg]
 refine hU (Q:=λe a w=>e=.normal∧HW K cP 54 56 3 11 (cL (out.set jn ⟨q.Data,q.vu++[⟨0,x.Name,(br cK fi c).getD 0⟩]⟩)) (⟨122,[(2,.cN (aK a0) 0),(9,.d (.slice (ak (aH .i64) cm))),(10,.d (.mp (bL 73 1 false false) 2 (ak (bB (aH .i64) (aH .i64)) fi))),(12,.d (.mp (bL 73 1 false false) 2 (ak (bB (aH .i64) (aH .i64)) num))),(14,.d (.int .i64 ((uV+y.1.length:Nat):Int))),(15,.d (.int .i64 (j:Int))),(16,.d (.slice (ak aw y.1))),(18,.d (.int .i64 (k:Int)))],[],[]⟩:St) a w) (H.draw (cM:=(⟨122,[(2,.cN (aK a0) 0),(9,.d (.slice (ak (aH .i64) cm))),(10,.d (.mp (bL 73 1 false false) 2 (ak (bB (aH .i64) (aH .i64)) fi))),(12,.d (.mp (bL 73 1 false false) 2 (ak (bB (aH .i64) (aH .i64)) num))),(14,.d (.int .i64 ((uV+y.1.length:Nat):Int))),(15,.d (.int .i64 (j:Int))),(16,.d (.slice (ak aw y.1))),(18,.d (.int .i64 (k:Int))),(19,.d (.int .i64 (jn:Int)))],[],[]⟩:St)) (by simp[bw,S8]) Cm sZ λK' p' v xs w' k1 k2 k3 R H6 Ba sW=>?_) λe a w ⟨he,H⟩=>?_
 case refine_2=>
  subst he;have hw:IntKind.i64.wrap ((k:Int)+1)=((k+1:Nat):Int):=by rw[iI (by omega) (by omega)];rfl
  refine lC (dB ?_);refine H.zM (λK' _=>ko [2,9,10,12,14,15,16,18] 3 (by simp;rfl) ct) (by simp) λa w H=>?_
  exact⟨y.1.length - (k+1),by omega,k+1,_,H.qR (by simp[bw,hw]),hp,by omega,rfl⟩
 obtain⟨g,cp,v1,hv,zy,VR⟩:=H6.look S7 Le;have hjL:jn < (cL out).length:=(aj.1 S7).1;have C4:=Ba;clear Ba;refine(?_:wpAnyH Tryz.prog .any _ _ _ (23+1) _ a w');refine yL (i:=0) rfl (by decide +kernel) (by decide +kernel) (by decide +kernel) (λc a w q=>absurd q.1 (by simp)) rfl rfl rfl C4 (ng.of k1 R) ?_;have DN:(a.put (some 98) v).eval (.tmp 98)=v:=dm (by rw[R.nt];simp);replace C4:(a.put (some 98) v).eval (.tmp 11)=v:=(aX (by simp)).trans C4;have R2:=R.put (d:=98) (x:=.undef) (v:=v) .undef (by simp);generalize a.put (some 98) v=a at *;refine(?_:wpAnyH Tryz.prog .any _ _ _ (22+1) _ a w');refine yL (i:=2) rfl (by decide +kernel) (by decide +kernel) (by decide +kernel) (λc a w q=>absurd q.1 (by simp)) rfl rfl rfl C4 (ng.of k1 R) ?_;have K5:(a.put (some 100) v).eval (.tmp 100)=v:=dm (by rw[R2.nt];simp[St.put]);replace C4:(a.put (some 100) v).eval (.tmp 11)=v:=(aX (by simp)).trans C4;replace DN:(a.put (some 100) v).eval (.tmp 98)=v:=(aX (by simp)).trans DN;have R3:=R2.put (d:=100) (x:=.undef) (v:=v) .undef (by simp[St.put]);generalize a.put (some 100) v=a at *;clear R2;refine pD [11,98,100] (by decide +kernel) (λc a w q=>absurd q.1 (by simp)) (λw2 h q hq=>cT (h.agree k1 R sW _ hq)) (ng.of k1 R) (n:=10) [1,3,7,8,9,10,11,12,13,14,15,16] _ _ _ (by decide +kernel) (yb (by decide +kernel)) R3 (tE rfl rfl rfl (by simp[gX,iZ,gB,gZ,St.put,Um,V1];rfl)) λa4 R4 hk=>?_
 replace C4:a4.eval (.tmp 11)=v:=(hk 11 (by simp)).trans C4;replace DN:a4.eval (.tmp 98)=v:=(hk 98 (by simp)).trans DN;replace K5:a4.eval (.tmp 100)=v:=(hk 100 (by simp)).trans K5;clear hk R3;refine(?_:wpAnyH Tryz.prog .any _ _ _ (9+1) _ a4 w');refine GL (i:=17) R4 rfl (by decide +kernel) (by decide +kernel) (by decide +kernel) (λc a w q=>absurd q.1 (by simp)) rfl rfl rfl Tryz.underlying73 rfl (by simp[rT];rfl) (λw2 h=>h.agree k1 R sW) (ng.of k1 R) (by simp) λu5 R5=>?_
 replace C4:(a4.put (some 115) u5).eval (.tmp 11)=_:=(aX (by simp)).trans C4;replace DN:(a4.put (some 115) u5).eval (.tmp 98)=_:=(aX (by simp)).trans DN;replace K5:(a4.put (some 115) u5).eval (.tmp 100)=_:=(aX (by simp)).trans K5;generalize a4.put (some 115) u5=a5 at *;clear R4;refine(?_:wpAnyH Tryz.prog .any _ _ _ (8+1) _ a5 w');refine DY (i:=18) R5 rfl (by decide +kernel) (by decide +kernel) (by decide +kernel) (λc a w q=>absurd q.1 (by simp)) rfl rfl rfl (by simp[vt,St.put];rfl) (ng.of k1 R) (by simp[St.put]) λu6 R6=>?_
 replace C4:(a5.put (some 116) u6).eval (.tmp 11)=_:=(aX (by simp)).trans C4;replace DN:(a5.put (some 116) u6).eval (.tmp 98)=_:=(aX (by simp)).trans DN;replace K5:(a5.put (some 116) u6).eval (.tmp 100)=_:=(aX (by simp)).trans K5;generalize a5.put (some 116) u6=a6 at *;clear R5;have Ow:a6.eval (.tmp 99)=.int .i64 (jn:Int):=xG R6 (by simp[St.look,get,St.put]);have ag0:a6.eval (.tmp 101)=.int .i64 (jn:Int):=xG R6 (by simp[St.look,get,St.put]);rw[hv] at DN K5;refine(?_:wpAnyH Tryz.prog .any _ _ _ (7+1) _ a6 w');refine ly (i:=4) (v:=.pointer (some ⟨g,jn * 2,none⟩)) rfl (by decide +kernel) (by decide +kernel) (by decide +kernel) (λc a w q=>absurd q.1 (by simp)) (.inl ⟨rfl,λw' _=>by simp[execOp,K5,ag0,D' (P:=Tryz.prog) (t:=34) Tryz.underlying34 I3 hjL]⟩) (ng.of k1 R) ?_;have PY:(a6.put (some 102) (.pointer (some ⟨g,jn * 2,none⟩))).eval (.tmp 102)=.pointer (some ⟨g,jn * 2,none⟩):=dm (by rw[R6.nt];simp[St.put]);replace C4:(a6.put (some 102) (.pointer (some ⟨g,jn * 2,none⟩))).eval (.tmp 11)=_:=(aX (by simp)).trans C4;replace DN:(a6.put (some 102) (.pointer (some ⟨g,jn * 2,none⟩))).eval (.tmp 98)=_:=(aX (by simp)).trans DN;replace Ow:(a6.put (some 102) (.pointer (some ⟨g,jn * 2,none⟩))).eval (.tmp 99)=_:=(aX (by simp)).trans Ow;have R7:=R6.put (d:=102) (x:=.undef) (v:=.pointer (some ⟨g,jn * 2,none⟩)) .undef (by simp[St.put]);clear R6;refine(?_:wpAnyH Tryz.prog .any _ _ _ (6+1) _ (a6.put (some 102) (.pointer (some ⟨g,jn * 2,none⟩))) w');generalize a6.put (some 102) (.pointer (some ⟨g,jn * 2,none⟩))=a7 at *;refine(?_:wpAnyH Tryz.prog .any _ _ _ (6+1) _ a7 w');refine ly (i:=5) (v:=.pointer (some ⟨g,jn * 2+1,none⟩)) rfl (by decide +kernel) (by decide +kernel) (by decide +kernel) (λc a w q=>absurd q.1 (by simp)) (.inl ⟨rfl,λw' _=>by simp[execOp,PY,Ea (P:=Tryz.prog) (s:=54) (x:=1) (o:=1) (by kernel_rfl)]⟩) (ng.of k1 R) ?_;have K4:(a7.put (some 103) (.pointer (some ⟨g,jn * 2+1,none⟩))).eval (.tmp 103)=.pointer (some ⟨g,jn * 2+1,none⟩):=dm (by rw[R7.nt];simp[St.put]);replace C4:(a7.put (some 103) (.pointer (some ⟨g,jn * 2+1,none⟩))).eval (.tmp 11)=_:=(aX (by simp)).trans C4;replace DN:(a7.put (some 103) (.pointer (some ⟨g,jn * 2+1,none⟩))).eval (.tmp 98)=_:=(aX (by simp)).trans DN;replace Ow:(a7.put (some 103) (.pointer (some ⟨g,jn * 2+1,none⟩))).eval (.tmp 99)=_:=(aX (by simp)).trans Ow;have R8:=R7.put (d:=103) (x:=.undef) (v:=.pointer (some ⟨g,jn * 2+1,none⟩)) .undef (by simp[St.put]);clear R7;refine(?_:wpAnyH Tryz.prog .any _ _ _ (5+1) _ (a7.put (some 103) (.pointer (some ⟨g,jn * 2+1,none⟩))) w');generalize a7.put (some 103) (.pointer (some ⟨g,jn * 2+1,none⟩))=a8 at *;rw[kT jn 2] at K4;rw[← hv] at DN;rw[← ZH];refine(?_:wpAnyH Tryz.prog .any _ _ _ (5+1) _ a8 w');refine fv (rs:=[6,19]) (by decide +kernel) (by simp) λi' Fe=>?_
 simp only[aZ,fE,td] at Fe;rcases Fe with rfl |rfl
 ·refine mF (v:=v1) (w':=w') rfl rfl (by simp[execOp,K4,VR]) ⟨ng.of k1 R,?_⟩
  have XP:=R8.put (d:=104) (x:=.undef) (v:=v1) .undef (by simp[St.put]);have K3:(a8.put (some 104) v1).eval (.tmp 104)=v1:=dm (by rw[R8.nt];simp[St.put]);replace C4:(a8.put (some 104) v1).eval (.tmp 11)=_:=(aX (by simp)).trans C4;replace DN:(a8.put (some 104) v1).eval (.tmp 98)=_:=(aX (by simp)).trans DN;replace Ow:(a8.put (some 104) v1).eval (.tmp 99)=_:=(aX (by simp)).trans Ow;refine(?_:wpAnyH Tryz.prog .any _ _ _ (4+1) _ (a8.put (some 104) v1) w');generalize a8.put (some 104) v1=Wz at *;refine fv (rs:=[19]) (by decide +kernel) (by simp) λi' Fe=>?_
  rw[aD.1 Fe];refine wpOp_step XP rfl rfl rfl (by simp[St.put];rfl) λu w8 p8 WA=>⟨ng.of k1 WA,?_⟩
  replace K3:(Wz.put (some 117) u).eval (.tmp 104)=_:=(aX (by simp)).trans K3;replace C4:(Wz.put (some 117) u).eval (.tmp 11)=_:=(aX (by simp)).trans C4;replace DN:(Wz.put (some 117) u).eval (.tmp 98)=_:=(aX (by simp)).trans DN;replace Ow:(Wz.put (some 117) u).eval (.tmp 99)=_:=(aX (by simp)).trans Ow;exact Hp (x:=(⟨0,x.Name,(br cK fi c).getD 0⟩:dG)) k1 Cm k2 k3 WA (H6.keep k1 R WA) (by decide) Tryz.underlying52 Oy Ox rfl (by decide) OA Oz (λ_=>rfl) S7 hv zy MT Tryz.underlying34 I3 (fx:=1) (by kernel_rfl) (i1:=20) (i2:=23) (i3:=21) (i4:=22) rfl rfl rfl rfl rfl rfl rfl rfl rfl rfl rfl rfl rfl rfl rfl rfl (by decide +kernel) (by decide +kernel) (by decide +kernel) (by decide +kernel) (by decide +kernel) K3 DN Ow C4 (by decide) (by simp[St.put]) (by simp[ca,St.look,get,St.put]) (by simp[bw,St.put])
 ·refine wpOp_step R8 rfl rfl rfl (by simp[St.put];rfl) λu w8 p8 XP=>⟨ng.of k1 XP,?_⟩
  have H7:=H6.keep k1 R XP;obtain⟨g',cp',yJ,lE,ab2,af1⟩:=H7.look S7 Le;have hgg:g'=g:=by
   have h:=lE.symm.trans hv;simp only[Value.slice.injEq,ba,Addr.mk.injEq] at h;exact h.1.1
  subst hgg;rw[zy] at ab2;cases ab2;replace K4:(a8.put (some 117) u).eval (.tmp 103)=_:=(aX (by simp)).trans K4;replace C4:(a8.put (some 117) u).eval (.tmp 11)=_:=(aX (by simp)).trans C4;replace DN:(a8.put (some 117) u).eval (.tmp 98)=_:=(aX (by simp)).trans DN;replace Ow:(a8.put (some 117) u).eval (.tmp 99)=_:=(aX (by simp)).trans Ow;refine(?_:wpAnyH Tryz.prog .any _ _ _ (4+1) _ (a8.put (some 117) u) w8);generalize a8.put (some 117) u=Wz at *;refine fv (rs:=[6]) (by decide +kernel) (by simp) λi' Fe=>?_
  rw[aD.1 Fe];refine mF (v:=v1) (w':=w8) rfl rfl (by simp[execOp,K4,af1]) ⟨ng.of k1 XP,?_⟩;have WA:=XP.put (d:=104) (x:=.undef) (v:=v1) .undef (by simp[St.put]);have K3:(Wz.put (some 104) v1).eval (.tmp 104)=v1:=dm (by rw[XP.nt];simp[St.put]);replace C4:(Wz.put (some 104) v1).eval (.tmp 11)=_:=(aX (by simp)).trans C4;replace DN:(Wz.put (some 104) v1).eval (.tmp 98)=_:=(aX (by simp)).trans DN;replace Ow:(Wz.put (some 104) v1).eval (.tmp 99)=_:=(aX (by simp)).trans Ow;exact Hp (x:=(⟨0,x.Name,(br cK fi c).getD 0⟩:dG)) k1 Cm k2 k3 WA (H7.keep k1 XP WA) (by decide) Tryz.underlying52 Oy Ox rfl (by decide) OA Oz (λ_=>rfl) S7 hv zy MT Tryz.underlying34 I3 (fx:=1) (by kernel_rfl) (i1:=20) (i2:=23) (i3:=21) (i4:=22) rfl rfl rfl rfl rfl rfl rfl rfl rfl rfl rfl rfl rfl rfl rfl rfl (by decide +kernel) (by decide +kernel) (by decide +kernel) (by decide +kernel) (by decide +kernel) K3 DN Ow C4 (by decide) (by simp[St.put]) (by simp[ca,St.look,get,St.put]) (by simp[bw,St.put])
end Go.Vl
namespace Go.Vl
open Go Go.Proofs
theorem zT {a0:List Int} {a1:ao} {a2:Int} {a3:Int} {r:Bool} (h0:pc a0 a1 a2 a3=some r):dY Tryz.prog 3 [] [.d (.slice (ak (aH .i64) a0)),.agg (ay a1),.d (.int .i64 a2),.d (.int .i64 a3)] (.d (.bool r)) []:=by
 unfold pc at h0;refine dS (nt:=115) (rs:=[.tmp 8]) Tryz.func3 rfl Tryz.ntmps3 rfl (by simp) (by decide) rfl λK=>?_
 refine kR [0,2,3,5] ?_;refine kR [2,3,5,9] ?_;refine kc ?_;refine kO [2,3,5,9,28] 1 ?_;obtain⟨y1,oC,h0⟩:=bI h0;refine jg [2,3,5,9,29] [27] (zS oC) rfl rfl rfl Tryz.call6 (by simp) (by simp;rfl) ?_;refine kO [2,3,5,9,10] 2 ?_;refine ar ?_;refine aF ?_;refine kR [2,3,9,32,33,34] ?_;obtain⟨l2,PK,h0⟩:=bI h0;replace PK:=af PK;obtain⟨e1,jR,h0⟩:=bI h0;refine oa (λv3:Unit=>(⟨115,[],[],[]⟩:St)) (λv3=>.inl v3=e1) (λv3 eP _ W1=>?_) ?_
 ·subst eP
  dsimp only at h0;refine dp W1 ?_;refine kc ?_;obtain⟨y4,zh,h0⟩:=bI h0;refine ku [114] (EW zh) Tryz.call18 ?_;refine kO [8] 1 ?_;refine ar ?_;cases h0;exact fM
 ·refine aO (cA (λs5:Int×(List Int)×Int=>(⟨115,[(2,.d (.int .i64 a2)),(3,.d (.int .i64 a3)),(9,.ptr 27 0),(32,.vec 32),(33,.d (.int .i64 (([a1,y1.1]).length:Int))),(34,.d (.int .i64 s5.1))],[(27,[.d (.slice (ak (aH .i64) s5.2.1)),.d (.int .i64 s5.2.2)])],[(32,⟨26,2,ak aK l2⟩)]⟩:St)) jR (wk (by subst PK;simp[bw])) λG1 s5 o1 h1 gY iq=>?_)
  unfold gN at h1;refine kR [2,3,9,32,33,34,35] ?_;refine aF ?_;refine cF (b:=(decide (s5.1 < (([a1,y1.1]).length:Int)))) (by simp) (λZL=>?_) (λZL=>?_)
  ·rw[ai ZL] at h1
   refine aN ?_;refine aF ?_;refine aO ?_;obtain⟨_,Gd,h1⟩:=bI h1;replace Gd:=bT Gd;have BZ:=Gd;try simp at BZ
   have aeN:s5.1 < (((l2)).length:Int):=by omega
   obtain⟨x6,Vm,h1⟩:=bI h1;replace Vm:=bD Vm;have RO:=Vm;try simp at RO
   refine kr [2,3,9,12,32,33,34] (by simp[-getElem?_pos,aS,aV,Gd,aeN,Vm,BZ,RO];rfl) ?_;refine aF ?_;refine kc ?_;refine kO [2,3,9,12,32,33,34,38] 1 ?_;obtain⟨y7,MJ,h1⟩:=bI h1;refine ku [2,3,9,12,32,33,34,39] (Iv MJ) Tryz.call7 ?_;refine kO [2,3,9,12,32,33,34,40] 1 ?_;refine ar ?_;refine gJ ((!y7)) (λZK=>?_) (λZK=>?_)
   ·rw[ai ZK] at h1
    refine bZ ?_;refine lr (by simp;rfl) ?_;exact⟨_,gY _ (af h1),cq⟩
   ·rw[ah (by rw[ZK];decide)] at h1
    refine aN ?_;refine aF ?_;refine kc ?_;refine kO [2,3,9,12,32,33,34,41,42] 2 ?_;obtain⟨y8,YL,h1⟩:=bI h1;refine jg [2,3,9,12,32,33,34,41,43] [27] (cH YL) rfl rfl rfl Tryz.call8 (by simp) (by simp;rfl) ?_;refine kO [2,3,9,12,32,33,34,44,45,46] 3 ?_;refine ar ?_;obtain⟨l9,hl9,h1⟩:=bI h1;replace hl9:=af hl9;obtain⟨e2,Gt,h1⟩:=bI h1;refine oa (λv10:Unit=>(⟨115,[(2,.d (.int .i64 a2)),(3,.d (.int .i64 a3)),(9,.ptr 27 0),(12,.ptr 12 0),(32,.vec 32),(33,.d (.int .i64 (([a1,y1.1]).length:Int))),(34,.d (.int .i64 s5.1))],[(12,(ay x6)),(27,[.d (.slice (ak (aH .i64) y8.2.L)),.d (.int .i64 y8.2.at_)])],[(32,⟨26,2,ak aK l2⟩)]⟩:St)) (λv10=>.inl v10=e2) (λv10 vo _ W2=>?_) ?_
    ·subst vo
     dsimp only at h1;refine dp W2 ?_;refine kc ?_;refine kO [2,3,9,12,32,33,34,82,83] 2 ?_;obtain⟨Az,SF,h1⟩:=bI h1;refine jg [2,3,9,12,32,33,34,82,84] [27] (cH SF) rfl rfl rfl Tryz.call8 (by simp) (by simp;rfl) ?_;refine kO [2,3,9,12,32,33,34,85,86,87] 3 ?_;refine ar ?_;obtain⟨W0,Za,h1⟩:=bI h1;replace Za:=af Za;obtain⟨e3,Zr,h1⟩:=bI h1;refine oa (λUT:Unit=>(⟨115,[(2,.d (.int .i64 a2)),(3,.d (.int .i64 a3)),(9,.ptr 27 0),(32,.vec 32),(33,.d (.int .i64 (([a1,y1.1]).length:Int))),(34,.d (.int .i64 s5.1))],[(27,[.d (.slice (ak (aH .i64) Az.2.L)),.d (.int .i64 Az.2.at_)])],[(32,⟨26,2,ak aK l2⟩)]⟩:St)) (λUT=>.inl UT=e3) (λUT MU _ W3=>?_) ?_
     ·subst MU
      dsimp only at h1;refine dp W3 ?_;refine lr (by simp;rfl) ?_;exact⟨_,gY _ (af h1),cq⟩
     ·refine aO (cA (λwD:Int=>(⟨115,[(2,.d (.int .i64 a2)),(3,.d (.int .i64 a3)),(9,.ptr 27 0),(12,.ptr 12 0),(32,.vec 32),(33,.d (.int .i64 (([a1,y1.1]).length:Int))),(34,.d (.int .i64 s5.1)),(85,.vec 85),(86,.d (.int .i64 (([a3,Az.1]).length:Int))),(87,.d (.int .i64 wD))],[(12,(ay x6)),(27,[.d (.slice (ak (aH .i64) Az.2.L)),.d (.int .i64 Az.2.at_)])],[(32,⟨26,2,ak aK l2⟩),(85,⟨3,1,ak (aH .i64) W0⟩)]⟩:St)) Zr (wk (by subst Za;simp[bw])) λG3 wD o3 h3 MO Uw=>?_)
      unfold jO at h3;refine kR [2,3,9,12,32,33,34,85,86,87,88] ?_;refine aF ?_;refine cF (b:=(decide (wD < (([a3,Az.1]).length:Int)))) (by simp) (λZJ=>?_) (λZJ=>?_)
      ·rw[ai ZJ] at h3
       refine aN ?_;refine aF ?_;refine aO ?_;obtain⟨_,Mx,h3⟩:=bI h3;replace Mx:=bT Mx;have EB:=Mx;try simp at EB
       have aeM:wD < (((W0)).length:Int):=by omega
       obtain⟨WD,Mw,h3⟩:=bI h3;replace Mw:=bD Mw;have EA:=Mw;try simp at EA
       refine kr [2,3,9,12,20,32,33,34,85,86,87] (by simp[-getElem?_pos,aS,aV,Mx,aeM,Mw,EB,EA];rfl) ?_;refine kc ?_;refine kO [2,3,9,12,20,32,33,34,85,86,87,92,93] 2 ?_;obtain⟨LA,SE,h3⟩:=bI h3;refine ku [2,3,9,12,20,32,33,34,85,86,87,94] (zo SE) Tryz.call15 ?_;refine kO [2,3,9,12,20,21,22,32,33,34,85,86,87] 5 ?_;refine ar ?_;refine kc ?_;refine kO [2,3,9,12,21,22,32,33,34,85,86,87,98,99] 2 ?_;obtain⟨XU,SD,h3⟩:=bI h3;refine ku [2,3,9,12,21,22,32,33,34,85,86,87,100] (Eh SD) Tryz.call16 ?_;refine kO [2,3,9,12,21,22,23,24,32,33,34,85,86,87] 5 ?_;refine ar ?_;obtain⟨v18,Hq,h3⟩:=bI h3;refine qF (λUP:Bool=>(⟨115,[(2,.d (.int .i64 a2)),(3,.d (.int .i64 a3)),(9,.ptr 27 0),(12,.ptr 12 0),(32,.vec 32),(33,.d (.int .i64 (([a1,y1.1]).length:Int))),(34,.d (.int .i64 s5.1)),(85,.vec 85),(86,.d (.int .i64 (([a3,Az.1]).length:Int))),(87,.d (.int .i64 wD)),(111,.d (.bool UP))],[(12,(ay x6)),(27,[.d (.slice (ak (aH .i64) Az.2.L)),.d (.int .i64 Az.2.at_)])],[(32,⟨26,2,ak aK l2⟩),(85,⟨3,1,ak (aH .i64) W0⟩)]⟩:St)) (λUP=>v18=UP) (λUP e=>?_) ?_
       ·subst e
        refine gJ (v18) (λc76=>?_) (λc76=>?_)
        ·rw[ai c76] at h3
         refine kR [8] ?_;have k2:=Uw _ (af h3);subst k2;dsimp only at h1;have k1:=iq _ (af h1);subst k1;dsimp only at h0;cases h0;exact fM
        ·rw[ah (by rw[c76];decide)] at h3
         refine aN ?_;refine lr (by simp;rfl) ?_;exact⟨_,MO _ (af h3),cq⟩
       ·refine qH ?_
        refine kO [2,3,9,12,21,23,32,33,34,85,86,87,106] 4 ?_;refine bh 106 (LA.2 != XU.2) (by simp) (λc77=>?_) (λc77=>?_)
        ·rw[ai c77] at Hq
         refine cU 4 [] (by kernel_rfl) ?_;refine kO [2,3,9,12,32,33,34,85,86,87,111] 1 ?_;refine ar ?_;cases Hq;exact⟨_,rfl,cq⟩
        ·rw[ah (by rw[c77];decide)] at Hq
         refine kO [2,3,9,12,32,33,34,85,86,87,106,107,108] 2 ?_;obtain⟨y19,afj,Hq⟩:=bI Hq;refine ku [2,3,9,12,32,33,34,85,86,87,106,107,108,109] (Em afj) Tryz.call17 ?_;refine kO [2,3,9,12,32,33,34,85,86,87,107,108,109,110,111] 2 ?_;refine ar ?_;cases Hq;exact⟨_,rfl,cq⟩
      ·rw[ah (by rw[ZJ];decide)] at h3
       refine bZ ?_;exact⟨_,Uw _ (af h3),cq⟩
    ·refine aO (cA (λwC:Int=>(⟨115,[(2,.d (.int .i64 a2)),(3,.d (.int .i64 a3)),(9,.ptr 27 0),(12,.ptr 12 0),(32,.vec 32),(33,.d (.int .i64 (([a1,y1.1]).length:Int))),(34,.d (.int .i64 s5.1)),(44,.vec 44),(45,.d (.int .i64 (([a2,y8.1,1099511627776]).length:Int))),(46,.d (.int .i64 wC))],[(12,(ay x6)),(27,[.d (.slice (ak (aH .i64) y8.2.L)),.d (.int .i64 y8.2.at_)])],[(32,⟨26,2,ak aK l2⟩),(44,⟨3,1,ak (aH .i64) l9⟩)]⟩:St)) Gt (wk (by subst hl9;simp[bw])) λG3 wC o3 h3 MO Uw=>?_)
     unfold jP at h3;refine kR [2,3,9,12,32,33,34,44,45,46,47] ?_;refine aF ?_;refine cF (b:=(decide (wC < (([a2,y8.1,1099511627776]).length:Int)))) (by simp) (λc78=>?_) (λc78=>?_)
     ·rw[ai c78] at h3
      refine aN ?_;refine aF ?_;refine aO ?_;obtain⟨_,p33,h3⟩:=bI h3;replace p33:=bT p33;have abg:=p33;try simp at abg
      have aeL:wC < (((l9)).length:Int):=by omega
      obtain⟨QH,p34,h3⟩:=bI h3;replace p34:=bD p34;have abf:=p34;try simp at abf
      refine kr [2,3,9,12,14,32,33,34,44,45,46] (by simp[-getElem?_pos,aS,aV,p33,aeL,p34,abg,abf];rfl) ?_;refine kc ?_;refine kO [2,3,9,12,14,32,33,34,44,45,46,51,52] 2 ?_;obtain⟨Lz,YP,h3⟩:=bI h3;refine ku [2,3,9,12,14,32,33,34,44,45,46,53] (BK YP) Tryz.call9 ?_;refine kO [2,3,9,12,14,15,16,32,33,34,44,45,46] 5 ?_;refine ar ?_;refine kc ?_;refine kO [2,3,9,12,14,15,16,32,33,34,44,45,46,57,58] 2 ?_;obtain⟨Qr,YO,h3⟩:=bI h3;refine ku [2,3,9,12,14,15,16,32,33,34,44,45,46,59] (AM YO) Tryz.call10 ?_;refine kO [2,3,9,12,14,15,16,17,18,32,33,34,44,45,46] 5 ?_;refine ar ?_;obtain⟨v26,tU,h3⟩:=bI h3;refine qF (λUN:Bool=>(⟨115,[(2,.d (.int .i64 a2)),(3,.d (.int .i64 a3)),(9,.ptr 27 0),(12,.ptr 12 0),(32,.vec 32),(33,.d (.int .i64 (([a1,y1.1]).length:Int))),(34,.d (.int .i64 s5.1)),(44,.vec 44),(45,.d (.int .i64 (([a2,y8.1,1099511627776]).length:Int))),(46,.d (.int .i64 wC)),(80,.d (.bool UN))],[(12,(ay x6)),(27,[.d (.slice (ak (aH .i64) y8.2.L)),.d (.int .i64 y8.2.at_)])],[(32,⟨26,2,ak aK l2⟩),(44,⟨3,1,ak (aH .i64) l9⟩)]⟩:St)) (λUN=>v26=UN) (λUN e=>?_) ?_
      ·subst e
       refine gJ (v26) (λc91=>?_) (λc91=>?_)
       ·rw[ai c91] at h3
        refine kR [8] ?_;have k2:=Uw _ (af h3);subst k2;dsimp only at h1;have k1:=iq _ (af h1);subst k1;dsimp only at h0;cases h0;exact fM
       ·rw[ah (by rw[c91];decide)] at h3
        refine aN ?_;refine lr (by simp;rfl) ?_;exact⟨_,MO _ (af h3),cq⟩
      ·refine Sx [[],[],[0,1],[2],[3],[3],[3,4,5],[3,6],[3,7],[8],[9],[9],[9,10,11],[9],[9],[9,13,14],[9,12,15],[9,16],[9,17]] [] [] none [] 19 sZ (by decide +kernel) (by simp) ?_
       refine bj 0 2 rfl (by simp (maxSteps:=1000000);rfl) ?_;refine bj 2 2 rfl (by simp (maxSteps:=1000000);rfl) ?_;refine mL 3 65 (Lz.2 != Qr.2) (by simp) (λc96=>?_) (λc96=>?_)
       ·rw[ai c96] at tU
        refine mw 4 115 [some 66,some 67,some 68,some 69] rfl rfl (by decide) (by kernel_rfl) (by simp only[uZ,aW,cO,cv,di];rfl) ?_;refine bj 8 2 rfl (by simp (maxSteps:=1000000);rfl) ?_;refine mw 10 115 [some 72,some 73,some 74,some 75,some 76,some 77,some 78,some 79] rfl rfl (by decide) (by kernel_rfl) (by simp only[uZ,aW,cO,cv,di];rfl) ?_;refine bj 18 1 rfl (by simp (maxSteps:=1000000);rfl) ?_;refine fu rfl (ar ?_);cases tU;exact⟨_,rfl,cq⟩
       ·rw[ah (by rw[c96];decide)] at tU
        refine bj 4 2 rfl (by simp (maxSteps:=1000000);rfl) ?_;obtain⟨QG,YN,tU⟩:=bI tU;refine iu 6 [] (F9 YN) rfl rfl rfl rfl rfl Tryz.call11 (by simp) ?_;refine bj 7 2 rfl (by simp (maxSteps:=1000000);rfl) ?_;refine bj 9 1 rfl (by simp (maxSteps:=1000000);rfl) ?_;refine mL 9 71 (!QG) (by simp) (λc97=>?_) (λc97=>?_)
        ·rw[ai c97] at tU
         refine mw 10 115 [some 72,some 73,some 74,some 75,some 76,some 77,some 78,some 79] rfl rfl (by decide) (by kernel_rfl) (by simp only[uZ,aW,cO,cv,di];rfl) ?_;refine bj 18 1 rfl (by simp (maxSteps:=1000000);rfl) ?_;refine fu rfl (ar ?_);cases tU;exact⟨_,rfl,cq⟩
        ·rw[ah (by rw[c97];decide)] at tU
         refine bj 10 2 rfl (by simp (maxSteps:=1000000);rfl) ?_;obtain⟨y28,afh,tU⟩:=bI tU;refine iu 12 [] (F2 afh) rfl rfl rfl rfl rfl Tryz.call13 (by simp) ?_;refine bj 13 2 rfl (by simp (maxSteps:=1000000);rfl) ?_;obtain⟨y29,afg,tU⟩:=bI tU;refine iu 15 [] (Ei afg) rfl rfl rfl rfl rfl Tryz.call14 (by simp) ?_;obtain⟨Z7,YM,tU⟩:=bI tU;refine iu 16 [] (Ga YM) rfl rfl rfl rfl rfl Tryz.call12 (by simp) ?_;refine bj 17 2 rfl (by simp (maxSteps:=1000000);rfl) ?_;refine fu rfl (ar ?_);cases tU;exact⟨_,rfl,cq⟩
     ·rw[ah (by rw[c78];decide)] at h3
      refine bZ ?_;exact⟨_,Uw _ (af h3),cq⟩
  ·rw[ah (by rw[ZL];decide)] at h1
   refine bZ ?_;exact⟨_,iq _ (af h1),cq⟩
end Go.Vl
