/- Walks: each function of the given program computes what its mirror says. Conditions: none. -/
import Derived.Test.YtjnflahicimmlaaGreatDoorJMi
set_option maxHeartbeats 1000000
set_option linter.unusedSimpArgs false
set_option linter.unusedVariables false
namespace Go.Vl
open Go Go.Proofs
theorem Iv {a0:ao} {r:Bool} (h0:qZ a0=some r):dY Tryz.prog 7 [] [.agg (ay a0)] (.d (.bool r)) []:=by
 unfold qZ at h0;refine dS (nt:=13) (rs:=[.tmp 2]) Tryz.func7 rfl Tryz.ntmps7 rfl (by simp) (by decide) rfl λK=>?_
 refine kR [1] ?_;obtain⟨v1,ff,h0⟩:=bI h0;refine qF (λrl:Bool=>(⟨13,[(2,.d (.bool rl))],[],[]⟩:St)) (λrl=>v1=rl) (λrl e=>?_) ?_
 ·subst e
  cases h0;exact fM
 ·refine qH ?_
  refine kO [1,7] 5 ?_;refine bh 7 (decide (((a0.aq).length:Int)≤20)) (by simp) (λc3=>?_) (λc3=>?_)
  ·rw[c3] at ff
   refine kO [2] 6 ?_;refine ar ?_;cases ff;exact⟨_,rfl,cq⟩
  ·rw[c3] at ff
   refine cU 4 [] (by kernel_rfl) ?_;refine kO [2] 2 ?_;refine ar ?_;cases ff;exact⟨_,rfl,cq⟩
theorem uH {a0:Int} {r:Bool} (h0:tJ a0=some r):dY Tryz.prog 99 [] [.d (.int .i64 a0)] (.d (.bool r)) []:=by
 unfold tJ at h0;refine dS (nt:=9) (rs:=[.tmp 2]) Tryz.func99 rfl Tryz.ntmps99 rfl (by simp) (by decide) rfl λK=>?_
 refine kR [0] ?_;obtain⟨v1,ff,h0⟩:=bI h0;refine qF (λrl:Bool=>(⟨9,[(2,.d (.bool rl))],[],[]⟩:St)) (λrl=>v1=rl) (λrl e=>?_) ?_
 ·subst e
  cases h0;exact fM
 ·refine qH ?_
  refine kO [0,5] 3 ?_;refine bh 5 (decide (1≤a0)) (by simp) (λc3=>?_) (λc3=>?_)
  ·rw[c3] at ff
   refine kO [2] 4 ?_;refine ar ?_;cases ff;exact⟨_,rfl,cq⟩
  ·rw[c3] at ff
   refine kO [2] 4 ?_;refine ar ?_;cases ff;exact⟨_,rfl,cq⟩
theorem Gc {a0:ab} {r:Bool} (h0:tI a0=some r):dY Tryz.prog 100 [] [.agg (bc a0)] (.d (.bool r)) []:=by
 unfold tI at h0;refine dS (nt:=28) (rs:=[.tmp 2]) Tryz.func100 rfl Tryz.ntmps100 rfl (by simp) (by decide) rfl λK=>?_
 refine kR [1] ?_;obtain⟨v1,ff,h0⟩:=bI h0;refine qF (λrl:Bool=>(⟨28,[(2,.d (.bool rl))],[],[]⟩:St)) (λrl=>v1=rl) (λrl e=>?_) ?_
 ·subst e
  cases h0;exact fM
 ·refine qH ?_
  refine kO [1,7] 5 ?_;refine bh 7 (((a0.bd).length:Int)==0) (by simp) (λc9=>?_) (λc9=>?_)
  ·rw[c9] at ff
   refine kO [1,12] 5 ?_;refine bh 12 (a0.Tree==0) (by simp) (λFI=>?_) (λFI=>?_)
   ·rw[FI] at ff
    refine kO [1,18] 6 ?_;refine bh 18 (((a0.bf).length:Int)==0) (by simp) (λCy=>?_) (λCy=>?_)
    ·rw[Cy] at ff
     refine kO [1,23] 5 ?_;refine bh 23 ((a0.fJ).toList==((⟨#[]⟩:ByteArray)).toList) (by simp) (λCx=>?_) (λCx=>?_)
     ·rw[Cx] at ff
      refine kO [2] 5 ?_;refine ar ?_;cases ff;exact⟨_,rfl,cq⟩
     ·rw[Cx] at ff
      refine cU 3 [] (by kernel_rfl) ?_;refine kO [2] 2 ?_;refine ar ?_;cases ff;exact⟨_,rfl,cq⟩
    ·rw[Cy] at ff
     refine cU 3 [] (by kernel_rfl) ?_;refine kO [1,23] 2 ?_;refine cU 3 [] (by kernel_rfl) ?_;refine kO [2] 2 ?_;refine ar ?_;cases ff;exact⟨_,rfl,cq⟩
   ·rw[FI] at ff
    refine cU 4 [] (by kernel_rfl) ?_;refine kO [1,18] 2 ?_;refine cU 3 [] (by kernel_rfl) ?_;refine kO [1,23] 2 ?_;refine cU 3 [] (by kernel_rfl) ?_;refine kO [2] 2 ?_;refine ar ?_;cases ff;exact⟨_,rfl,cq⟩
  ·rw[c9] at ff
   refine cU 3 [] (by kernel_rfl) ?_;refine kO [1,12] 2 ?_;refine cU 4 [] (by kernel_rfl) ?_;refine kO [1,18] 2 ?_;refine cU 3 [] (by kernel_rfl) ?_;refine kO [1,23] 2 ?_;refine cU 3 [] (by kernel_rfl) ?_;refine kO [2] 2 ?_;refine ar ?_;cases ff;exact⟨_,rfl,cq⟩
theorem rA {a0:ByteArray} {r:Bool} (h0:nI a0=some r):dY Tryz.prog 103 [] [.d (.str a0)] (.d (.bool r)) []:=by
 unfold nI at h0;refine dS (nt:=34) (rs:=[.tmp 2]) Tryz.func103 rfl Tryz.ntmps103 rfl (by simp) (by decide) rfl λK=>?_
 refine kR [0] ?_;refine aF ?_;refine kR [0,3] ?_;obtain⟨e1,jR,h0⟩:=bI h0;refine oa (λv1:Unit=>(⟨34,[(0,.d (.str a0))],[],[]⟩:St)) (λv1=>.inl v1=e1) (λv1 eP _ W1=>?_) ?_
 ·subst eP
  dsimp only at h0;refine dp W1 ?_;obtain⟨v2,eE,h0⟩:=bI h0;refine qF (λsR:Bool=>(⟨34,[(2,.d (.bool sR))],[],[]⟩:St)) (λsR=>v2=sR) (λsR e=>?_) ?_
  ·subst e
   cases h0;exact fM
  ·refine qH ?_
   refine kO [0,29] 4 ?_;refine bh 29 (decide (1≤((a0).size:Int))) (by simp) (λCy=>?_) (λCy=>?_)
   ·rw[Cy] at eE
    refine kO [2] 5 ?_;refine ar ?_;cases eE;exact⟨_,rfl,cq⟩
   ·rw[Cy] at eE
    refine cU 3 [] (by kernel_rfl) ?_;refine kO [2] 2 ?_;refine ar ?_;cases eE;exact⟨_,rfl,cq⟩
 ·refine aO (cA (λs3:Int=>(⟨34,[(0,.d (.str a0)),(3,.d (.int .i64 s3))],[],[]⟩:St)) jR cq λG1 s3 o1 h1 gY iq=>?_)
  unfold rB at h1;refine aF ?_;refine kR [0,3,7] ?_;refine cF (b:=(decide (s3 < ((a0).size:Int)))) (by simp) (λCx=>?_) (λCx=>?_)
  ·rw[ai Cx] at h1
   refine aN ?_;refine aF ?_;refine aO ?_;obtain⟨v4,ec,h1⟩:=bI h1;refine qF (λwg:Bool=>(⟨34,[(0,.d (.str a0)),(3,.d (.int .i64 s3)),(25,.d (.bool wg))],[],[]⟩:St)) (λwg=>v4=wg) (λwg e=>?_) ?_
   ·subst e
    refine gJ (v4) (λCv=>?_) (λCv=>?_)
    ·rw[ai Cv] at h1
     refine kR [2] ?_;have k1:=iq _ (af h1);subst k1;dsimp only at h0;cases h0;exact fM
    ·rw[ah (by rw[Cv];decide)] at h1
     refine aN ?_;refine lr (by simp;rfl) ?_;exact⟨_,gY _ (af h1),cq⟩
   ·refine qH ?_
    obtain⟨x5,p25,ec⟩:=bI ec;have ae5:mm Tryz.prog 9 (.d (.str a0)) s3=some (.d (.int .u8 x5)):=vM Tryz.underlying9 p25;refine ko [0,3,14] 5 (by simp[ae5, -mm];rfl) ?_;refine bh 14 (decide (x5 < 33)) (by simp) (λFG=>?_) (λFG=>?_)
    ·rw[ai FG] at ec
     refine cU 4 [] (by kernel_rfl) ?_;refine kO [0,3,20] 2 ?_;refine cU 4 [] (by kernel_rfl) ?_;refine kO [0,3,25] 1 ?_;refine ar ?_;cases ec;exact⟨_,rfl,cq⟩
    ·rw[ah (by rw[FG];decide)] at ec
     obtain⟨x6,p27,ec⟩:=bI ec;have ae3:mm Tryz.prog 9 (.d (.str a0)) s3=some (.d (.int .u8 x6)):=vM Tryz.underlying9 p27;refine ko [0,3,15,16,17,18,20] 6 (by simp[ae3, -mm];rfl) ?_;refine bh 20 (decide (126 < x6)) (by simp) (λAn=>?_) (λAn=>?_)
     ·rw[ai An] at ec
      refine cU 4 [] (by kernel_rfl) ?_;refine kO [0,3,15,16,17,18,25] 1 ?_;refine ar ?_;cases ec;exact⟨_,rfl,cq⟩
     ·rw[ah (by rw[An];decide)] at ec
      obtain⟨x7,xX,ec⟩:=bI ec;have ae2:mm Tryz.prog 9 (.d (.str a0)) s3=some (.d (.int .u8 x7)):=vM Tryz.underlying9 xX;refine ko [0,3,15,16,17,18,21,22,23,24,25] 5 (by simp[ae2, -mm];rfl) ?_;refine ar ?_;cases ec;exact⟨_,rfl,cq⟩
  ·rw[ah (by rw[Cx];decide)] at h1
   refine bZ ?_;exact⟨_,iq _ (af h1),cq⟩
theorem Gb {a0:ab} {r:Bool} (h0:tH a0=some r):dY Tryz.prog 101 [] [.agg (bc a0)] (.d (.bool r)) []:=by
 unfold tH at h0;refine dS (nt:=74) (rs:=[.tmp 2]) Tryz.func101 rfl Tryz.ntmps101 rfl (by simp) (by decide) rfl λK=>?_
 refine kR [1] ?_;refine aF ?_;refine kR [1,3] ?_;obtain⟨e1,jR,h0⟩:=bI h0;refine oa (λv1:Unit=>(⟨74,[(1,.ptr 1 0)],[(1,(bc a0))],[]⟩:St)) (λv1=>.inl v1=e1) (λv1 eP _ W1=>?_) ?_
 ·subst eP
  dsimp only at h0;refine dp W1 ?_;obtain⟨v2,eE,h0⟩:=bI h0;refine qF (λsR:Bool=>(⟨74,[(2,.d (.bool sR))],[],[]⟩:St)) (λsR=>v2=sR) (λsR e=>?_) ?_
  ·subst e
   cases h0;exact fM
  ·refine qH ?_
   refine kO [1,53] 5 ?_;refine bh 53 (((a0.Data).length:Int)==0) (by simp) (λZO=>?_) (λZO=>?_)
   ·rw[ZO] at eE
    refine kO [1,58] 5 ?_;refine bh 58 (a0.Tree==0) (by simp) (λTK=>?_) (λTK=>?_)
    ·rw[TK] at eE
     refine kO [1,64] 6 ?_;refine bh 64 (((a0.bf).length:Int)==0) (by simp) (λNb=>?_) (λNb=>?_)
     ·rw[Nb] at eE
      refine kO [1,69] 5 ?_;refine bh 69 ((a0.fJ).toList==((⟨#[]⟩:ByteArray)).toList) (by simp) (λI7=>?_) (λI7=>?_)
      ·rw[I7] at eE
       refine kO [2] 5 ?_;refine ar ?_;cases eE;exact⟨_,rfl,cq⟩
      ·rw[I7] at eE
       refine cU 3 [] (by kernel_rfl) ?_;refine kO [2] 2 ?_;refine ar ?_;cases eE;exact⟨_,rfl,cq⟩
     ·rw[Nb] at eE
      refine cU 3 [] (by kernel_rfl) ?_;refine kO [1,69] 2 ?_;refine cU 3 [] (by kernel_rfl) ?_;refine kO [2] 2 ?_;refine ar ?_;cases eE;exact⟨_,rfl,cq⟩
    ·rw[TK] at eE
     refine cU 4 [] (by kernel_rfl) ?_;refine kO [1,64] 2 ?_;refine cU 3 [] (by kernel_rfl) ?_;refine kO [1,69] 2 ?_;refine cU 3 [] (by kernel_rfl) ?_;refine kO [2] 2 ?_;refine ar ?_;cases eE;exact⟨_,rfl,cq⟩
   ·rw[ZO] at eE
    refine cU 3 [] (by kernel_rfl) ?_;refine kO [1,58] 2 ?_;refine cU 4 [] (by kernel_rfl) ?_;refine kO [1,64] 2 ?_;refine cU 3 [] (by kernel_rfl) ?_;refine kO [1,69] 2 ?_;refine cU 3 [] (by kernel_rfl) ?_;refine kO [2] 2 ?_;refine ar ?_;cases eE;exact⟨_,rfl,cq⟩
 ·refine aO (cA (λs3:Int=>(⟨74,[(1,.ptr 1 0),(3,.d (.int .i64 s3))],[(1,(bc a0))],[]⟩:St)) jR cq λG1 s3 o1 h1 gY iq=>?_)
  unfold rz at h1;refine aF ?_;refine kR [1,3,8] ?_;refine cF (b:=(decide (s3 < ((a0.bd).length:Int)))) (by simp) (λNa=>?_) (λNa=>?_)
  ·rw[ai Na] at h1
   refine aN ?_;refine aF ?_;refine aO ?_;obtain⟨v4,ec,h1⟩:=bI h1;refine qF (λwg:Bool=>(⟨74,[(1,.ptr 1 0),(3,.d (.int .i64 s3)),(48,.d (.bool wg))],[(1,(bc a0))],[]⟩:St)) (λwg=>v4=wg) (λwg e=>?_) ?_
   ·subst e
    refine gJ (v4) (λc54=>?_) (λc54=>?_)
    ·rw[ai c54] at h1
     refine kR [2] ?_;have k1:=iq _ (af h1);subst k1;dsimp only at h0;cases h0;exact fM
    ·rw[ah (by rw[c54];decide)] at h1
     refine aN ?_;refine lr (by simp;rfl) ?_;exact⟨_,gY _ (af h1),cq⟩
   ·refine Sx [[],[0],[],[1,2],[3],[4],[5],[6],[7],[8],[8,9],[8],[8,10,11],[8,12],[8,13],[8,14],[8,15],[8,16],[17],[18],[18,19],[18,20],[21],[21,22],[21],[21,23,24],[21,25],[21,26],[21],[21,28],[21],[21,30],[21,29,31],[21,32],[21,33],[21,27,34],[18,21,35],[18,36]] [] [] none [] 38 sZ (by decide +kernel) (by simp) ?_
    obtain⟨x5,xX,ec⟩:=bI ec;replace xX:=bD xX;have ql:=xX;try simp at ql
    refine bj 0 2 rfl (by simp (maxSteps:=1000000) [xX,ql];rfl) ?_;refine bj 2 2 rfl (by simp (maxSteps:=1000000) [xX,ql];rfl) ?_;refine bj 4 2 rfl (by simp (maxSteps:=1000000) [xX,ql];rfl) ?_;obtain⟨y6,Gm,ec⟩:=bI ec;refine iu 6 [] (rA Gm) rfl rfl rfl rfl rfl Tryz.call103 (by simp) ?_;refine bj 7 2 rfl (by simp (maxSteps:=1000000);rfl) ?_;refine mL 8 19 (!y6) (by simp) (λc61=>?_) (λc61=>?_)
    ·rw[ai c61] at ec
     refine mw 9 74 [some 20,some 21,some 22,some 23,some 24,some 25,some 26,some 27] rfl rfl (by decide) (by kernel_rfl) (by simp only[uZ,aW,cO,cv,di];rfl) ?_;refine bj 17 2 rfl (by simp (maxSteps:=1000000);rfl) ?_;refine mw 19 74 [some 30,some 31,some 32,some 33,some 34,some 35,some 36,some 37,some 38,some 39,some 40,some 41,some 42,some 43,some 44,some 45,some 46,some 47] rfl rfl (by decide) (by kernel_rfl) (by simp only[uZ,aW,cO,cv,di];rfl) ?_;refine bj 37 1 rfl (by simp (maxSteps:=1000000);rfl) ?_;refine fu rfl (ar ?_);cases ec;exact⟨_,rfl,cq⟩
    ·rw[ah (by rw[c61];decide)] at ec
     refine bj 9 2 rfl (by simp (maxSteps:=1000000) [xX,ql];rfl) ?_;refine bj 11 2 rfl (by simp (maxSteps:=1000000) [xX,ql];rfl) ?_;refine bj 13 2 rfl (by simp (maxSteps:=1000000) [xX,ql];rfl) ?_;obtain⟨y7,MJ,ec⟩:=bI ec;refine iu 15 [] (uH MJ) rfl rfl rfl rfl rfl Tryz.call99 (by simp) ?_;refine bj 16 2 rfl (by simp (maxSteps:=1000000);rfl) ?_;refine bj 18 1 rfl (by simp (maxSteps:=1000000);rfl) ?_;refine mL 18 29 (!y7) (by simp) (λc62=>?_) (λc62=>?_)
     ·rw[ai c62] at ec
      refine mw 19 74 [some 30,some 31,some 32,some 33,some 34,some 35,some 36,some 37,some 38,some 39,some 40,some 41,some 42,some 43,some 44,some 45,some 46,some 47] rfl rfl (by decide) (by kernel_rfl) (by simp only[uZ,aW,cO,cv,di];rfl) ?_;refine bj 37 1 rfl (by simp (maxSteps:=1000000);rfl) ?_;refine fu rfl (ar ?_);cases ec;exact⟨_,rfl,cq⟩
     ·rw[ah (by rw[c62];decide)] at ec
      refine bj 19 2 rfl (by simp (maxSteps:=1000000);rfl) ?_;refine bj 21 1 rfl (by simp (maxSteps:=1000000);rfl) ?_;refine mL 21 32 (decide (0 < s3)) (by simp) (λc63=>?_) (λc63=>?_)
      ·rw[ai c63] at ec
       obtain⟨x8,BY,ec⟩:=bI ec;replace BY:=bD BY;have tL:=BY;try simp at tL
       refine bj 22 2 rfl (by simp (maxSteps:=1000000) [xX,BY,ql,tL];rfl) ?_;refine bj 24 2 rfl (by simp (maxSteps:=1000000) [xX,BY,ql,tL];rfl) ?_;refine bj 26 2 rfl (by simp (maxSteps:=1000000) [xX,BY,ql,tL];rfl) ?_;refine bj 28 2 rfl (by simp (maxSteps:=1000000) [xX,BY,ql,tL];rfl) ?_;refine bj 30 2 rfl (by simp (maxSteps:=1000000) [xX,BY,ql,tL];rfl) ?_;refine bj 32 2 rfl (by simp (maxSteps:=1000000) [xX,BY,ql,tL];rfl) ?_;refine bj 34 2 rfl (by simp (maxSteps:=1000000) [xX,BY,ql,tL];rfl) ?_;refine bj 36 2 rfl (by simp (maxSteps:=1000000) [xX,BY,ql,tL];rfl) ?_;refine fu rfl (ar ?_);cases ec;exact⟨_,rfl,cq⟩
      ·rw[ah (by rw[c63];decide)] at ec
       refine mw 22 74 [some 33,some 34,some 35,some 36,some 37,some 38,some 39,some 40,some 41,some 42,some 43,some 44,some 45,some 46] rfl rfl (by decide) (by kernel_rfl) (by simp only[uZ,aW,cO,cv,di];rfl) ?_;refine bj 36 2 rfl (by simp (maxSteps:=1000000);rfl) ?_;refine fu rfl (ar ?_);cases ec;exact⟨_,rfl,cq⟩
  ·rw[ah (by rw[Na];decide)] at h1
   refine bZ ?_;exact⟨_,iq _ (af h1),cq⟩
theorem Dp {a0:ab} {r:Bool} (h0:qj a0=some r):dY Tryz.prog 102 [] [.agg (bc a0)] (.d (.bool r)) []:=by
 unfold qj at h0;refine dS (nt:=65) (rs:=[.tmp 2]) Tryz.func102 rfl Tryz.ntmps102 rfl (by simp) (by decide) rfl λK=>?_
 refine kR [1] ?_;refine aF ?_;refine kR [1,3] ?_;obtain⟨e1,jR,h0⟩:=bI h0;refine oa (λv1:Unit=>(⟨65,[(1,.ptr 1 0)],[(1,(bc a0))],[]⟩:St)) (λv1=>.inl v1=e1) (λv1 eP _ W1=>?_) ?_
 ·subst eP
  dsimp only at h0;refine dp W1 ?_;obtain⟨v2,eE,h0⟩:=bI h0;refine qF (λsR:Bool=>(⟨65,[(2,.d (.bool sR))],[],[]⟩:St)) (λsR=>v2=sR) (λsR e=>?_) ?_
  ·subst e
   cases h0;exact fM
  ·refine qH ?_
   refine kO [1,39] 5 ?_;refine bh 39 (((a0.Data).length:Int)==0) (by simp) (λDE=>?_) (λDE=>?_)
   ·rw[ai DE] at eE
    refine kO [1,45] 6 ?_;refine bh 45 (((a0.bd).length:Int)==0) (by simp) (λDD=>?_) (λDD=>?_)
    ·rw[ai DD] at eE
     refine kO [1,45,47] 2 ?_;obtain⟨y3,Ce,eE⟩:=bI eE;refine ku [1,45,48] (uH Ce) Tryz.call99 ?_;refine kO [1,50] 2 ?_;refine bh 50 y3 (by simp) (λI9=>?_) (λI9=>?_)
     ·rw[ai I9] at eE
      refine kO [1,50,52] 2 ?_;obtain⟨y4,zh,eE⟩:=bI eE;refine ku [1,50,53] (rA zh) Tryz.call103 ?_;refine kO [1,55] 2 ?_;refine bh 55 y4 (by simp) (λI8=>?_) (λI8=>?_)
      ·rw[ai I8] at eE
       refine kO [1,60] 5 ?_;refine bh 60 (decide (0≤a0.Time)) (by simp) (λNd=>?_) (λNd=>?_)
       ·rw[ai Nd] at eE
        refine kO [2] 5 ?_;refine ar ?_;cases eE;exact⟨_,rfl,cq⟩
       ·rw[ah (by rw[Nd];decide)] at eE
        refine cU 3 [] (by kernel_rfl) ?_;refine kO [2] 2 ?_;refine ar ?_;cases eE;exact⟨_,rfl,cq⟩
      ·rw[ah (by rw[I8];decide)] at eE
       refine cU 3 [] (by kernel_rfl) ?_;refine kO [1,60] 2 ?_;refine cU 3 [] (by kernel_rfl) ?_;refine kO [2] 2 ?_;refine ar ?_;cases eE;exact⟨_,rfl,cq⟩
     ·rw[ah (by rw[I9];decide)] at eE
      refine cU 3 [] (by kernel_rfl) ?_;refine kO [1,55] 2 ?_;refine cU 3 [] (by kernel_rfl) ?_;refine kO [1,60] 2 ?_;refine cU 3 [] (by kernel_rfl) ?_;refine kO [2] 2 ?_;refine ar ?_;cases eE;exact⟨_,rfl,cq⟩
    ·rw[ah (by rw[DD];decide)] at eE
     refine cU 3 [] (by kernel_rfl) ?_;refine kO [1,50] 2 ?_;refine cU 3 [] (by kernel_rfl) ?_;refine kO [1,55] 2 ?_;refine cU 3 [] (by kernel_rfl) ?_;refine kO [1,60] 2 ?_;refine cU 3 [] (by kernel_rfl) ?_;refine kO [2] 2 ?_;refine ar ?_;cases eE;exact⟨_,rfl,cq⟩
   ·rw[ah (by rw[DE];decide)] at eE
    refine cU 4 [] (by kernel_rfl) ?_;refine kO [1,45] 2 ?_;refine cU 3 [] (by kernel_rfl) ?_;refine kO [1,50] 2 ?_;refine cU 3 [] (by kernel_rfl) ?_;refine kO [1,55] 2 ?_;refine cU 3 [] (by kernel_rfl) ?_;refine kO [1,60] 2 ?_;refine cU 3 [] (by kernel_rfl) ?_;refine kO [2] 2 ?_;refine ar ?_;cases eE;exact⟨_,rfl,cq⟩
 ·refine aO (cA (λs5:Int=>(⟨65,[(1,.ptr 1 0),(3,.d (.int .i64 s5))],[(1,(bc a0))],[]⟩:St)) jR cq λG1 s5 o1 h1 gY iq=>?_)
  unfold oZ at h1;refine aF ?_;refine kR [1,3,9] ?_;refine cF (b:=(decide (s5 < ((a0.bf).length:Int)))) (by simp) (λNc=>?_) (λNc=>?_)
  ·rw[ai Nc] at h1
   refine aN ?_;refine aF ?_;refine aO ?_;refine aF ?_;refine kc ?_;obtain⟨x6,qG,h1⟩:=bI h1;replace qG:=bD qG;have kQ:=qG;try simp at kQ
   refine ko [1,3,16] 5 (by simp[qG,kQ];rfl) ?_;obtain⟨y7,MJ,h1⟩:=bI h1;refine ku [1,3,17] (uH MJ) Tryz.call99 ?_;refine kO [1,3,18] 1 ?_;refine ar ?_;refine gJ ((!y7)) (λTL=>?_) (λTL=>?_)
   ·rw[ai TL] at h1
    refine kR [2] ?_;have k1:=iq _ (af h1);subst k1;dsimp only at h0;cases h0;exact fM
   ·rw[ah (by rw[TL];decide)] at h1
    refine aN ?_;refine kR [1,3,4] ?_;obtain⟨e2,Gt,h1⟩:=bI h1;refine oa (λv8:Unit=>(⟨65,[(1,.ptr 1 0),(3,.d (.int .i64 s5))],[(1,(bc a0))],[]⟩:St)) (λv8=>.inl v8=e2) (λv8 vo _ W2=>?_) ?_
    ·subst vo
     dsimp only at h1;refine dp W2 ?_;refine lr (by simp;rfl) ?_;exact⟨_,gY _ (af h1),cq⟩
    ·refine aO (cA (λs9:Int=>(⟨65,[(1,.ptr 1 0),(3,.d (.int .i64 s5)),(4,.d (.int .i64 s9))],[(1,(bc a0))],[]⟩:St)) Gt cq λG2 s9 o2 h2 vR xt=>?_)
     unfold kJ at h2;refine aF ?_;refine kR [1,3,4,21] ?_;refine gJ ((decide (s9 < s5))) (λI7=>?_) (λI7=>?_)
     ·rw[ai I7] at h2
      refine aN ?_;refine aF ?_;refine aO ?_;refine kd [[],[0],[],[1,2],[3],[],[5],[],[6,7],[8],[4,9]] [] [] none [] 11 sZ (by decide +kernel) (by simp) ?_;obtain⟨wo,Gd,h2⟩:=bI h2;replace Gd:=bD Gd;have BZ:=Gd;try simp at BZ
      refine bj 0 2 rfl (by simp (maxSteps:=1000000) [Gd,qG,BZ,kQ];rfl) ?_;refine bj 2 2 rfl (by simp (maxSteps:=1000000) [Gd,qG,BZ,kQ];rfl) ?_;refine bj 4 2 rfl (by simp (maxSteps:=1000000) [Gd,qG,BZ,kQ];rfl) ?_;refine bj 6 2 rfl (by simp (maxSteps:=1000000) [Gd,qG,BZ,kQ];rfl) ?_;refine bj 8 2 rfl (by simp (maxSteps:=1000000) [Gd,qG,BZ,kQ];rfl) ?_;refine bj 10 1 rfl (by simp (maxSteps:=1000000) [Gd,qG,BZ,kQ];rfl) ?_;refine fu rfl (ar ?_);refine gJ ((wo==x6)) (λNa=>?_) (λNa=>?_)
      ·rw[ai Na] at h2
       refine kR [2] ?_;have k2:=xt _ (af h2);subst k2;dsimp only at h1;have k1:=iq _ (af h1);subst k1;dsimp only at h0;cases h0;exact fM
      ·rw[ah (by rw[Na];decide)] at h2
       refine aN ?_;refine lr (by simp;rfl) ?_;exact⟨_,vR _ (af h2),cq⟩
     ·rw[ah (by rw[I7];decide)] at h2
      refine bZ ?_;exact⟨_,xt _ (af h2),cq⟩
  ·rw[ah (by rw[Nc];decide)] at h1
   refine bZ ?_;exact⟨_,iq _ (af h1),cq⟩
theorem En {a0:ab} {r:Int} (h0:rP a0=some r):dY Tryz.prog 66 [] [.agg (bc a0)] (.d (.int .i64 r)) []:=by
 unfold rP at h0;refine dS (nt:=45) (rs:=[.tmp 2]) Tryz.func66 rfl Tryz.ntmps66 rfl (by simp) (by decide) rfl λK=>?_
 refine kR [1] ?_;refine aF ?_;refine kc ?_;refine kO [1,4] 2 ?_;obtain⟨y1,oC,h0⟩:=bI h0;refine ku [1,5] (uH oC) Tryz.call99 ?_;refine kO [1,6] 1 ?_;refine ar ?_;refine gJ ((!y1)) (λc1=>?_) (λc1=>?_)
 ·rw[ai c1] at h0
  refine kR [2] ?_;cases h0;exact fM
 ·rw[ah (by rw[c1];decide)] at h0
  refine aN ?_;refine aF ?_;obtain⟨v2,eE,h0⟩:=bI h0;refine qF (λsR:Bool=>(⟨45,[(1,.ptr 1 0),(22,.d (.bool sR))],[(1,(bc a0))],[]⟩:St)) (λsR=>v2=sR) (λsR e=>?_) ?_
  ·subst e
   refine gJ (v2) (λc6=>?_) (λc6=>?_)
   ·rw[ai c6] at h0
    refine kR [2] ?_;cases h0;exact fM
   ·rw[ah (by rw[c6];decide)] at h0
    refine aN ?_;refine aF ?_;refine aO ?_;refine qF (λv3:Bool=>(⟨45,[(23,.d (.bool v3))],[],[]⟩:St)) (λv3=>lP v3=some r) (λv3 h0=>?_) ?_
    ·unfold lP at h0
     refine gJ (v3) (λCx=>?_) (λCx=>?_)
     ·rw[ai Cx] at h0
      refine kR [2] ?_;cases h0;exact fM
     ·rw[ah (by rw[Cx];decide)] at h0
      refine aN ?_;refine kR [2] ?_;cases h0;exact fM
    ·obtain⟨v4,ec,h0⟩:=bI h0
     refine qF (λwg:Bool=>(⟨45,[(1,.ptr 1 0),(23,.d (.bool wg))],[(1,(bc a0))],[]⟩:St)) (λwg=>v4=wg) (λwg e=>?_) ?_
     ·subst e
      refine gJ (v4) (λCw=>?_) (λCw=>?_)
      ·rw[ai Cw] at h0
       refine aN ?_;exact⟨_,h0,cq⟩
      ·rw[ah (by rw[Cw];decide)] at h0
       obtain⟨v5,sU,h0⟩:=bI h0;refine qF (λNu:Bool=>(⟨45,[(1,.ptr 1 0),(23,.d (.bool Nu))],[(1,(bc a0))],[]⟩:St)) (λNu=>v5=Nu) (λNu e=>?_) ?_
       ·subst e
        refine gJ (v5) (λFG=>?_) (λFG=>?_)
        ·rw[ai FG] at h0
         refine aN ?_;exact⟨_,h0,cq⟩
        ·rw[ah (by rw[FG];decide)] at h0
         obtain⟨v6,pB,h0⟩:=bI h0;refine oa (λHR:Bool=>(⟨45,[(23,.d (.bool HR))],[],[]⟩:St)) (λHR=>v6=HR) (λHR e _ Wv6=>?_) ?_
         ·subst e
          exact⟨_,h0,Wk.trans (Wv6) cq⟩
         ·refine qH ?_
          refine kO [1,41] 4 ?_;refine bh 41 (a0.Kind==3) (by simp) (λZQ=>?_) (λZQ=>?_)
          ·rw[ai ZQ] at pB
           refine kO [41,42] 1 ?_;obtain⟨y7,MJ,pB⟩:=bI pB;refine ku [41,43] (Dp MJ) Tryz.call102 ?_;refine kO [23] 2 ?_;refine ar ?_;cases pB;exact⟨_,rfl,cq⟩
          ·rw[ah (by rw[ZQ];decide)] at pB
           refine kO [23] 4 ?_;refine ar ?_;cases pB;exact⟨_,rfl,cq⟩
       ·refine qH ?_
        refine kO [1,34] 4 ?_;refine bh 34 (a0.Kind==2) (by simp) (λGx=>?_) (λGx=>?_)
        ·rw[ai Gx] at sU
         refine kO [1,34,35] 1 ?_;obtain⟨y8,YL,sU⟩:=bI sU;refine ku [1,34,36] (Gb YL) Tryz.call101 ?_;refine kO [1,23] 2 ?_;refine ar ?_;cases sU;exact⟨_,rfl,cq⟩
        ·rw[ah (by rw[Gx];decide)] at sU
         refine kO [1,23] 4 ?_;refine ar ?_;cases sU;exact⟨_,rfl,cq⟩
     ·refine qH ?_
      refine kO [1,27] 4 ?_;refine bh 27 (a0.Kind==1) (by simp) (λDE=>?_) (λDE=>?_)
      ·rw[ai DE] at ec
       refine kO [1,27,28] 1 ?_;obtain⟨y9,SC,ec⟩:=bI ec;refine ku [1,27,29] (Gc SC) Tryz.call100 ?_;refine kO [1,23] 2 ?_;refine ar ?_;cases ec;exact⟨_,rfl,cq⟩
      ·rw[ah (by rw[DE];decide)] at ec
       refine kO [1,23] 4 ?_;refine ar ?_;cases ec;exact⟨_,rfl,cq⟩
  ·refine qH ?_
   refine kO [1,11] 5 ?_;refine bh 11 (decide (65536 < ((a0.Data).length:Int))) (by simp) (λDD=>?_) (λDD=>?_)
   ·rw[DD] at eE
    refine cU 4 [] (by kernel_rfl) ?_;refine kO [1,17] 2 ?_;refine cU 4 [] (by kernel_rfl) ?_;refine kO [1,22] 1 ?_;refine ar ?_;cases eE;exact⟨_,rfl,cq⟩
   ·rw[DD] at eE
    refine kO [1,17] 6 ?_;refine bh 17 (decide (64 < ((a0.bd).length:Int))) (by simp) (λI9=>?_) (λI9=>?_)
    ·rw[I9] at eE
     refine cU 4 [] (by kernel_rfl) ?_;refine kO [1,22] 1 ?_;refine ar ?_;cases eE;exact⟨_,rfl,cq⟩
    ·rw[I9] at eE
     refine kO [1,22] 5 ?_;refine ar ?_;cases eE;exact⟨_,rfl,cq⟩
theorem Dm {a0:ao} {r:Int} (h0:qf a0=some r):dY Tryz.prog 67 [] [.agg (ay a0)] (.d (.int .i64 r)) []:=by
 unfold qf at h0;refine dS (nt:=41) (rs:=[.tmp 2]) Tryz.func67 rfl Tryz.ntmps67 rfl (by simp) (by decide) rfl λK=>?_
 refine kR [1] ?_;refine aF ?_;refine kR [1,3] ?_;obtain⟨e1,jR,h0⟩:=bI h0;refine oa (λv1:Unit=>(⟨41,[],[],[]⟩:St)) (λv1=>.inl v1=e1) (λv1 eP _ W1=>?_) ?_
 ·subst eP
  dsimp only at h0;refine dp W1 ?_;refine kR [2] ?_;cases h0;exact fM
 ·refine aO (cA (λs2:Int=>(⟨41,[(1,.ptr 1 0),(3,.d (.int .i64 s2))],[(1,(ay a0))],[]⟩:St)) jR cq λG1 s2 o1 h1 gY iq=>?_)
  unfold oY at h1;refine aF ?_;refine kR [1,3,9] ?_;refine cF (b:=(decide (s2 < ((a0.aC).length:Int)))) (by simp) (λCv=>?_) (λCv=>?_)
  ·rw[ai Cv] at h1
   refine aN ?_;refine aF ?_;refine aO ?_;obtain⟨x3,p3,h1⟩:=bI h1;replace p3:=bD p3;have og:=p3;try simp at og
   refine kr [1,3,4] (by simp[p3,og];rfl) ?_;obtain⟨v4,ec,h1⟩:=bI h1;refine qF (λwg:Bool=>(⟨41,[(1,.ptr 1 0),(3,.d (.int .i64 s2)),(40,.d (.bool wg))],[(1,(ay a0))],[]⟩:St)) (λwg=>v4=wg) (λwg e=>?_) ?_
   ·subst e
    refine gJ (v4) (λZP=>?_) (λZP=>?_)
    ·rw[ai ZP] at h1
     refine kR [2] ?_;have k1:=iq _ (af h1);subst k1;dsimp only at h0;cases h0;exact fM
    ·rw[ah (by rw[ZP];decide)] at h1
     refine aN ?_;refine lr (by simp;rfl) ?_;exact⟨_,gY _ (af h1),cq⟩
   ·refine qH ?_
    refine kO [1,3,4,20] 4 ?_;refine bh 20 (x3.Kind != 1) (by simp) (λZO=>?_) (λZO=>?_)
    ·rw[ai ZO] at ec
     refine kO [1,3,4,21,22,23,25] 5 ?_;refine bh 25 (x3.Kind != 2) (by simp) (λTK=>?_) (λTK=>?_)
     ·rw[ai TK] at ec
      refine cU 4 [] (by kernel_rfl) ?_;refine kO [1,3,4,21,22,23,31] 2 ?_;refine cU 8 [] (by kernel_rfl) ?_;refine kO [1,3,21,22,23,40] 1 ?_;refine ar ?_;cases ec;exact⟨_,rfl,cq⟩
     ·rw[ah (by rw[TK];decide)] at ec
      refine kO [1,3,4,21,22,23,25,26,27] 2 ?_;obtain⟨y5,IB,ec⟩:=bI ec;refine ku [1,3,4,21,22,23,25,26,27,28] (rA IB) Tryz.call103 ?_;refine kO [1,3,4,21,22,23,26,27,28,29,31] 3 ?_;refine bh 31 (!y5) (by simp) (λNb=>?_) (λNb=>?_)
      ·rw[ai Nb] at ec
       refine cU 8 [] (by kernel_rfl) ?_;refine kO [1,3,21,22,23,26,27,28,29,40] 1 ?_;refine ar ?_;cases ec;exact⟨_,rfl,cq⟩
      ·rw[ah (by rw[Nb];decide)] at ec
       refine kO [1,3,4,21,22,23,26,27,28,29,31,32,33,34,35] 4 ?_;refine bh 35 (x3.Kind==2) (by simp) (λI7=>?_) (λI7=>?_)
       ·rw[ai I7] at ec
        refine kO [1,3,21,22,23,26,27,28,29,32,33,34,35,36,37,38,39,40] 5 ?_;refine ar ?_;cases ec;exact⟨_,rfl,cq⟩
       ·rw[ah (by rw[I7];decide)] at ec
        refine cU 3 [] (by kernel_rfl) ?_;refine kO [1,3,21,22,23,26,27,28,29,32,33,34,35,39,40] 2 ?_;refine ar ?_;cases ec;exact⟨_,rfl,cq⟩
    ·rw[ah (by rw[ZO];decide)] at ec
     refine cU 3 [] (by kernel_rfl) ?_;refine kO [1,3,4,25,26,27] 4 ?_;obtain⟨y6,Gm,ec⟩:=bI ec;refine ku [1,3,4,25,26,27,28] (rA Gm) Tryz.call103 ?_;refine kO [1,3,4,26,27,28,29,31] 3 ?_;refine bh 31 (!y6) (by simp) (λNa=>?_) (λNa=>?_)
     ·rw[ai Na] at ec
      refine cU 8 [] (by kernel_rfl) ?_;refine kO [1,3,26,27,28,29,40] 1 ?_;refine ar ?_;cases ec;exact⟨_,rfl,cq⟩
     ·rw[ah (by rw[Na];decide)] at ec
      refine kO [1,3,4,26,27,28,29,31,32,33,34,35] 4 ?_;refine bh 35 (x3.Kind==2) (by simp) (λc36=>?_) (λc36=>?_)
      ·rw[ai c36] at ec
       refine kO [1,3,26,27,28,29,32,33,34,35,36,37,38,39,40] 5 ?_;refine ar ?_;cases ec;exact⟨_,rfl,cq⟩
      ·rw[ah (by rw[c36];decide)] at ec
       refine cU 3 [] (by kernel_rfl) ?_;refine kO [1,3,26,27,28,29,32,33,34,35,39,40] 2 ?_;refine ar ?_;cases ec;exact⟨_,rfl,cq⟩
  ·rw[ah (by rw[Cv];decide)] at h1
   refine bZ ?_;exact⟨_,iq _ (af h1),cq⟩
theorem vc {a0:List ab} {a1:Int} {r:ab×Bool} (h0:pt a0 a1=some r):dY Tryz.prog 71 [] [.d (.slice (ak au a0)),.d (.int .i64 a1)] (.ia [.agg (bc r.1),.d (.bool r.2)]) []:=by
 unfold pt at h0;refine dS (nt:=25) (rs:=[.cell 4 49,.tmp 5]) Tryz.func71 rfl Tryz.ntmps71 rfl (by simp) (by decide) rfl λK=>?_
 refine kR [0,1,4] ?_;refine aF ?_;refine kR [0,1,4,6] ?_;obtain⟨e1,jR,h0⟩:=bI h0;refine oa (λv1:Unit=>(⟨25,[(4,.ptr 4 0)],[(4,[.d (.int .i64 0),.d (.int .i64 0),.dK,.dK,.d (.int .i64 0),.dK,.d (.str ByteArray.empty),.d (.int .i64 0)])],[]⟩:St)) (λv1=>.inl v1=e1) (λv1 eP _ W1=>?_) ?_
 ·subst eP
  dsimp only at h0;refine dp W1 ?_;refine kR [4,5] ?_;cases h0;exact fM
 ·refine aO (cA (λs2:Int=>(⟨25,[(0,.d (.slice (ak au a0))),(1,.d (.int .i64 a1)),(4,.ptr 4 0),(6,.d (.int .i64 s2))],[(4,[.d (.int .i64 0),.d (.int .i64 0),.dK,.dK,.d (.int .i64 0),.dK,.d (.str ByteArray.empty),.d (.int .i64 0)])],[]⟩:St)) jR cq λG1 s2 o1 h1 gY iq=>?_)
  unfold lf at h1;refine aF ?_;refine kR [0,1,4,6,10] ?_;refine cF (b:=(decide (s2 < ((a0).length:Int)))) (by simp) (λc5=>?_) (λc5=>?_)
  ·rw[ai c5] at h1
   refine aN ?_;refine aF ?_;refine aO ?_;obtain⟨x3,p3,h1⟩:=bI h1;replace p3:=bD p3;have og:=p3;try simp at og
   refine kr [0,1,4,6,19] (by simp[p3,og];rfl) ?_;refine gJ ((x3.ID==a1)) (λc6=>?_) (λc6=>?_)
   ·rw[ai c6] at h1
    refine kr [4,5] (by simp[p3,og];rfl) ?_;have k1:=iq _ (af h1);subst k1;dsimp only at h0;cases h0;exact fM
   ·rw[ah (by rw[c6];decide)] at h1
    refine aN ?_;refine lr (by simp;rfl) ?_;exact⟨_,gY _ (af h1),cq⟩
  ·rw[ah (by rw[c5];decide)] at h1
   refine bZ ?_;exact⟨_,iq _ (af h1),cq⟩
theorem rv {a0:ao} {a1:Int} {r:Int} (h0:nF a0 a1=some r):dY Tryz.prog 105 [] [.agg (ay a0),.d (.int .i64 a1)] (.d (.int .i64 r)) []:=by
 unfold nF at h0;refine dS (nt:=16) (rs:=[.tmp 4]) Tryz.func105 rfl Tryz.ntmps105 rfl (by simp) (by decide) rfl λK=>?_
 refine kR [1,2] ?_;refine kc ?_;refine kO [9,10] 3 ?_;obtain⟨y1,oC,h0⟩:=bI h0;refine ku [11] (vc oC) Tryz.call71 ?_;refine kO [5] 6 ?_;refine ar ?_;refine kR [4] ?_;cases h0;exact fM
theorem El {a0:ao} {a1:ab} {r:Bool} (h0:rN a0 a1=some r):dY Tryz.prog 104 [] [.agg (ay a0),.agg (bc a1)] (.d (.bool r)) []:=by
 unfold rN at h0;refine dS (nt:=54) (rs:=[.tmp 4]) Tryz.func104 rfl Tryz.ntmps104 rfl (by simp) (by decide) rfl λK=>?_
 refine kR [2,3] ?_;refine aF ?_;refine kR [2,3,5] ?_;obtain⟨e1,jR,h0⟩:=bI h0;refine oa (λv1:Unit=>(⟨54,[(2,.ptr 2 0),(3,.ptr 3 0)],[(2,(ay a0)),(3,(bc a1))],[]⟩:St)) (λv1=>.inl v1=e1) (λv1 eP _ W1=>?_) ?_
 ·subst eP
  dsimp only at h0;refine dp W1 ?_;refine aF ?_;refine kR [2,3,7] ?_;obtain⟨e2,Gt,h0⟩:=bI h0;refine oa (λv2:Unit=>(⟨54,[(2,.ptr 2 0),(3,.ptr 3 0)],[(2,(ay a0)),(3,(bc a1))],[]⟩:St)) (λv2=>.inl v2=e2) (λv2 vo _ W2=>?_) ?_
  ·subst vo
   dsimp only at h0;refine dp W2 ?_;obtain⟨v3,oR,h0⟩:=bI h0;refine qF (λHS:Bool=>(⟨54,[(4,.d (.bool HS))],[],[]⟩:St)) (λHS=>v3=HS) (λHS e=>?_) ?_
   ·subst e
    cases h0;exact fM
   ·refine qH ?_
    refine kO [2,3,47] 4 ?_;refine bh 47 (a1.Kind != 3) (by simp) (λAp=>?_) (λAp=>?_)
    ·rw[ai Ap] at oR
     refine cU 5 [] (by kernel_rfl) ?_;refine kO [4] 2 ?_;refine ar ?_;cases oR;exact⟨_,rfl,cq⟩
    ·rw[ah (by rw[Ap];decide)] at oR
     refine kO [47,48,50] 3 ?_;obtain⟨y4,zh,oR⟩:=bI oR;refine ku [47,51] (rv zh) Tryz.call105 ?_;refine kO [4] 3 ?_;refine ar ?_;cases oR;exact⟨_,rfl,cq⟩
  ·refine aO (cA (λs5:Int=>(⟨54,[(2,.ptr 2 0),(3,.ptr 3 0),(7,.d (.int .i64 s5))],[(2,(ay a0)),(3,(bc a1))],[]⟩:St)) Gt cq λG2 s5 o2 h2 vR xt=>?_)
   unfold qd at h2;refine aF ?_;refine kR [2,3,7,33] ?_;refine cF (b:=(decide (s5 < ((a1.bf).length:Int)))) (by simp) (λFH=>?_) (λFH=>?_)
   ·rw[ai FH] at h2
    refine aN ?_;refine aF ?_;refine aO ?_;refine kd [[],[],[1],[],[2,3],[4],[0,5],[6]] [] [] none [] 8 sZ (by decide +kernel) (by simp) ?_;obtain⟨x6,AR,h2⟩:=bI h2;replace AR:=bD AR;have ze:=AR;try simp at ze
    refine bj 0 2 rfl (by simp (maxSteps:=1000000) [AR,ze];rfl) ?_;refine bj 2 2 rfl (by simp (maxSteps:=1000000) [AR,ze];rfl) ?_;refine bj 4 2 rfl (by simp (maxSteps:=1000000) [AR,ze];rfl) ?_;obtain⟨y7,MJ,h2⟩:=bI h2;refine iu 6 [] (rv MJ) rfl rfl rfl rfl rfl Tryz.call105 (by simp) ?_;refine bj 7 1 rfl (by simp (maxSteps:=1000000);rfl) ?_;refine fu rfl (ar ?_);refine gJ ((y7 != 3)) (λCw=>?_) (λCw=>?_)
    ·rw[ai Cw] at h2
     refine kR [4] ?_;have k1:=xt _ (af h2);subst k1;dsimp only at h0;cases h0;exact fM
    ·rw[ah (by rw[Cw];decide)] at h2
     refine aN ?_;refine lr (by simp;rfl) ?_;exact⟨_,vR _ (af h2),cq⟩
   ·rw[ah (by rw[FH];decide)] at h2
    refine bZ ?_;exact⟨_,xt _ (af h2),cq⟩
 ·refine aO (cA (λLD:Int=>(⟨54,[(2,.ptr 2 0),(3,.ptr 3 0),(5,.d (.int .i64 LD))],[(2,(ay a0)),(3,(bc a1))],[]⟩:St)) jR cq λG2 LD o2 h2 vR xt=>?_)
  unfold qe at h2;refine aF ?_;refine kR [2,3,5,12] ?_;refine cF (b:=(decide (LD < ((a1.bd).length:Int)))) (by simp) (λAo=>?_) (λAo=>?_)
  ·rw[ai Ao] at h2
   refine aN ?_;refine aF ?_;refine aO ?_;refine kd [[],[],[1],[],[2,3],[4],[5],[0,6],[7]] [] [] none [] 9 sZ (by decide +kernel) (by simp) ?_;obtain⟨x11,oh,h2⟩:=bI h2;replace oh:=bD oh;have jb:=oh;try simp at jb
   refine bj 0 2 rfl (by simp (maxSteps:=1000000) [oh,jb];rfl) ?_;refine bj 2 2 rfl (by simp (maxSteps:=1000000) [oh,jb];rfl) ?_;refine bj 4 2 rfl (by simp (maxSteps:=1000000) [oh,jb];rfl) ?_;refine bj 6 1 rfl (by simp (maxSteps:=1000000) [oh,jb];rfl) ?_;obtain⟨WC,YR,h2⟩:=bI h2;refine iu 7 [] (rv YR) rfl rfl rfl rfl rfl Tryz.call105 (by simp) ?_;refine bj 8 1 rfl (by simp (maxSteps:=1000000);rfl) ?_;refine fu rfl (ar ?_);obtain⟨UT,N8,h2⟩:=bI h2;refine qF (λUS:Bool=>(⟨54,[(2,.ptr 2 0),(3,.ptr 3 0),(5,.d (.int .i64 LD)),(28,.d (.bool US))],[(2,(ay a0)),(3,(bc a1))],[]⟩:St)) (λUS=>UT=US) (λUS e=>?_) ?_
   ·subst e
    refine gJ (UT) (λAn=>?_) (λAn=>?_)
    ·rw[ai An] at h2
     refine kR [4] ?_;have k1:=xt _ (af h2);subst k1;dsimp only at h0;cases h0;exact fM
    ·rw[ah (by rw[An];decide)] at h2
     refine aN ?_;refine lr (by simp;rfl) ?_;exact⟨_,vR _ (af h2),cq⟩
   ·refine qH ?_
    refine kO [2,3,5,6,25] 3 ?_;refine bh 25 (WC != 1) (by simp) (λFF=>?_) (λFF=>?_)
    ·rw[FF] at N8
     refine kO [2,3,5,26,27,28] 3 ?_;refine ar ?_;cases N8;exact⟨_,rfl,cq⟩
    ·rw[FF] at N8
     refine kO [2,3,5,26,27,28] 3 ?_;refine ar ?_;cases N8;exact⟨_,rfl,cq⟩
  ·rw[ah (by rw[Ao];decide)] at h2
   refine bZ ?_;exact⟨_,xt _ (af h2),cq⟩
theorem BT {a0:List az} {r:(List az)} (h0:oM a0=some r):dY Tryz.prog 107 [] [.d (.slice (ak aT a0))] (.d (.slice (ak aT r))) []:=by
 unfold oM at h0;refine dS (nt:=22) (rs:=[.tmp 2]) Tryz.func107 rfl Tryz.ntmps107 rfl (by simp) (by decide) rfl λK=>?_
 refine kR [0] ?_;refine kR [0,3] ?_;refine aF ?_;refine kR [0,3,4] ?_;refine dp (pX 3 20 89 4 (by simp) (by simp)) ?_;obtain⟨e1,jR,h0⟩:=bI h0;refine oa (λv1:(List az)=>(⟨22,[(3,.vec 20)],[],[(20,⟨89,4,ak aT v1⟩)]⟩:St)) (λv1=>v1=e1) (λv1 eP _ W1=>?_) ?_
 ·subst eP
  refine dp W1 ?_;refine kR [2] ?_;cases h0;exact fo ⟨[20],by simp,rfl,by simp⟩
 ·refine aO (cA (λs2:Int×(List az)=>(⟨22,[(0,.d (.slice (ak aT a0))),(3,.vec 20),(4,.d (.int .i64 s2.1))],[],[(20,⟨89,4,ak aT s2.2⟩)]⟩:St)) jR cq λG1 s2 o1 h1 gY iq=>?_)
  unfold lL at h1;refine aF ?_;refine kR [0,3,4,9] ?_;refine cF (b:=(decide (s2.1 < ((a0).length:Int)))) (by simp) (λc4=>?_) (λc4=>?_)
  ·rw[ai c4] at h1
   refine aN ?_;refine aF ?_;refine aO ?_;obtain⟨x3,p8,h1⟩:=bI h1;replace p8:=bD p8;have p8':=p8;try simp at p8'
   refine kr [0,3,4,5] (by simp[p8,p8'];rfl) ?_;refine kR [0,3,4,5] ?_;obtain⟨_,J8,h1⟩:=bI h1;replace J8:=bT J8;have RQ:=J8;try simp at RQ
   refine lr (by simp[J8,RQ];rfl) ?_;refine lr (by simp;rfl) ?_;exact⟨_,gY _ (af h1),cq⟩
  ·rw[ah (by rw[c4];decide)] at h1
   refine bZ ?_;exact⟨_,iq _ (af h1),cq⟩
theorem xT {a0:ab} {r:(List Int)} (h0:rO a0=some r):dY Tryz.prog 127 [] [.agg (bc a0)] (.d (.slice (ak (aH .i64) r))) []:=by
 unfold rO at h0;refine tY (nt:=33) (rs:=[.tmp 2]) Tryz.func127 rfl Tryz.ntmps127 rfl (by simp) (by decide) rfl λK hK=>?_
 refine kR [1] ?_;refine kR [1,3] ?_;refine aF ?_;refine kR [1,3,4] ?_;refine dp (pX 3 20 3 1 (by simp) (by simp)) ?_;obtain⟨e1,jR,h0⟩:=bI h0;refine oa (λv1:(List Int)=>(⟨33,[(1,.ptr 1 0),(3,.vec 20)],[(1,(bc a0))],[(20,⟨3,1,ak (aH .i64) v1⟩)]⟩:St)) (λv1=>v1=e1) (λv1 eP _ W1=>?_) ?_
 ·subst eP
  refine dp W1 ?_;refine aF ?_;refine kR [1,3,23] ?_;refine gJ ((a0.Kind==3)) (λc4=>?_) (λc4=>?_)
  ·rw[ai c4] at h0
   obtain⟨_,wh,h0⟩:=bI h0;replace wh:=bT wh;have oN:=wh;try simp at oN
   obtain⟨_,qG,h0⟩:=bI h0;replace qG:=bT qG;have kQ:=qG;try simp at kQ
   refine YG (S0:=(⟨33,[(3,.vec 31)],[],[(31,⟨3,1,ak (aH .i64) ((v1++[a0.Tree])++a0.bf)⟩)]⟩:St)) [0,1,5] 6 (by simpa using hK) sZ (by decide +kernel) rfl rfl rfl (by simp[gX,iZ,gB,gZ,wh,qG,oN,kQ];rfl) (λK' S F C=>?_) (λ_ ahv=>?_)
   ·
    refine ky C [2,6] (by decide +kernel) (by decide) ?_;refine fa rfl (by simp[wh,qG,oN,kQ];rfl) ?_ ?_
    ·
     refine ky C [3,6] (by decide +kernel) (by decide) ?_;refine fa rfl (by simp[wh,qG,oN,kQ];rfl) ?_ ?_
     ·
      refine ky C [4,6] (by decide +kernel) (by decide) ?_;refine fa rfl (by simp[wh,qG,oN,kQ];rfl) ?_ ?_
      ·
       refine ky C [6] (by decide +kernel) (by decide) ?_;refine fa rfl (by simp[wh,qG,oN,kQ];rfl) ?_ ?_
       ·
        refine ky C [7] (by decide +kernel) (by decide) ?_;refine fa rfl (by simp[wh,qG,oN,kQ];rfl) ?_ ?_
        ·
         refine uM C 8 rfl (by decide +kernel) (by decide +kernel) (by simp[gB,gZ]) (by simp[wh,qG,oN,kQ];rfl) ?_;exact kx C (by decide +kernel) ⟨rfl,bw.2 (by simp)⟩
        exact trivial
       exact trivial
      refine fa rfl (by simp[wh,qG,oN,kQ];rfl) ?_ ?_
      ·
       refine ky C [4] (by decide +kernel) (by decide) ?_;refine fa rfl (by simp[wh,qG,oN,kQ];rfl) ?_ ?_
       ·
        refine ky C [7] (by decide +kernel) (by decide) ?_;refine fa rfl (by simp[wh,qG,oN,kQ];rfl) ?_ ?_
        ·
         refine uM C 8 rfl (by decide +kernel) (by decide +kernel) (by simp[gB,gZ]) (by simp[wh,qG,oN,kQ];rfl) ?_;exact kx C (by decide +kernel) ⟨rfl,bw.2 (by simp)⟩
        exact trivial
       exact trivial
      exact trivial
     refine fa rfl (by simp[wh,qG,oN,kQ];rfl) ?_ ?_
     ·
      refine ky C [3] (by decide +kernel) (by decide) ?_;refine fa rfl (by simp[wh,qG,oN,kQ];rfl) ?_ ?_
      ·
       refine ky C [4] (by decide +kernel) (by decide) ?_;refine fa rfl (by simp[wh,qG,oN,kQ];rfl) ?_ ?_
       ·
        refine ky C [7] (by decide +kernel) (by decide) ?_;refine fa rfl (by simp[wh,qG,oN,kQ];rfl) ?_ ?_
        ·
         refine uM C 8 rfl (by decide +kernel) (by decide +kernel) (by simp[gB,gZ]) (by simp[wh,qG,oN,kQ];rfl) ?_;exact kx C (by decide +kernel) ⟨rfl,bw.2 (by simp)⟩
        exact trivial
       exact trivial
      exact trivial
     exact trivial
    refine fa rfl (by simp[wh,qG,oN,kQ];rfl) ?_ ?_
    ·
     refine ky C [2] (by decide +kernel) (by decide) ?_;refine fa rfl (by simp[wh,qG,oN,kQ];rfl) ?_ ?_
     ·
      refine ky C [3] (by decide +kernel) (by decide) ?_;refine fa rfl (by simp[wh,qG,oN,kQ];rfl) ?_ ?_
      ·
       refine ky C [4] (by decide +kernel) (by decide) ?_;refine fa rfl (by simp[wh,qG,oN,kQ];rfl) ?_ ?_
       ·
        refine ky C [7] (by decide +kernel) (by decide) ?_;refine fa rfl (by simp[wh,qG,oN,kQ];rfl) ?_ ?_
        ·
         refine uM C 8 rfl (by decide +kernel) (by decide +kernel) (by simp[gB,gZ]) (by simp[wh,qG,oN,kQ];rfl) ?_;exact kx C (by decide +kernel) ⟨rfl,bw.2 (by simp)⟩
        exact trivial
       exact trivial
      exact trivial
     exact trivial
    exact trivial
   ·
    refine dp (wk ahv) ?_;refine kR [2] ?_;cases h0;exact fo ⟨[31],by simp,rfl,by simp⟩
  ·rw[ah (by rw[c4];decide)] at h0
   refine aN ?_;refine kR [2] ?_;cases h0;exact fo ⟨[20],by simp,rfl,by simp⟩
 ·refine aO (cA (λs2:Int×(List Int)=>(⟨33,[(1,.ptr 1 0),(3,.vec 20),(4,.d (.int .i64 s2.1))],[(1,(bc a0))],[(20,⟨3,1,ak (aH .i64) s2.2⟩)]⟩:St)) jR cq λG1 s2 o1 h1 gY iq=>?_)
  unfold nG at h1;refine aF ?_;refine kR [1,3,4,9] ?_;refine cF (b:=(decide (s2.1 < ((a0.bd).length:Int)))) (by simp) (λc5=>?_) (λc5=>?_)
  ·rw[ai c5] at h1
   refine aN ?_;refine aF ?_;refine aO ?_;obtain⟨x3,Dq,h1⟩:=bI h1;replace Dq:=bD Dq;have xY:=Dq;try simp at xY
   obtain⟨_,qY,h1⟩:=bI h1;replace qY:=bT qY;have oD:=qY;try simp at oD
   refine lr (by simp[Dq,qY,xY,oD];rfl) ?_;refine lr (by simp;rfl) ?_;exact⟨_,gY _ (af h1),cq⟩
  ·rw[ah (by rw[c5];decide)] at h1
   refine bZ ?_;exact⟨_,iq _ (af h1),cq⟩
theorem Dn {a0:ao} {r:Bool} (h0:qg a0=some r):dY Tryz.prog 108 [] [.agg (ay a0)] (.d (.bool r)) []:=by
 unfold qg at h0;refine dS (nt:=56) (rs:=[.tmp 2]) Tryz.func108 rfl Tryz.ntmps108 rfl (by simp) (by decide) rfl λK=>?_
 refine kR [1] ?_;refine kR [1,3] ?_;refine aF ?_;refine kR [1,3,4] ?_;obtain⟨e1,jR,h0⟩:=bI h0;refine oa (λv1:(List (Int×Bool))=>(⟨56,[(1,.ptr 1 0),(3,.vec 10)],[(1,(ay a0))],[(10,⟨bL 103 1 false false,2,ak (bB (aH .i64) gm) v1⟩)]⟩:St)) (λv1=>v1=e1) (λv1 eP _ W1=>?_) ?_
 ·subst eP
  refine dp W1 ?_;refine kR [2] ?_;cases h0;exact fM
 ·refine aO (cA (λs2:Bool×(List (Int×Bool))=>(⟨56,[(1,.ptr 1 0),(3,.vec 10),(4,.d (.bool s2.1))],[(1,(ay a0))],[(10,⟨bL 103 1 false false,2,ak (bB (aH .i64) gm) s2.2⟩)]⟩:St)) jR cq λG1 s2 o1 h1 gY iq=>?_)
  unfold fG at h1;refine aF ?_;refine kR [1,3,11] ?_;refine gJ (s2.1) (λI8=>?_) (λI8=>?_)
  ·rw[ai I8] at h1
   refine aN ?_;refine aO ?_;refine kR [1,3,4] ?_;refine kR [1,3,4,5] ?_;obtain⟨e2,Gt,h1⟩:=bI h1;refine oa (λv3:Bool×(List (Int×Bool))=>(⟨56,[(1,.ptr 1 0),(3,.vec 10),(4,.d (.bool v3.1))],[(1,(ay a0))],[(10,⟨bL 103 1 false false,2,ak (bB (aH .i64) gm) v3.2⟩)]⟩:St)) (λv3=>v3=e2) (λv3 vo _ W2=>?_) ?_
   ·subst vo
    exact⟨_,gY _ (af h1),Wk.trans (W2) cq⟩
   ·refine aO (cA (λs4:Bool×Int×(List (Int×Bool))=>(⟨56,[(1,.ptr 1 0),(3,.vec 10),(4,.d (.bool s4.1)),(5,.d (.int .i64 s4.2.1))],[(1,(ay a0))],[(10,⟨bL 103 1 false false,2,ak (bB (aH .i64) gm) s4.2.2⟩)]⟩:St)) Gt cq λG2 s4 o2 h2 vR xt=>?_)
    unfold kG at h2;refine aF ?_;refine kR [1,3,4,5,16] ?_;refine cF (b:=(decide (s4.2.1 < ((a0.aq).length:Int)))) (by simp) (λc39=>?_) (λc39=>?_)
    ·rw[ai c39] at h2
     refine aN ?_;refine aF ?_;refine aO ?_;obtain⟨x5,Vn,h2⟩:=bI h2;replace Vn:=bD Vn;have RP:=Vn;try simp at RP
     refine kr [1,3,4,5,6] (by simp[Vn,RP];rfl) ?_;refine kR [1,3,4,5,6,7] ?_;refine kc ?_;refine kO [1,3,4,5,6,7,29] 1 ?_;obtain⟨y6,Gm,h2⟩:=bI h2;refine ku [1,3,4,5,6,7,30] (xT Gm) Tryz.call127 ?_;refine kO [1,3,4,5,6,7,8] 1 ?_;refine ar ?_;refine aF ?_;refine kR [1,3,4,5,6,7,8,9] ?_;obtain⟨e3,Zr,h2⟩:=bI h2;refine oa (λv7:Bool=>(⟨56,[(1,.ptr 1 0),(3,.vec 10),(4,.d (.bool s4.1)),(5,.d (.int .i64 s4.2.1)),(6,.ptr 6 0),(7,.d (.bool v7))],[(1,(ay a0)),(6,(bc x5))],[(10,⟨bL 103 1 false false,2,ak (bB (aH .i64) gm) s4.2.2⟩)]⟩:St)) (λv7=>v7=e3) (λv7 MU _ W3=>?_) ?_
     ·subst MU
      refine dp W3 ?_;refine kR [1,3,4,5,6,46] ?_;refine gJ (v7) (λc44=>?_) (λc44=>?_)
      ·rw[ai c44] at h2
       refine lr (by simp;rfl) ?_;refine lr (by simp;rfl) ?_;exact⟨_,vR _ (af h2),cq⟩
      ·rw[ah (by rw[c44];decide)] at h2
       refine aN ?_;refine lr (by simp;rfl) ?_;exact⟨_,vR _ (af h2),cq⟩
     ·refine aO (cA (λs8:Bool×Int=>(⟨56,[(1,.ptr 1 0),(3,.vec 10),(4,.d (.bool s4.1)),(5,.d (.int .i64 s4.2.1)),(6,.ptr 6 0),(7,.d (.bool s8.1)),(8,.d (.slice (ak (aH .i64) y6))),(9,.d (.int .i64 s8.2))],[(1,(ay a0)),(6,(bc x5))],[(10,⟨bL 103 1 false false,2,ak (bB (aH .i64) gm) s4.2.2⟩)]⟩:St)) Zr cq λG3 s8 o3 h3 MO Uw=>?_)
      unfold jm at h3;refine aF ?_;obtain⟨v9,IE,h3⟩:=bI h3;refine qF (λUM:Bool=>(⟨56,[(1,.ptr 1 0),(3,.vec 10),(4,.d (.bool s4.1)),(5,.d (.int .i64 s4.2.1)),(6,.ptr 6 0),(7,.d (.bool s8.1)),(8,.d (.slice (ak (aH .i64) y6))),(9,.d (.int .i64 s8.2)),(37,.d (.bool UM))],[(1,(ay a0)),(6,(bc x5))],[(10,⟨bL 103 1 false false,2,ak (bB (aH .i64) gm) s4.2.2⟩)]⟩:St)) (λUM=>v9=UM) (λUM e=>?_) ?_
      ·subst e
       refine gJ (v9) (λWi=>?_) (λWi=>?_)
       ·rw[ai Wi] at h3
        refine aN ?_;refine aF ?_;refine aO ?_;obtain⟨wo,Vm,h3⟩:=bI h3;replace Vm:=bD Vm;have RO:=Vm;try simp at RO
        refine lr (by simp[Vm,RO];rfl) ?_;refine lr (by simp;rfl) ?_;exact⟨_,MO _ (af h3),cq⟩
       ·rw[ah (by rw[Wi];decide)] at h3
        refine bZ ?_;exact⟨_,Uw _ (af h3),cq⟩
      ·refine qH ?_
       refine kO [1,3,4,5,6,7,8,9,35] 5 ?_;refine bh 35 (decide (s8.2 < ((y6).length:Int))) (by simp) (λc48=>?_) (λc48=>?_)
       ·rw[c48] at IE
        refine kO [1,3,4,5,6,7,8,9,36,37] 2 ?_;refine ar ?_;cases IE;exact⟨_,rfl,cq⟩
       ·rw[c48] at IE
        refine kO [1,3,4,5,6,7,8,9,36,37] 2 ?_;refine ar ?_;cases IE;exact⟨_,rfl,cq⟩
    ·rw[ah (by rw[c39];decide)] at h2
     refine bZ ?_;exact⟨_,xt _ (af h2),cq⟩
  ·rw[ah (by rw[I8];decide)] at h1
   refine bZ ?_;exact⟨_,iq _ (af h1),cq⟩
theorem zN {a0:ao} {a1:List (Int×Bool)} {r:(List Int)} (h0:kH a0 a1=some r):dY Tryz.prog 69 [] [.agg (ay a0),.d (.mp (bL 103 1 false false) 2 (ak (bB (aH .i64) gm) a1))] (.d (.slice (ak (aH .i64) r))) []:=by
 unfold kH at h0;refine dS (nt:=55) (rs:=[.tmp 4]) Tryz.func69 rfl Tryz.ntmps69 rfl (by simp) (by decide) rfl λK=>?_
 refine kR [1,2] ?_;refine kR [1,2,5] ?_;refine aF ?_;refine kR [1,2,5,6] ?_;refine dp (pX 5 53 3 1 (by simp) (by simp)) ?_;obtain⟨e1,jR,h0⟩:=bI h0;refine oa (λv1:(List Int)=>(⟨55,[(5,.vec 53)],[],[(53,⟨3,1,ak (aH .i64) v1⟩)]⟩:St)) (λv1=>v1=e1) (λv1 eP _ W1=>?_) ?_
 ·subst eP
  refine dp W1 ?_;refine kR [4] ?_;cases h0;exact fo ⟨[53],by simp,rfl,by simp⟩
 ·refine aO (cA (λs2:Int×(List Int)=>(⟨55,[(1,.d (.mp (bL 103 1 false false) 2 (ak (bB (aH .i64) gm) a1))),(2,.ptr 2 0),(5,.vec 53),(6,.d (.int .i64 s2.1))],[(2,(ay a0))],[(53,⟨3,1,ak (aH .i64) s2.2⟩)]⟩:St)) jR cq λG1 s2 o1 h1 gY iq=>?_)
  unfold gM at h1;refine aF ?_;refine kR [1,2,5,6,14] ?_;refine cF (b:=(decide (s2.1 < ((a0.aq).length:Int)))) (by simp) (λAn=>?_) (λAn=>?_)
  ·rw[ai An] at h1
   refine aN ?_;refine aF ?_;refine aO ?_;obtain⟨x3,p38,h1⟩:=bI h1;replace p38:=bD p38;have abd:=p38;try simp at abd
   refine kr [1,2,5,6,7] (by simp[p38,abd];rfl) ?_;refine aF ?_;refine kR [1,2,5,6,7,26] ?_;refine gJ ((!((br cK a1 x3.ID).getD false))) (λFF=>?_) (λFF=>?_)
   ·rw[ai FF] at h1
    refine bZ ?_;refine lr (by simp;rfl) ?_;exact⟨_,gY _ (af h1),cq⟩
   ·rw[ah (by rw[FF];decide)] at h1
    refine aN ?_;refine kR [1,2,5,6,7,8] ?_;obtain⟨e2,Gt,h1⟩:=bI h1;refine qF (λv4:Int=>(⟨55,[(1,.d (.mp (bL 103 1 false false) 2 (ak (bB (aH .i64) gm) a1))),(2,.ptr 2 0),(5,.vec 53),(6,.d (.int .i64 s2.1)),(7,.d (.int .i64 x3.ID)),(8,.d (.int .i64 v4))],[(2,(ay a0))],[(53,⟨3,1,ak (aH .i64) s2.2⟩)]⟩:St)) (λv4=>v4=e2) (λv4 vo=>?_) ?_
    ·subst vo
     obtain⟨_,p46,h1⟩:=bI h1;replace p46:=bT p46;have abb:=p46;try simp at abb
     obtain⟨_,RI,h1⟩:=bI h1;replace RI:=bT RI;have Mo:=RI;try simp at Mo
     obtain⟨_,p48,h1⟩:=bI h1;replace p48:=bT p48;have aa9:=p48;try simp at aa9
     refine kr [1,2,5,6,8,9] (by simp[p46,RI,p48,abb,Mo,aa9];rfl) ?_;refine qH ?_;refine kO [1,2,6,9,48,49,50] 3 ?_;refine tD 53 ?_;obtain⟨_,p49,h1⟩:=bI h1;replace p49:=bT p49;have aa8:=p49;try simp at aa8
     obtain⟨_,p50,h1⟩:=bI h1;replace p50:=bT p50;have aa6:=p50;try simp at aa6
     have qz:v4.toNat+(s2.2.length - v4.toNat+1)≤268435456:=by
      have h1:=p46.1;have h2:=p46.2.1;have h3:=p48;have h4:=p50;simp at h3 h4;omega
     refine ko [1,2,5,6] 4 (by simp[p49,p50,aa8,aa6,qz];rfl) ?_;refine ar ?_;refine lr (by simp;rfl) ?_;exact⟨_,gY _ (af h1),cq⟩
    ·refine aO (cA (λs5:Int=>(⟨55,[(1,.d (.mp (bL 103 1 false false) 2 (ak (bB (aH .i64) gm) a1))),(2,.ptr 2 0),(5,.vec 53),(6,.d (.int .i64 s2.1)),(7,.d (.int .i64 x3.ID)),(8,.d (.int .i64 s5))],[(2,(ay a0))],[(53,⟨3,1,ak (aH .i64) s2.2⟩)]⟩:St)) Gt cq λG2 s5 o2 h2 vR xt=>?_)
     unfold gL at h2;refine aF ?_;obtain⟨v6,pB,h2⟩:=bI h2;refine qF (λHR:Bool=>(⟨55,[(1,.d (.mp (bL 103 1 false false) 2 (ak (bB (aH .i64) gm) a1))),(2,.ptr 2 0),(5,.vec 53),(6,.d (.int .i64 s2.1)),(7,.d (.int .i64 x3.ID)),(8,.d (.int .i64 s5)),(39,.d (.bool HR))],[(2,(ay a0))],[(53,⟨3,1,ak (aH .i64) s2.2⟩)]⟩:St)) (λHR=>v6=HR) (λHR e=>?_) ?_
     ·subst e
      refine gJ (v6) (λNd=>?_) (λNd=>?_)
      ·rw[ai Nd] at h2
       refine aN ?_;refine aO ?_;refine lr (by simp;rfl) ?_;exact⟨_,vR _ (af h2),cq⟩
      ·rw[ah (by rw[Nd];decide)] at h2
       refine bZ ?_;exact⟨_,xt _ (af h2),cq⟩
     ·refine qH ?_
      refine kO [1,2,5,6,7,8,31] 3 ?_;refine bh 31 (decide (0 < s5)) (by simp) (λNc=>?_) (λNc=>?_)
      ·rw[ai Nc] at pB
       obtain⟨_,p55,pB⟩:=bI pB;replace p55:=bT p55;have aa5:=p55;try simp at aa5
       have aeK:IntKind.i64.wrap (s5 - 1) < (((s2.2)).length:Int):=by omega
       obtain⟨x7,p56,pB⟩:=bI pB;replace p56:=bD p56;have aa4:=p56;try simp at aa4
       refine ko [1,2,5,6,7,8,32,33,34,35,36,37,38,39] 8 (by simp[-getElem?_pos,aS,aV,p55,aeK,p56,aa5,aa4];rfl) ?_;refine ar ?_;cases pB;exact⟨_,rfl,cq⟩
      ·rw[ah (by rw[Nc];decide)] at pB
       refine cU 7 [] (by kernel_rfl) ?_;refine kO [1,2,5,6,7,8,39] 1 ?_;refine ar ?_;cases pB;exact⟨_,rfl,cq⟩
  ·rw[ah (by rw[An];decide)] at h1
   refine bZ ?_;exact⟨_,iq _ (af h1),cq⟩
theorem kI {a0:ao} {a1:Int} {r:ab} (h0:ij a0 a1=some r):dY Tryz.prog 35 [] [.agg (ay a0),.d (.int .i64 a1)] (.agg (bc r)) []:=by
 unfold ij at h0;refine dS (nt:=15) (rs:=[.cell 4 49]) Tryz.func35 rfl Tryz.ntmps35 rfl (by simp) (by decide) rfl λK=>?_
 refine kR [1,2,4] ?_;refine kc ?_;refine kO [4,9,10] 3 ?_;obtain⟨y1,oC,h0⟩:=bI h0;refine ku [4,11] (vc oC) Tryz.call71 ?_;refine kO [4,5] 6 ?_;refine ar ?_;refine kR [4] ?_;cases h0;exact fM
theorem xS {a0:ao} {a1:List Int} {a2:Int} {r:(List Int)} (h0:rL a0 a1 a2=some r):dY Tryz.prog 33 [] [.agg (ay a0),.d (.slice (ak (aH .i64) a1)),.d (.int .i64 a2)] (.d (.slice (ak (aH .i64) r))) []:=by
 unfold rL at h0;refine dS (nt:=32) (rs:=[.tmp 6]) Tryz.func33 rfl Tryz.ntmps33 rfl (by simp) (by decide) rfl λK=>?_
 refine kR [1,2,3] ?_;refine kR [1,2,3,7] ?_;refine aF ?_;refine kR [1,2,3,7,8] ?_;refine dp (pX 7 30 3 1 (by simp) (by simp)) ?_;obtain⟨e1,jR,h0⟩:=bI h0;refine oa (λv1:(List Int)=>(⟨32,[(7,.vec 30)],[],[(30,⟨3,1,ak (aH .i64) v1⟩)]⟩:St)) (λv1=>v1=e1) (λv1 eP _ W1=>?_) ?_
 ·subst eP
  refine dp W1 ?_;refine kR [6] ?_;cases h0;exact fo ⟨[30],by simp,rfl,by simp⟩
 ·refine aO (cA (λs2:Int×(List Int)=>(⟨32,[(1,.d (.slice (ak (aH .i64) a1))),(2,.d (.int .i64 a2)),(3,.ptr 3 0),(7,.vec 30),(8,.d (.int .i64 s2.1))],[(3,(ay a0))],[(30,⟨3,1,ak (aH .i64) s2.2⟩)]⟩:St)) jR cq λG1 s2 o1 h1 gY iq=>?_)
  unfold pG at h1;refine aF ?_;refine kR [1,2,3,7,8,12] ?_;refine cF (b:=(decide (s2.1 < ((a1).length:Int)))) (by simp) (λc7=>?_) (λc7=>?_)
  ·rw[ai c7] at h1
   refine aN ?_;refine aF ?_;refine aO ?_;refine kd [[],[],[],[1,2],[3],[0,4],[5],[],[6,7]] [] [] none [] 9 sZ (by decide +kernel) (by simp) ?_;obtain⟨x3,Dq,h1⟩:=bI h1;replace Dq:=bD Dq;have xY:=Dq;try simp at xY
   refine bj 0 2 rfl (by simp (maxSteps:=1000000) [Dq,xY];rfl) ?_;refine bj 2 2 rfl (by simp (maxSteps:=1000000) [Dq,xY];rfl) ?_;refine bj 4 1 rfl (by simp (maxSteps:=1000000) [Dq,xY];rfl) ?_;obtain⟨y4,zh,h1⟩:=bI h1;refine iu 5 [] (kI zh) rfl rfl rfl rfl rfl Tryz.call35 (by simp) ?_;refine bj 6 2 rfl (by simp (maxSteps:=1000000);rfl) ?_;refine bj 8 1 rfl (by simp (maxSteps:=1000000);rfl) ?_;refine fu rfl (ar ?_);refine gJ ((y4.Kind==a2)) (λc8=>?_) (λc8=>?_)
   ·rw[ai c8] at h1
    obtain⟨_,oh,h1⟩:=bI h1;replace oh:=bT oh;have jb:=oh;try simp at jb
    refine lr (by simp[Dq,oh,xY,jb];rfl) ?_;refine lr (by simp;rfl) ?_;exact⟨_,gY _ (af h1),cq⟩
   ·rw[ah (by rw[c8];decide)] at h1
    refine aN ?_;refine lr (by simp;rfl) ?_;exact⟨_,gY _ (af h1),cq⟩
  ·rw[ah (by rw[c7];decide)] at h1
   refine bZ ?_;exact⟨_,iq _ (af h1),cq⟩
theorem Dk {a0:List aB} {r:(List aB)} (h0:oe a0=some r):dY Tryz.prog 74 [] [.d (.slice (ak aw a0))] (.d (.slice (ak aw r))) []:=by
 unfold oe at h0;refine tY (nt:=49) (rs:=[.tmp 2]) Tryz.func74 rfl Tryz.ntmps74 rfl (by simp) (by decide) rfl λK hK=>?_
 refine kR [0] ?_;refine kR [0,3] ?_;refine aF ?_;refine kR [0,3,4] ?_;refine dp (pX 3 47 62 2 (by simp) (by simp)) ?_;obtain⟨e1,jR,h0⟩:=bI h0;refine oa (λv1:(List aB)=>(⟨49,[(3,.vec 47)],[],[(47,⟨62,2,ak aw v1⟩)]⟩:St)) (λv1=>v1=e1) (λv1 eP _ W1=>?_) ?_
 ·subst eP
  refine dp W1 ?_;refine kR [2] ?_;cases h0;exact fo ⟨[47],by simp,rfl,by simp⟩
 ·refine aO (cA (λs2:Int×(List aB)=>(⟨49,[(0,.d (.slice (ak aw a0))),(3,.vec 47),(4,.d (.int .i64 s2.1))],[],[(47,⟨62,2,ak aw s2.2⟩)]⟩:St)) jR cq λG1 s2 o1 h1 gY iq=>?_)
  unfold kF at h1;refine aF ?_;refine kR [0,3,4,10] ?_;refine cF (b:=(decide (s2.1 < ((a0).length:Int)))) (by simp) (λNc=>?_) (λNc=>?_)
  ·rw[ai Nc] at h1
   refine aN ?_;refine aF ?_;refine aO ?_;refine kR [0,3,4,5] ?_;obtain⟨e2,Gt,h1⟩:=bI h1;refine qF (λv3:Int=>(⟨49,[(0,.d (.slice (ak aw a0))),(3,.vec 47),(4,.d (.int .i64 s2.1)),(5,.d (.int .i64 v3))],[],[(47,⟨62,2,ak aw s2.2⟩)]⟩:St)) (λv3=>v3=e2) (λv3 vo=>?_) ?_
   ·subst vo
    obtain⟨x4,Ym,h1⟩:=bI h1;replace Ym:=bD Ym;have RH:=Ym;try simp at RH
    obtain⟨_,Vf,h1⟩:=bI h1;replace Vf:=bT Vf;have RG:=Vf;try simp at RG
    obtain⟨_,Yl,h1⟩:=bI h1;replace Yl:=bT Yl;have RF:=Yl;try simp at RF
    obtain⟨_,WN,h1⟩:=bI h1;replace WN:=bT WN;have RE:=WN;try simp at RE
    refine N2 (S0:=(⟨49,[(0,.d (.slice (ak aw a0))),(3,.vec 47),(4,.d (.int .i64 s2.1)),(5,.d (.int .i64 v3)),(6,.vec 41)],[],[(41,⟨62,2,ak aw ([x4]++((((s2.2).drop (Int.toNat v3))).take ((s2.2).length - (Int.toNat v3))))⟩),(47,⟨62,2,ak aw s2.2⟩)]⟩:St)) [0,1,2,3,5,6,7] 3 (by simpa using hK) sZ (by decide +kernel) rfl rfl rfl (by simp[gX,iZ,gB,gZ,Ym,Vf,Yl,WN,RH,RG,RF,RE];rfl) (λK' S F C=>?_) ?_
    ·
     refine ky C [4] (by decide +kernel) (by decide) ?_;refine fa rfl (by simp[Ym,Vf,Yl,WN,RH,RG,RF,RE];rfl) ?_ ?_
     ·
      refine ky C [8] (by decide +kernel) (by decide) ?_;refine fa rfl (by simp[Ym,Vf,Yl,WN,RH,RG,RF,RE];rfl) ?_ ?_
      ·
       refine uM C 9 rfl (by decide +kernel) (by decide +kernel) (by simp[gB,gZ]) (by simp[Ym,Vf,Yl,WN,RH,RG,RF,RE];rfl) ?_;exact kx C (by decide +kernel) ⟨rfl,bw.2 (by simp)⟩
      exact trivial
     exact trivial
    ·
     refine qH ?_;refine kO [0,4,6,42,43,44] 3 ?_;refine tD 47 ?_;obtain⟨_,p98,h1⟩:=bI h1;replace p98:=bT p98;have aa2:=p98;try simp at aa2
     obtain⟨_,p99,h1⟩:=bI h1;replace p99:=bT p99;have aa0:=p99;try simp at aa0
     have qz:v3.toNat+(s2.2.length - v3.toNat+1)≤268435456:=by
      have h1:=Vf.1;have h2:=Vf.2.1;have h3:=WN;have h4:=p99;simp at h3 h4;omega
     refine ko [0,3,4] 4 (by simp[p98,p99,aa2,aa0,qz];rfl) ?_;refine ar ?_;refine lr (by simp;rfl) ?_;exact⟨_,gY _ (af h1),cq⟩
   ·refine aO (cA (λs5:Int=>(⟨49,[(0,.d (.slice (ak aw a0))),(3,.vec 47),(4,.d (.int .i64 s2.1)),(5,.d (.int .i64 s5))],[],[(47,⟨62,2,ak aw s2.2⟩)]⟩:St)) Gt cq λG2 s5 o2 h2 vR xt=>?_)
    unfold jl at h2;refine aF ?_;obtain⟨v6,pB,h2⟩:=bI h2;refine qF (λHR:Bool=>(⟨49,[(0,.d (.slice (ak aw a0))),(3,.vec 47),(4,.d (.int .i64 s2.1)),(5,.d (.int .i64 s5)),(30,.d (.bool HR))],[],[(47,⟨62,2,ak aw s2.2⟩)]⟩:St)) (λHR=>v6=HR) (λHR e=>?_) ?_
    ·subst e
     refine gJ (v6) (λc43=>?_) (λc43=>?_)
     ·rw[ai c43] at h2
      refine aN ?_;refine aO ?_;refine lr (by simp;rfl) ?_;exact⟨_,vR _ (af h2),cq⟩
     ·rw[ah (by rw[c43];decide)] at h2
      refine bZ ?_;exact⟨_,xt _ (af h2),cq⟩
    ·refine Sx [[],[0],[1],[2],[2],[2,4],[2,3,5],[2,6],[2,7],[2],[2],[2,9,10],[2,11],[2,12],[2,8,13],[2,14]] [] [] none [] 16 sZ (by decide +kernel) (by simp) ?_
     refine bj 0 2 rfl (by simp (maxSteps:=1000000);rfl) ?_;refine bj 2 1 rfl (by simp (maxSteps:=1000000);rfl) ?_;refine mL 2 17 (decide (0 < s5)) (by simp) (λZM=>?_) (λZM=>?_)
     ·rw[ai ZM] at pB
      obtain⟨_,Gg,pB⟩:=bI pB;replace Gg:=bT Gg;have CS:=Gg;try simp at CS
      have ED:IntKind.i64.wrap (s5 - 1) < (((s2.2)).length:Int):=by omega
      obtain⟨x7,Gf,pB⟩:=bI pB;replace Gf:=bD Gf;have CR:=Gf;try simp at CR
      obtain⟨x8,Ge,pB⟩:=bI pB;replace Ge:=bD Ge;have CQ:=Ge;try simp at CQ
      refine bj 3 2 rfl (by simp (maxSteps:=1000000) [-getElem?_pos,aS,aV,Gg,ED,Gf,Ge,CS,CR,CQ];rfl) ?_;refine bj 5 2 rfl (by simp (maxSteps:=1000000) [-getElem?_pos,aS,aV,Gg,ED,Gf,Ge,CS,CR,CQ];rfl) ?_;refine bj 7 2 rfl (by simp (maxSteps:=1000000) [-getElem?_pos,aS,aV,Gg,ED,Gf,Ge,CS,CR,CQ];rfl) ?_;refine bj 9 2 rfl (by simp (maxSteps:=1000000) [-getElem?_pos,aS,aV,Gg,ED,Gf,Ge,CS,CR,CQ];rfl) ?_;refine bj 11 2 rfl (by simp (maxSteps:=1000000) [-getElem?_pos,aS,aV,Gg,ED,Gf,Ge,CS,CR,CQ];rfl) ?_;refine bj 13 2 rfl (by simp (maxSteps:=1000000) [-getElem?_pos,aS,aV,Gg,ED,Gf,Ge,CS,CR,CQ];rfl) ?_;refine bj 15 1 rfl (by simp (maxSteps:=1000000) [-getElem?_pos,aS,aV,Gg,ED,Gf,Ge,CS,CR,CQ];rfl) ?_;refine fu rfl (ar ?_);cases pB;exact⟨_,rfl,cq⟩
     ·rw[ah (by rw[ZM];decide)] at pB
      refine mw 3 49 [some 18,some 19,some 20,some 21,some 22,some 23,some 24,some 25,some 26,some 27,some 28,some 29] rfl rfl (by decide) (by kernel_rfl) (by simp only[uZ,aW,cO,cv,di];rfl) ?_;refine bj 15 1 rfl (by simp (maxSteps:=1000000);rfl) ?_;refine fu rfl (ar ?_);cases pB;exact⟨_,rfl,cq⟩
  ·rw[ah (by rw[Nc];decide)] at h1
   refine bZ ?_;exact⟨_,iq _ (af h1),cq⟩
theorem Dl {a0:List dG} {a1:List dG} {r:Bool} (h0:pZ a0 a1=some r):dY Tryz.prog 37 [] [.d (.slice (ak cP a0)),.d (.slice (ak cP a1))] (.d (.bool r)) []:=by
 unfold pZ at h0;refine dS (nt:=26) (rs:=[.tmp 4]) Tryz.func37 rfl Tryz.ntmps37 rfl (by simp) (by decide) rfl λK=>?_
 refine kR [0,1] ?_;refine aF ?_;refine kR [0,1,10] ?_;refine gJ ((((a0).length:Int) != ((a1).length:Int))) (λc1=>?_) (λc1=>?_)
 ·rw[ai c1] at h0
  refine kR [4] ?_;cases h0;exact fM
 ·rw[ah (by rw[c1];decide)] at h0
  refine aN ?_;refine aF ?_;refine kR [0,1,5] ?_;obtain⟨e1,jR,h0⟩:=bI h0;refine oa (λv1:Unit=>(⟨26,[],[],[]⟩:St)) (λv1=>.inl v1=e1) (λv1 eP _ W1=>?_) ?_
  ·subst eP
   dsimp only at h0;refine dp W1 ?_;refine kR [4] ?_;cases h0;exact fM
  ·refine aO (cA (λs2:Int=>(⟨26,[(0,.d (.slice (ak cP a0))),(1,.d (.slice (ak cP a1))),(5,.d (.int .i64 s2))],[],[]⟩:St)) jR cq λG1 s2 o1 h1 gY iq=>?_)
   unfold oX at h1;refine aF ?_;refine kR [0,1,5,14] ?_;refine cF (b:=(decide (s2 < ((a0).length:Int)))) (by simp) (λc6=>?_) (λc6=>?_)
   ·rw[ai c6] at h1
    refine aN ?_;refine aF ?_;refine aO ?_;refine kd [[],[],[0,1],[2],[],[],[4,5],[6],[3,7]] [] [] none [] 9 sZ (by decide +kernel) (by simp) ?_;obtain⟨x3,qY,h1⟩:=bI h1;replace qY:=bD qY;have oD:=qY;try simp at oD
    obtain⟨x4,oh,h1⟩:=bI h1;replace oh:=bD oh;have jb:=oh;try simp at jb
    refine bj 0 2 rfl (by simp (maxSteps:=1000000) [qY,oh,oD,jb];rfl) ?_;refine bj 2 2 rfl (by simp (maxSteps:=1000000) [qY,oh,oD,jb];rfl) ?_;refine bj 4 2 rfl (by simp (maxSteps:=1000000) [qY,oh,oD,jb];rfl) ?_;refine bj 6 2 rfl (by simp (maxSteps:=1000000) [qY,oh,oD,jb];rfl) ?_;refine bj 8 1 rfl (by simp (maxSteps:=1000000) [qY,oh,oD,jb];rfl) ?_;refine fu rfl (ar ?_);refine cF (b:=(!((x3.Source==x4.Source)&&(((x3.Path).toList==(x4.Path).toList)&&(x3.Time==x4.Time))))) (by simp) (λc7=>?_) (λc7=>?_)
    ·rw[ai c7] at h1
     refine kR [4] ?_;have k1:=iq _ (af h1);subst k1;dsimp only at h0;cases h0;exact fM
    ·rw[ah (by rw[c7];decide)] at h1
     refine aN ?_;refine lr (by simp;rfl) ?_;exact⟨_,gY _ (af h1),cq⟩
   ·rw[ah (by rw[c6];decide)] at h1
    refine bZ ?_;exact⟨_,iq _ (af h1),cq⟩
theorem F9 {a0:List bU} {a1:List bU} {r:Bool} (h0:qV a0 a1=some r):dY Tryz.prog 11 [] [.d (.slice (ak eL a0)),.d (.slice (ak eL a1))] (.d (.bool r)) []:=by
 unfold qV at h0;refine dS (nt:=44) (rs:=[.tmp 4]) Tryz.func11 rfl Tryz.ntmps11 rfl (by simp) (by decide) rfl λK=>?_
 refine kR [0,1] ?_;refine aF ?_;refine kR [0,1,10] ?_;refine gJ ((((a0).length:Int) != ((a1).length:Int))) (λc1=>?_) (λc1=>?_)
 ·rw[ai c1] at h0
  refine kR [4] ?_;cases h0;exact fM
 ·rw[ah (by rw[c1];decide)] at h0
  refine aN ?_;refine aF ?_;refine kR [0,1,5] ?_;obtain⟨e1,jR,h0⟩:=bI h0;refine oa (λv1:Unit=>(⟨44,[],[],[]⟩:St)) (λv1=>.inl v1=e1) (λv1 eP _ W1=>?_) ?_
  ·subst eP
   dsimp only at h0;refine dp W1 ?_;refine kR [4] ?_;cases h0;exact fM
  ·refine aO (cA (λs2:Int=>(⟨44,[(0,.d (.slice (ak eL a0))),(1,.d (.slice (ak eL a1))),(5,.d (.int .i64 s2))],[],[]⟩:St)) jR cq λG1 s2 o1 h1 gY iq=>?_)
   unfold ru at h1;refine aF ?_;refine kR [0,1,5,14] ?_;refine cF (b:=(decide (s2 < ((a0).length:Int)))) (by simp) (λCx=>?_) (λCx=>?_)
   ·rw[ai Cx] at h1
    refine aN ?_;refine aF ?_;refine aO ?_;obtain⟨v3,oR,h1⟩:=bI h1;refine qF (λHS:Bool=>(⟨44,[(0,.d (.slice (ak eL a0))),(1,.d (.slice (ak eL a1))),(5,.d (.int .i64 s2)),(43,.d (.bool HS))],[],[]⟩:St)) (λHS=>v3=HS) (λHS e=>?_) ?_
    ·subst e
     refine gJ (v3) (λAn=>?_) (λAn=>?_)
     ·rw[ai An] at h1
      refine kR [4] ?_;have k1:=iq _ (af h1);subst k1;dsimp only at h0;cases h0;exact fM
     ·rw[ah (by rw[An];decide)] at h1
      refine aN ?_;refine lr (by simp;rfl) ?_;exact⟨_,gY _ (af h1),cq⟩
    ·refine Sx [[],[],[0,1],[2],[3],[4],[],[],[6,7],[8],[9],[10],[5,11],[12],[13],[13],[13,14,15],[13,16],[13,17],[13],[13],[13,19,20],[13,21],[13,22],[13,18,23],[13,24],[13,25]] [] [] none [] 27 sZ (by decide +kernel) (by simp) ?_
     obtain⟨x4,xX,oR⟩:=bI oR;replace xX:=bD xX;have ql:=xX;try simp at ql
     obtain⟨x5,BY,oR⟩:=bI oR;replace BY:=bD BY;have tL:=BY;try simp at tL
     refine bj 0 2 rfl (by simp (maxSteps:=1000000) [xX,BY,ql,tL];rfl) ?_;refine bj 2 2 rfl (by simp (maxSteps:=1000000) [xX,BY,ql,tL];rfl) ?_;refine bj 4 2 rfl (by simp (maxSteps:=1000000) [xX,BY,ql,tL];rfl) ?_;refine bj 6 2 rfl (by simp (maxSteps:=1000000) [xX,BY,ql,tL];rfl) ?_;refine bj 8 2 rfl (by simp (maxSteps:=1000000) [xX,BY,ql,tL];rfl) ?_;refine bj 10 2 rfl (by simp (maxSteps:=1000000) [xX,BY,ql,tL];rfl) ?_;refine bj 12 2 rfl (by simp (maxSteps:=1000000) [xX,BY,ql,tL];rfl) ?_;refine mL 13 30 (!(((Gz x4.Data)).toList==((Gz x5.Data)).toList)) (by simp) (λGx=>?_) (λGx=>?_)
     ·rw[ai Gx] at oR
      refine mw 14 44 [some 31,some 32,some 33,some 34,some 35,some 36,some 37,some 38,some 39,some 40,some 41,some 42] rfl rfl (by decide) (by kernel_rfl) (by simp only[uZ,aW,cO,cv,di];rfl) ?_;refine bj 26 1 rfl (by simp (maxSteps:=1000000);rfl) ?_;refine fu rfl (ar ?_);cases oR;exact⟨_,rfl,cq⟩
     ·rw[ah (by rw[Gx];decide)] at oR
      refine bj 14 2 rfl (by simp (maxSteps:=1000000) [xX,BY,ql,tL];rfl) ?_;refine bj 16 2 rfl (by simp (maxSteps:=1000000) [xX,BY,ql,tL];rfl) ?_;refine bj 18 2 rfl (by simp (maxSteps:=1000000) [xX,BY,ql,tL];rfl) ?_;refine bj 20 2 rfl (by simp (maxSteps:=1000000) [xX,BY,ql,tL];rfl) ?_;refine bj 22 2 rfl (by simp (maxSteps:=1000000) [xX,BY,ql,tL];rfl) ?_;obtain⟨y6,Gm,oR⟩:=bI oR;refine iu 24 [] (Dl Gm) rfl rfl rfl rfl rfl Tryz.call37 (by simp) ?_;refine bj 25 2 rfl (by simp (maxSteps:=1000000);rfl) ?_;refine fu rfl (ar ?_);cases oR;exact⟨_,rfl,cq⟩
   ·rw[ah (by rw[Cx];decide)] at h1
    refine bZ ?_;exact⟨_,iq _ (af h1),cq⟩
theorem Ga {a0:List Int} {a1:List Int} {r:Bool} (h0:qW a0 a1=some r):dY Tryz.prog 12 [] [.d (.slice (ak (aH .i64) a0)),.d (.slice (ak (aH .i64) a1))] (.d (.bool r)) []:=by
 unfold qW at h0;refine dS (nt:=26) (rs:=[.tmp 4]) Tryz.func12 rfl Tryz.ntmps12 rfl (by simp) (by decide) rfl λK=>?_
 refine kR [0,1] ?_;refine aF ?_;refine kR [0,1,10] ?_;refine gJ ((((a0).length:Int) != ((a1).length:Int))) (λc1=>?_) (λc1=>?_)
 ·rw[ai c1] at h0
  refine kR [4] ?_;cases h0;exact fM
 ·rw[ah (by rw[c1];decide)] at h0
  refine aN ?_;refine aF ?_;refine kR [0,1,5] ?_;obtain⟨e1,jR,h0⟩:=bI h0;refine oa (λv1:Unit=>(⟨26,[],[],[]⟩:St)) (λv1=>.inl v1=e1) (λv1 eP _ W1=>?_) ?_
  ·subst eP
   dsimp only at h0;refine dp W1 ?_;refine kR [4] ?_;cases h0;exact fM
  ·refine aO (cA (λs2:Int=>(⟨26,[(0,.d (.slice (ak (aH .i64) a0))),(1,.d (.slice (ak (aH .i64) a1))),(5,.d (.int .i64 s2))],[],[]⟩:St)) jR cq λG1 s2 o1 h1 gY iq=>?_)
   unfold ry at h1;refine aF ?_;refine kR [0,1,5,14] ?_;refine cF (b:=(decide (s2 < ((a0).length:Int)))) (by simp) (λc6=>?_) (λc6=>?_)
   ·rw[ai c6] at h1
    refine aN ?_;refine aF ?_;refine aO ?_;refine kd [[],[],[0,1],[2],[],[],[4,5],[6],[3,7]] [] [] none [] 9 sZ (by decide +kernel) (by simp) ?_;obtain⟨x3,qY,h1⟩:=bI h1;replace qY:=bD qY;have oD:=qY;try simp at oD
    obtain⟨x4,oh,h1⟩:=bI h1;replace oh:=bD oh;have jb:=oh;try simp at jb
    refine bj 0 2 rfl (by simp (maxSteps:=1000000) [qY,oh,oD,jb];rfl) ?_;refine bj 2 2 rfl (by simp (maxSteps:=1000000) [qY,oh,oD,jb];rfl) ?_;refine bj 4 2 rfl (by simp (maxSteps:=1000000) [qY,oh,oD,jb];rfl) ?_;refine bj 6 2 rfl (by simp (maxSteps:=1000000) [qY,oh,oD,jb];rfl) ?_;refine bj 8 1 rfl (by simp (maxSteps:=1000000) [qY,oh,oD,jb];rfl) ?_;refine fu rfl (ar ?_);refine gJ ((x3 != x4)) (λc7=>?_) (λc7=>?_)
    ·rw[ai c7] at h1
     refine kR [4] ?_;have k1:=iq _ (af h1);subst k1;dsimp only at h0;cases h0;exact fM
    ·rw[ah (by rw[c7];decide)] at h1
     refine aN ?_;refine lr (by simp;rfl) ?_;exact⟨_,gY _ (af h1),cq⟩
   ·rw[ah (by rw[c6];decide)] at h1
    refine bZ ?_;exact⟨_,iq _ (af h1),cq⟩
theorem Em {a0:List aB} {a1:List aB} {r:Bool} (h0:pH a0 a1=some r):dY Tryz.prog 17 [] [.d (.slice (ak aw a0)),.d (.slice (ak aw a1))] (.d (.bool r)) []:=by
 unfold pH at h0;refine dS (nt:=26) (rs:=[.tmp 4]) Tryz.func17 rfl Tryz.ntmps17 rfl (by simp) (by decide) rfl λK=>?_
 refine kR [0,1] ?_;refine aF ?_;refine kR [0,1,10] ?_;refine gJ ((((a0).length:Int) != ((a1).length:Int))) (λc1=>?_) (λc1=>?_)
 ·rw[ai c1] at h0
  refine kR [4] ?_;cases h0;exact fM
 ·rw[ah (by rw[c1];decide)] at h0
  refine aN ?_;refine aF ?_;refine kR [0,1,5] ?_;obtain⟨e1,jR,h0⟩:=bI h0;refine oa (λv1:Unit=>(⟨26,[],[],[]⟩:St)) (λv1=>.inl v1=e1) (λv1 eP _ W1=>?_) ?_
  ·subst eP
   dsimp only at h0;refine dp W1 ?_;refine kR [4] ?_;cases h0;exact fM
  ·refine aO (cA (λs2:Int=>(⟨26,[(0,.d (.slice (ak aw a0))),(1,.d (.slice (ak aw a1))),(5,.d (.int .i64 s2))],[],[]⟩:St)) jR cq λG1 s2 o1 h1 gY iq=>?_)
   unfold qi at h1;refine aF ?_;refine kR [0,1,5,14] ?_;refine cF (b:=(decide (s2 < ((a0).length:Int)))) (by simp) (λc6=>?_) (λc6=>?_)
   ·rw[ai c6] at h1
    refine aN ?_;refine aF ?_;refine aO ?_;refine kd [[],[],[0,1],[2],[],[],[4,5],[6],[3,7]] [] [] none [] 9 sZ (by decide +kernel) (by simp) ?_;obtain⟨x3,qY,h1⟩:=bI h1;replace qY:=bD qY;have oD:=qY;try simp at oD
    obtain⟨x4,oh,h1⟩:=bI h1;replace oh:=bD oh;have jb:=oh;try simp at jb
    refine bj 0 2 rfl (by simp (maxSteps:=1000000) [qY,oh,oD,jb];rfl) ?_;refine bj 2 2 rfl (by simp (maxSteps:=1000000) [qY,oh,oD,jb];rfl) ?_;refine bj 4 2 rfl (by simp (maxSteps:=1000000) [qY,oh,oD,jb];rfl) ?_;refine bj 6 2 rfl (by simp (maxSteps:=1000000) [qY,oh,oD,jb];rfl) ?_;refine bj 8 1 rfl (by simp (maxSteps:=1000000) [qY,oh,oD,jb];rfl) ?_;refine fu rfl (ar ?_);refine cF (b:=(!(((x3.Name).toList==(x4.Name).toList)&&(x3.ID==x4.ID)))) (by simp) (λc7=>?_) (λc7=>?_)
    ·rw[ai c7] at h1
     refine kR [4] ?_;have k1:=iq _ (af h1);subst k1;dsimp only at h0;cases h0;exact fM
    ·rw[ah (by rw[c7];decide)] at h1
     refine aN ?_;refine lr (by simp;rfl) ?_;exact⟨_,gY _ (af h1),cq⟩
   ·rw[ah (by rw[c6];decide)] at h1
    refine bZ ?_;exact⟨_,iq _ (af h1),cq⟩
end Go.Vl
