/- Walks: each function of the given program computes what its mirror says. Conditions: none. -/
import Derived.Test.YtjnflahicimmlaaGreatDoorJnm
set_option maxHeartbeats 1000000
set_option linter.unusedSimpArgs false
set_option linter.unusedVariables false
namespace Go.Vl
open Go Go.Proofs
theorem Ej {a0:ao} {r:Int} (h0:rM a0=some r):dY Tryz.prog 68 [] [.agg (ay a0)] (.d (.int .i64 r)) []:=by
 unfold rM at h0;refine dS (nt:=109) (rs:=[.tmp 2]) Tryz.func68 rfl Tryz.ntmps68 rfl (by simp) (by decide) rfl λK=>?_
 refine kR [1] ?_;refine aF ?_;refine kR [1,3] ?_;obtain⟨e1,jR,h0⟩:=bI h0;refine oa (λv1:Unit=>(⟨109,[(1,.ptr 1 0)],[(1,(ay a0))],[]⟩:St)) (λv1=>.inl v1=e1) (λv1 eP _ W1=>?_) ?_
 ·subst eP
  dsimp only at h0;refine dp W1 ?_;refine aF ?_;refine kR [1,4] ?_;obtain⟨e2,Gt,h0⟩:=bI h0;refine oa (λv2:Unit=>(⟨109,[(1,.ptr 1 0)],[(1,(ay a0))],[]⟩:St)) (λv2=>.inl v2=e2) (λv2 vo _ W2=>?_) ?_
  ·subst vo
   dsimp only at h0;refine dp W2 ?_;refine kc ?_;refine kO [1,52] 2 ?_;obtain⟨y3,Ce,h0⟩:=bI h0;refine ku [1,53] (BT Ce) Tryz.call107 ?_;refine kO [1,54] 1 ?_;obtain⟨y4,zh,h0⟩:=bI h0;refine ku [1,55] (Ek zh) Tryz.call106 ?_;refine kO [1,6,7] 7 ?_;refine ar ?_;refine aF ?_;refine kR [1,7,60] ?_;refine gJ ((!y4.2.1)) (λCw=>?_) (λCw=>?_)
   ·rw[ai Cw] at h0
    refine kR [2] ?_;cases h0;exact fM
   ·rw[ah (by rw[Cw];decide)] at h0
    refine aN ?_;refine aF ?_;refine kc ?_;refine kO [1,7,61] 1 ?_;obtain⟨y5,IB,h0⟩:=bI h0;refine ku [1,7,62] (Dn IB) Tryz.call108 ?_;refine ar ?_;refine gJ (y5) (λAo=>?_) (λAo=>?_)
    ·rw[ai Ao] at h0
     refine kR [2] ?_;cases h0;exact fM
    ·rw[ah (by rw[Ao];decide)] at h0
     refine aN ?_;refine aF ?_;refine kR [1,7,8] ?_;obtain⟨e3,Zr,h0⟩:=bI h0;refine oa (λv6:Unit=>(⟨109,[(1,.ptr 1 0),(7,.d (.bool y4.2.2))],[(1,(ay a0))],[]⟩:St)) (λv6=>.inl v6=e3) (λv6 MU _ W3=>?_) ?_
     ·subst MU
      dsimp only at h0;refine dp W3 ?_;refine aF ?_;refine kR [1,7,9] ?_;obtain⟨e4,hI4,h0⟩:=bI h0;refine oa (λv7:Unit=>(⟨109,[(7,.d (.bool y4.2.2))],[],[]⟩:St)) (λv7=>.inl v7=e4) (λv7 Zq _ W4=>?_) ?_
      ·subst Zq
       dsimp only at h0;refine dp W4 ?_;refine aF ?_;refine kR [108] ?_;refine gJ ((!y4.2.2)) (λNd=>?_) (λNd=>?_)
       ·rw[ai Nd] at h0
        refine kR [2] ?_;cases h0;exact fM
       ·rw[ah (by rw[Nd];decide)] at h0
        refine aN ?_;refine kR [2] ?_;cases h0;exact fM
      ·refine aO (cA (λs8:Int=>(⟨109,[(1,.ptr 1 0),(7,.d (.bool y4.2.2)),(9,.d (.int .i64 s8))],[(1,(ay a0))],[]⟩:St)) hI4 cq λG4 s8 o4 h4 Og MR=>?_)
       unfold ig at h4;refine aF ?_;refine kR [1,7,9,90] ?_;refine cF (b:=(decide (s8 < ((a0.aC).length:Int)))) (by simp) (λNc=>?_) (λNc=>?_)
       ·rw[ai Nc] at h4
        refine aN ?_;refine aF ?_;refine aO ?_;refine kd [[],[0],[],[1,2],[3],[4],[],[6],[],[8],[7,9],[10],[11],[5,12]] [] [] none [] 14 sZ (by decide +kernel) (by simp) ?_;obtain⟨x9,Mx,h4⟩:=bI h4;replace Mx:=bD Mx;have EB:=Mx;try simp at EB
        obtain⟨wo,Mw,h4⟩:=bI h4;replace Mw:=bD Mw;have EA:=Mw;try simp at EA
        refine bj 0 2 rfl (by simp (maxSteps:=1000000) [Mx,Mw,EB,EA];rfl) ?_;refine bj 2 2 rfl (by simp (maxSteps:=1000000) [Mx,Mw,EB,EA];rfl) ?_;refine bj 4 2 rfl (by simp (maxSteps:=1000000) [Mx,Mw,EB,EA];rfl) ?_;refine bj 6 2 rfl (by simp (maxSteps:=1000000) [Mx,Mw,EB,EA];rfl) ?_;refine bj 8 2 rfl (by simp (maxSteps:=1000000) [Mx,Mw,EB,EA];rfl) ?_;refine bj 10 2 rfl (by simp (maxSteps:=1000000) [Mx,Mw,EB,EA];rfl) ?_;refine bj 12 2 rfl (by simp (maxSteps:=1000000) [Mx,Mw,EB,EA];rfl) ?_;refine fu rfl (ar ?_);refine gJ ((decide (x9.Time < wo.Time))) (λTL=>?_) (λTL=>?_)
        ·rw[ai TL] at h4
         refine kR [2] ?_;have k1:=MR _ (af h4);subst k1;dsimp only at h0;cases h0;exact fM
        ·rw[ah (by rw[TL];decide)] at h4
         refine aN ?_;refine lr (by simp;rfl) ?_;exact⟨_,Og _ (af h4),cq⟩
       ·rw[ah (by rw[Nc];decide)] at h4
        refine bZ ?_;exact⟨_,MR _ (af h4),cq⟩
     ·refine aO (cA (λWK:Int=>(⟨109,[(1,.ptr 1 0),(7,.d (.bool y4.2.2)),(8,.d (.int .i64 WK))],[(1,(ay a0))],[]⟩:St)) Zr cq λG4 WK o4 h4 Og MR=>?_)
      unfold qa at h4;refine aF ?_;refine kR [1,7,8,67] ?_;refine cF (b:=(decide (WK < ((a0.aC).length:Int)))) (by simp) (λZP=>?_) (λZP=>?_)
      ·rw[ai ZP] at h4
       refine aN ?_;refine aF ?_;refine aO ?_;obtain⟨v14,Hr,h4⟩:=bI h4;refine qF (λUR:Bool=>(⟨109,[(1,.ptr 1 0),(7,.d (.bool y4.2.2)),(8,.d (.int .i64 WK)),(85,.d (.bool UR))],[(1,(ay a0))],[]⟩:St)) (λUR=>v14=UR) (λUR e=>?_) ?_
       ·subst e
        refine gJ (v14) (λNb=>?_) (λNb=>?_)
        ·rw[ai Nb] at h4
         refine kR [2] ?_;have k1:=MR _ (af h4);subst k1;dsimp only at h0;cases h0;exact fM
        ·rw[ah (by rw[Nb];decide)] at h4
         refine aN ?_;refine lr (by simp;rfl) ?_;exact⟨_,Og _ (af h4),cq⟩
       ·refine qH ?_
        obtain⟨WD,p35,Hr⟩:=bI Hr;replace p35:=bD p35;have Yo:=p35;try simp at Yo
        refine ko [1,7,8,77] 8 (by simp[p35,Yo];rfl) ?_;refine bh 77 (decide (WD.Time < 0)) (by simp) (λI7=>?_) (λI7=>?_)
        ·rw[ai I7] at Hr
         refine cU 7 [] (by kernel_rfl) ?_;refine kO [1,7,8,85] 1 ?_;refine ar ?_;cases Hr;exact⟨_,rfl,cq⟩
        ·rw[ah (by rw[I7];decide)] at Hr
         refine ko [1,7,8,78,79,80,81,82,83,84,85] 8 (by simp[p35,Yo];rfl) ?_;refine ar ?_;cases Hr;exact⟨_,rfl,cq⟩
      ·rw[ah (by rw[ZP];decide)] at h4
       refine bZ ?_;exact⟨_,MR _ (af h4),cq⟩
  ·refine aO (cA (λs18:Int=>(⟨109,[(1,.ptr 1 0),(4,.d (.int .i64 s18))],[(1,(ay a0))],[]⟩:St)) Gt cq λG4 s18 o4 h4 Og MR=>?_)
   unfold qb at h4;refine aF ?_;refine kR [1,4,29] ?_;refine cF (b:=(decide (s18 < ((a0.aC).length:Int)))) (by simp) (λNa=>?_) (λNa=>?_)
   ·rw[ai Na] at h4
    refine aN ?_;refine aF ?_;refine aO ?_;obtain⟨v19,CW,h4⟩:=bI h4;refine qF (λUO:Bool=>(⟨109,[(1,.ptr 1 0),(4,.d (.int .i64 s18)),(49,.d (.bool UO))],[(1,(ay a0))],[]⟩:St)) (λUO=>v19=UO) (λUO e=>?_) ?_
    ·subst e
     refine gJ (v19) (λZN=>?_) (λZN=>?_)
     ·rw[ai ZN] at h4
      refine kR [2] ?_;have k1:=MR _ (af h4);subst k1;dsimp only at h0;cases h0;exact fM
     ·rw[ah (by rw[ZN];decide)] at h4
      refine aN ?_;refine lr (by simp;rfl) ?_;exact⟨_,Og _ (af h4),cq⟩
    ·refine Sx [[],[0],[],[1,2],[3],[4],[5],[6],[7],[7],[7,9],[7],[7,10,11],[7,12],[7,13],[7,8,14],[7,15],[7,16]] [] [] none [] 18 sZ (by decide +kernel) (by simp) ?_
     obtain⟨x20,RJ,CW⟩:=bI CW;replace RJ:=bD RJ;have Il:=RJ;try simp at Il
     refine bj 0 2 rfl (by simp (maxSteps:=1000000) [RJ,Il];rfl) ?_;refine bj 2 2 rfl (by simp (maxSteps:=1000000) [RJ,Il];rfl) ?_;refine bj 4 2 rfl (by simp (maxSteps:=1000000) [RJ,Il];rfl) ?_;refine bj 6 2 rfl (by simp (maxSteps:=1000000) [RJ,Il];rfl) ?_;refine mL 7 39 (x20.Kind==1) (by simp) (λc45=>?_) (λc45=>?_)
     ·rw[ai c45] at CW
      refine bj 8 2 rfl (by simp (maxSteps:=1000000) [RJ,Il];rfl) ?_;refine bj 10 2 rfl (by simp (maxSteps:=1000000) [RJ,Il];rfl) ?_;refine bj 12 2 rfl (by simp (maxSteps:=1000000) [RJ,Il];rfl) ?_;refine bj 14 1 rfl (by simp (maxSteps:=1000000) [RJ,Il];rfl) ?_;obtain⟨UG,YQ,CW⟩:=bI CW;refine iu 15 [] (rv YQ) rfl rfl rfl rfl rfl Tryz.call105 (by simp) ?_;refine bj 16 2 rfl (by simp (maxSteps:=1000000);rfl) ?_;refine fu rfl (ar ?_);cases CW;exact⟨_,rfl,cq⟩
     ·rw[ah (by rw[c45];decide)] at CW
      refine mw 8 109 [some 40,some 41,some 42,some 43,some 44,some 45,some 46,some 47,some 48] rfl rfl (by decide) (by kernel_rfl) (by simp only[uZ,aW,cO,cv,di];rfl) ?_;refine bj 17 1 rfl (by simp (maxSteps:=1000000);rfl) ?_;refine fu rfl (ar ?_);cases CW;exact⟨_,rfl,cq⟩
   ·rw[ah (by rw[Na];decide)] at h4
    refine bZ ?_;exact⟨_,MR _ (af h4),cq⟩
 ·refine aO (cA (λYg:Int=>(⟨109,[(1,.ptr 1 0),(3,.d (.int .i64 Yg))],[(1,(ay a0))],[]⟩:St)) jR cq λG4 Yg o4 h4 Og MR=>?_)
  unfold qc at h4;refine aF ?_;refine kR [1,3,14] ?_;refine cF (b:=(decide (Yg < ((a0.aq).length:Int)))) (by simp) (λZM=>?_) (λZM=>?_)
  ·rw[ai ZM] at h4
   refine aN ?_;refine aF ?_;refine aO ?_;refine kd [[],[],[1],[],[2,3],[4],[0,5],[6]] [] [] none [] 8 sZ (by decide +kernel) (by simp) ?_;obtain⟨x25,RI,h4⟩:=bI h4;replace RI:=bD RI;have Mo:=RI;try simp at Mo
   refine bj 0 2 rfl (by simp (maxSteps:=1000000) [RI,Mo];rfl) ?_;refine bj 2 2 rfl (by simp (maxSteps:=1000000) [RI,Mo];rfl) ?_;refine bj 4 2 rfl (by simp (maxSteps:=1000000) [RI,Mo];rfl) ?_;obtain⟨y26,afi,h4⟩:=bI h4;refine iu 6 [] (El afi) rfl rfl rfl rfl rfl Tryz.call104 (by simp) ?_;refine bj 7 1 rfl (by simp (maxSteps:=1000000);rfl) ?_;refine fu rfl (ar ?_);refine gJ ((!y26)) (λWi=>?_) (λWi=>?_)
   ·rw[ai Wi] at h4
    refine kR [2] ?_;have k1:=MR _ (af h4);subst k1;dsimp only at h0;cases h0;exact fM
   ·rw[ah (by rw[Wi];decide)] at h4
    refine aN ?_;refine lr (by simp;rfl) ?_;exact⟨_,Og _ (af h4),cq⟩
  ·rw[ah (by rw[ZM];decide)] at h4
   refine bZ ?_;exact⟨_,MR _ (af h4),cq⟩
theorem tG {a0:ao} {r:Int} (h0:mh a0=some r):dY Tryz.prog 31 [] [.agg (ay a0)] (.d (.int .i64 r)) []:=by
 unfold mh at h0;refine dS (nt:=61) (rs:=[.tmp 2]) Tryz.func31 rfl Tryz.ntmps31 rfl (by simp) (by decide) rfl λK=>?_
 refine kR [1] ?_;refine aF ?_;obtain⟨v1,ff,h0⟩:=bI h0;refine qF (λrl:Bool=>(⟨61,[(1,.ptr 1 0),(16,.d (.bool rl))],[(1,(ay a0))],[]⟩:St)) (λrl=>v1=rl) (λrl e=>?_) ?_
 ·subst e
  refine gJ (v1) (λc3=>?_) (λc3=>?_)
  ·rw[ai c3] at h0
   refine kR [2] ?_;cases h0;exact fM
  ·rw[ah (by rw[c3];decide)] at h0
   refine aN ?_;refine aF ?_;refine kR [1,3] ?_;obtain⟨e1,jR,h0⟩:=bI h0;refine oa (λv2:Unit=>(⟨61,[(1,.ptr 1 0)],[(1,(ay a0))],[]⟩:St)) (λv2=>.inl v2=e1) (λv2 eP _ W1=>?_) ?_
   ·subst eP
    dsimp only at h0;refine dp W1 ?_;refine aF ?_;refine kc ?_;refine kO [1,31] 1 ?_;obtain⟨y3,Ce,h0⟩:=bI h0;refine ku [1,32] (Dm Ce) Tryz.call67 ?_;refine kO [1,4] 1 ?_;refine ar ?_;refine kR [1,4,34] ?_;refine gJ ((y3 != 0)) (λc8=>?_) (λc8=>?_)
    ·rw[ai c8] at h0
     refine kR [2] ?_;cases h0;exact fM
    ·rw[ah (by rw[c8];decide)] at h0
     refine aN ?_;refine kR [1,5] ?_;refine aF ?_;refine kR [1,5,6] ?_;obtain⟨e2,Gt,h0⟩:=bI h0;refine oa (λv4:Unit=>(⟨61,[(1,.ptr 1 0)],[(1,(ay a0))],[]⟩:St)) (λv4=>.inl v4=e2) (λv4 vo _ W2=>?_) ?_
     ·subst vo
      dsimp only at h0;refine dp W2 ?_;refine kc ?_;refine kO [59] 1 ?_;obtain⟨y5,IB,h0⟩:=bI h0;refine ku [60] (Ej IB) Tryz.call68 ?_;refine kO [2] 1 ?_;refine ar ?_;cases h0;exact fM
     ·refine aO (cA (λs6:Int×(List (Int×Bool))=>(⟨61,[(1,.ptr 1 0),(5,.vec 36),(6,.d (.int .i64 s6.1))],[(1,(ay a0))],[(36,⟨bL 103 1 false false,2,ak (bB (aH .i64) gm) s6.2⟩)]⟩:St)) Gt cq λG2 s6 o2 h2 vR xt=>?_)
      unfold lM at h2;refine aF ?_;refine kR [1,5,6,41] ?_;refine cF (b:=(decide (s6.1 < ((a0.aq).length:Int)))) (by simp) (λAp=>?_) (λAp=>?_)
      ·rw[ai Ap] at h2
       refine aN ?_;refine aF ?_;refine aO ?_;refine aF ?_;obtain⟨x7,p5,h2⟩:=bI h2;replace p5:=bD p5;have Qv:=p5;try simp at Qv
       refine kr [1,5,6,51] (by simp[p5,Qv];rfl) ?_;refine gJ (((br cK s6.2 x7.ID).getD false)) (λFH=>?_) (λFH=>?_)
       ·rw[ai FH] at h2
        refine kR [2] ?_;have k1:=xt _ (af h2);subst k1;dsimp only at h0;cases h0;exact fM
       ·rw[ah (by rw[FH];decide)] at h2
        refine aN ?_;refine lr (by simp[p5,Qv];rfl) ?_;refine lr (by simp;rfl) ?_;exact⟨_,vR _ (af h2),cq⟩
      ·rw[ah (by rw[Ap];decide)] at h2
       refine bZ ?_;exact⟨_,xt _ (af h2),cq⟩
   ·refine aO (cA (λLD:Int=>(⟨61,[(1,.ptr 1 0),(3,.d (.int .i64 LD))],[(1,(ay a0))],[]⟩:St)) jR cq λG2 LD o2 h2 vR xt=>?_)
    unfold qh at h2;refine aF ?_;refine kR [1,3,21] ?_;refine cF (b:=(decide (LD < ((a0.aq).length:Int)))) (by simp) (λCw=>?_) (λCw=>?_)
    ·rw[ai Cw] at h2
     refine aN ?_;refine aF ?_;refine aO ?_;refine kc ?_;obtain⟨x11,p6,h2⟩:=bI h2;replace p6:=bD p6;have WO:=p6;try simp at WO
     refine ko [1,3,28] 5 (by simp[p6,WO];rfl) ?_;obtain⟨WC,YR,h2⟩:=bI h2;refine ku [1,3,29] (En YR) Tryz.call66 ?_;refine kO [1,3,30] 1 ?_;refine ar ?_;refine gJ ((WC != 0)) (λAo=>?_) (λAo=>?_)
     ·rw[ai Ao] at h2
      refine kR [2] ?_;have k1:=xt _ (af h2);subst k1;dsimp only at h0;cases h0;exact fM
     ·rw[ah (by rw[Ao];decide)] at h2
      refine aN ?_;refine lr (by simp;rfl) ?_;exact⟨_,vR _ (af h2),cq⟩
    ·rw[ah (by rw[Cw];decide)] at h2
     refine bZ ?_;exact⟨_,xt _ (af h2),cq⟩
 ·refine qH ?_
  refine kO [1,11] 5 ?_;refine bh 11 (decide (400 < ((a0.aq).length:Int))) (by simp) (λCv=>?_) (λCv=>?_)
  ·rw[Cv] at ff
   refine cU 4 [] (by kernel_rfl) ?_;refine kO [1,16] 1 ?_;refine ar ?_;cases ff;exact⟨_,rfl,cq⟩
  ·rw[Cv] at ff
   refine kO [1,16] 5 ?_;refine ar ?_;cases ff;exact⟨_,rfl,cq⟩
theorem xV {a0:ao} {r:(List (Int×Int))} (h0:pI a0=some r):dY Tryz.prog 34 [] [.agg (ay a0)] (.d (.mp (bL 73 1 false false) 2 (ak (bB (aH .i64) (aH .i64)) r))) []:=by
 unfold pI at h0;refine dS (nt:=75) (rs:=[.tmp 2]) Tryz.func34 rfl Tryz.ntmps34 rfl (by simp) (by decide) rfl λK=>?_
 refine kR [1] ?_;refine kR [1,3] ?_;refine aF ?_;refine kR [1,3,4] ?_;obtain⟨e1,jR,h0⟩:=bI h0;refine oa (λv1:(List (Int×Int))=>(⟨75,[(3,.vec 11)],[],[(11,⟨bL 73 1 false false,2,ak (bB (aH .i64) (aH .i64)) v1⟩)]⟩:St)) (λv1=>v1=e1) (λv1 eP _ W1=>?_) ?_
 ·subst eP
  refine dp W1 ?_;refine kR [2] ?_;cases h0;exact fo ⟨[11],by simp,rfl,by simp⟩
 ·refine aO (cA (λs2:Int×(List (Int×Int))=>(⟨75,[(1,.ptr 1 0),(3,.vec 11),(4,.d (.int .i64 s2.1))],[(1,(ay a0))],[(11,⟨bL 73 1 false false,2,ak (bB (aH .i64) (aH .i64)) s2.2⟩)]⟩:St)) jR cq λG1 s2 o1 h1 gY iq=>?_)
  unfold jH at h1;refine aF ?_;refine kR [1,3,4,16] ?_;refine cF (b:=(decide (s2.1 < ((a0.aC).length:Int)))) (by simp) (λAn=>?_) (λAn=>?_)
  ·rw[ai An] at h1
   refine aN ?_;refine aF ?_;refine aO ?_;obtain⟨x3,p9,h1⟩:=bI h1;replace p9:=bD p9;have NL:=p9;try simp at NL
   refine kr [1,3,4,5] (by simp[p9,NL];rfl) ?_;refine aF ?_;obtain⟨v4,ec,h1⟩:=bI h1;refine qF (λwg:Bool=>(⟨75,[(1,.ptr 1 0),(3,.vec 11),(4,.d (.int .i64 s2.1)),(5,.d (.int .i64 x3.Time)),(41,.d (.bool wg))],[(1,(ay a0))],[(11,⟨bL 73 1 false false,2,ak (bB (aH .i64) (aH .i64)) s2.2⟩)]⟩:St)) (λwg=>v4=wg) (λwg e=>?_) ?_
   ·subst e
    refine gJ (v4) (λGx=>?_) (λGx=>?_)
    ·rw[ai Gx] at h1
     refine bZ ?_;refine lr (by simp;rfl) ?_;exact⟨_,gY _ (af h1),cq⟩
    ·rw[ah (by rw[Gx];decide)] at h1
     refine aN ?_;refine kc ?_;refine kO [1,3,4,5,42,43] 2 ?_;obtain⟨y5,IB,h1⟩:=bI h1;refine ku [1,3,4,5,44] (JT IB) Tryz.call70 ?_;refine kO [1,3,4,5,6] 1 ?_;refine ar ?_;refine kR [1,3,4,5,6,7] ?_;obtain⟨e2,Gt,h1⟩:=bI h1;refine oa (λv6:(List (Int×Int))=>(⟨75,[(1,.ptr 1 0),(3,.vec 11),(4,.d (.int .i64 s2.1))],[(1,(ay a0))],[(11,⟨bL 73 1 false false,2,ak (bB (aH .i64) (aH .i64)) v6⟩)]⟩:St)) (λv6=>v6=e2) (λv6 vo _ W2=>?_) ?_
     ·subst vo
      refine dp W2 ?_;refine lr (by simp;rfl) ?_;exact⟨_,gY _ (af h1),cq⟩
     ·refine aO (cA (λs7:Int×(List (Int×Int))=>(⟨75,[(1,.ptr 1 0),(3,.vec 11),(4,.d (.int .i64 s2.1)),(5,.d (.int .i64 x3.Time)),(6,.d (.mp (bL 103 1 false false) 2 (ak (bB (aH .i64) gm) y5))),(7,.d (.int .i64 s7.1))],[(1,(ay a0))],[(11,⟨bL 73 1 false false,2,ak (bB (aH .i64) (aH .i64)) s7.2⟩)]⟩:St)) Gt cq λG2 s7 o2 h2 vR xt=>?_)
      unfold lO at h2;refine aF ?_;refine kR [1,3,4,5,6,7,49] ?_;refine cF (b:=(decide (s7.1 < ((a0.aq).length:Int)))) (by simp) (λTL=>?_) (λTL=>?_)
      ·rw[ai TL] at h2
       refine aN ?_;refine aF ?_;refine aO ?_;obtain⟨x8,Hd,h2⟩:=bI h2;replace Hd:=bD Hd;have EC:=Hd;try simp at EC
       refine kr [1,3,4,5,6,7,8] (by simp[Hd,EC];rfl) ?_;refine kR [1,3,4,5,6,7,8,10] ?_;obtain⟨v9,IE,h2⟩:=bI h2;refine qF (λUM:Bool=>(⟨75,[(1,.ptr 1 0),(3,.vec 11),(4,.d (.int .i64 s2.1)),(5,.d (.int .i64 x3.Time)),(6,.d (.mp (bL 103 1 false false) 2 (ak (bB (aH .i64) gm) y5))),(7,.d (.int .i64 s7.1)),(8,.d (.int .i64 x8.ID)),(70,.d (.bool UM))],[(1,(ay a0))],[(11,⟨bL 73 1 false false,2,ak (bB (aH .i64) (aH .i64)) s7.2⟩)]⟩:St)) (λUM=>v9=UM) (λUM e=>?_) ?_
       ·subst e
        refine gJ (v9) (λTK=>?_) (λTK=>?_)
        ·rw[ai TK] at h2
         refine lr (by simp;rfl) ?_;refine lr (by simp;rfl) ?_;exact⟨_,vR _ (af h2),cq⟩
        ·rw[ah (by rw[TK];decide)] at h2
         refine aN ?_;refine lr (by simp;rfl) ?_;exact⟨_,vR _ (af h2),cq⟩
       ·refine qH ?_
        refine kO [1,3,4,5,6,7,8,66] 3 ?_;refine bh 66 (!(br cK s7.2 x8.ID).isSome) (by simp) (λNb=>?_) (λNb=>?_)
        ·rw[Nb] at IE
         refine kO [1,3,4,5,6,7,8,67,68,69,70] 4 ?_;refine ar ?_;cases IE;exact⟨_,rfl,cq⟩
        ·rw[Nb] at IE
         refine cU 3 [] (by kernel_rfl) ?_;refine kO [1,3,4,5,6,7,8,70] 1 ?_;refine ar ?_;cases IE;exact⟨_,rfl,cq⟩
      ·rw[ah (by rw[TL];decide)] at h2
       refine bZ ?_;exact⟨_,xt _ (af h2),cq⟩
   ·refine qH ?_
    refine kO [1,3,4,5,31] 7 ?_;refine bh 31 (decide ((IntKind.i64.wrap (s2.1+1)) < ((a0.aC).length:Int))) (by simp) (λI7=>?_) (λI7=>?_)
    ·rw[ai I7] at ec
     obtain⟨wo,AR,ec⟩:=bI ec;replace AR:=bD AR;have ze:=AR;try simp at ze
     refine ko [1,3,4,5,32,33,34,35,36,37,38,39,40,41] 10 (by simp[AR,ze];rfl) ?_;refine ar ?_;cases ec;exact⟨_,rfl,cq⟩
    ·rw[ah (by rw[I7];decide)] at ec
     refine cU 9 [] (by kernel_rfl) ?_;refine kO [1,3,4,5,41] 1 ?_;refine ar ?_;cases ec;exact⟨_,rfl,cq⟩
  ·rw[ah (by rw[An];decide)] at h1
   refine bZ ?_;exact⟨_,iq _ (af h1),cq⟩
theorem xU {a0:ao} {a1:Int} {r:(List Int)} (h0:nH a0 a1=some r):dY Tryz.prog 32 [] [.agg (ay a0),.d (.int .i64 a1)] (.d (.slice (ak (aH .i64) r))) []:=by
 unfold nH at h0;refine dS (nt:=47) (rs:=[.tmp 4]) Tryz.func32 rfl Tryz.ntmps32 rfl (by simp) (by decide) rfl λK=>?_
 refine kR [1,2] ?_;refine kR [1,2,5] ?_;refine kc ?_;refine kO [1,2,5,11] 1 ?_;obtain⟨y1,oC,h0⟩:=bI h0;refine ku [1,2,5,12] (xV oC) Tryz.call34 ?_;refine kO [1,2,5,6] 1 ?_;refine ar ?_;refine aF ?_;refine kR [1,2,5,6,7] ?_;obtain⟨e1,jR,h0⟩:=bI h0;refine oa (λv2:(List (Int×Bool))=>(⟨47,[(2,.ptr 2 0),(5,.vec 10)],[(2,(ay a0))],[(10,⟨bL 103 1 false false,2,ak (bB (aH .i64) gm) v2⟩)]⟩:St)) (λv2=>v2=e1) (λv2 eP _ W1=>?_) ?_
 ·subst eP
  refine dp W1 ?_;refine kc ?_;refine kO [44,45] 2 ?_;refine lA (BJ 10) ?_;obtain⟨y3,Ce,h0⟩:=bI h0;refine ku [46] (zN Ce) Tryz.call69 ?_;refine kO [4] 1 ?_;refine ar ?_;cases h0;exact fM
 ·refine aO (cA (λs4:Int×(List (Int×Bool))=>(⟨47,[(1,.d (.int .i64 a1)),(2,.ptr 2 0),(5,.vec 10),(6,.d (.mp (bL 73 1 false false) 2 (ak (bB (aH .i64) (aH .i64)) y1))),(7,.d (.int .i64 s4.1))],[(2,(ay a0))],[(10,⟨bL 103 1 false false,2,ak (bB (aH .i64) gm) s4.2⟩)]⟩:St)) jR cq λG1 s4 o1 h1 gY iq=>?_)
  unfold lN at h1;refine aF ?_;refine kR [1,2,5,6,7,17] ?_;refine cF (b:=(decide (s4.1 < ((a0.aq).length:Int)))) (by simp) (λc7=>?_) (λc7=>?_)
  ·rw[ai c7] at h1
   refine aN ?_;refine aF ?_;refine aO ?_;obtain⟨x5,p3,h1⟩:=bI h1;replace p3:=bD p3;have og:=p3;try simp at og
   refine kr [1,2,5,6,7,8,9] (by simp[p3,og];rfl) ?_;obtain⟨v6,pB,h1⟩:=bI h1;refine qF (λHR:Bool=>(⟨47,[(1,.d (.int .i64 a1)),(2,.ptr 2 0),(5,.vec 10),(6,.d (.mp (bL 73 1 false false) 2 (ak (bB (aH .i64) (aH .i64)) y1))),(7,.d (.int .i64 s4.1)),(36,.d (.bool HR))],[(2,(ay a0))],[(10,⟨bL 103 1 false false,2,ak (bB (aH .i64) gm) s4.2⟩)]⟩:St)) (λHR=>v6=HR) (λHR e=>?_) ?_
   ·subst e
    refine gJ (v6) (λFI=>?_) (λFI=>?_)
    ·rw[ai FI] at h1
     refine lr (by simp[p3,og];rfl) ?_;refine lr (by simp;rfl) ?_;exact⟨_,gY _ (af h1),cq⟩
    ·rw[ah (by rw[FI];decide)] at h1
     refine aN ?_;refine lr (by simp;rfl) ?_;exact⟨_,gY _ (af h1),cq⟩
   ·refine qH ?_
    refine kO [1,2,5,6,7,8,32] 2 ?_;refine bh 32 (br cK y1 x5.ID).isSome (by simp) (λCy=>?_) (λCy=>?_)
    ·rw[Cy] at pB
     refine kO [1,2,5,6,7,33,34,35,36] 4 ?_;refine ar ?_;cases pB;exact⟨_,rfl,cq⟩
    ·rw[Cy] at pB
     refine cU 3 [] (by kernel_rfl) ?_;refine kO [1,2,5,6,7,36] 1 ?_;refine ar ?_;cases pB;exact⟨_,rfl,cq⟩
  ·rw[ah (by rw[c7];decide)] at h1
   refine bZ ?_;exact⟨_,iq _ (af h1),cq⟩
theorem Ei {a0:ao} {a1:Int} {r:(List Int)} (h0:nE a0 a1=some r):dY Tryz.prog 14 [] [.agg (ay a0),.d (.int .i64 a1)] (.d (.slice (ak (aH .i64) r))) []:=by
 unfold nE at h0;refine dS (nt:=13) (rs:=[.tmp 4]) Tryz.func14 rfl Tryz.ntmps14 rfl (by simp) (by decide) rfl λK=>?_
 refine kR [1,2] ?_;refine aF ?_;refine kc ?_;refine kO [1,2,5] 1 ?_;obtain⟨y1,oC,h0⟩:=bI h0;refine ku [1,2,6] (tG oC) Tryz.call31 ?_;refine kO [1,2,7] 1 ?_;refine ar ?_;refine gJ ((y1 != 0)) (λc1=>?_) (λc1=>?_)
 ·rw[ai c1] at h0
  refine kR [4] ?_;cases h0;exact fM
 ·rw[ah (by rw[c1];decide)] at h0
  refine aN ?_;refine kd [[],[],[],[1,2],[0,3],[4]] [] [] none [] 6 sZ (by decide +kernel) (by simp) ?_;refine bj 0 2 rfl (by simp (maxSteps:=1000000);rfl) ?_;refine bj 2 1 rfl (by simp (maxSteps:=1000000);rfl) ?_;obtain⟨y2,DM,h0⟩:=bI h0;refine iu 3 [] (xU DM) rfl rfl rfl rfl rfl Tryz.call32 (by simp) ?_;obtain⟨y3,Ce,h0⟩:=bI h0;refine iu 4 [] (xS Ce) rfl rfl rfl rfl rfl Tryz.call33 (by simp) ?_;refine bj 5 1 rfl (by simp (maxSteps:=1000000);rfl) ?_;refine fu rfl (ar ?_);cases h0;exact fM
end Go.Vl
