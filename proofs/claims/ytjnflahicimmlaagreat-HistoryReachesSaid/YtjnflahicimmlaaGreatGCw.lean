/- Walks: each function of the given program computes what its mirror says. Conditions: none. -/
import Derived.Test.YtjnflahicimmlaaGreatGBx
import Derived.Test.YtjnflahicimmlaaGreatVmBs
import Derived.Test.YtjnflahicimmlaaGreatVmLz
import Derived.Test.YtjnflahicimmlaaGreatGq
import Derived.Test.YtjnflahicimmlaaGreatTyG
import Derived.Test.YtjnflahicimmlaaGreatGBw
import Derived.Test.YtjnflahicimmlaaGreatGbx
set_option maxHeartbeats 1000000
set_option linter.unusedSimpArgs false
set_option linter.unusedVariables false
namespace Go.Vl
open Go Go.Proofs
theorem rYwhole_ok {a0:zR} {r:Int} (h0:rYwhole a0=some r):FnOK Tryz.prog 45 [] [.agg (zRa a0)] (.d (.int .i64 r)) []:=by
 unfold rYwhole at h0
 refine fn_ok (nt:=109) (rs:=[.tmp 2]) Tryz.func45 rfl Tryz.ntmps45 rfl (by simp) (by decide) rfl fun K=>?_
 refine kr [1] (by simp;rfl) ?_
 refine trq ?_
 refine kr [1,3] (by simp;rfl) ?_
 replace h0:=bnd h0;obtain⟨e1,hI1,h0⟩:=h0
 refine tjv (fun v1:Unit=>({ nt:=109,env:=[(1,.ptr 1 0)],box:=[(1,[.d (.slice (rowsF zOr a0.Objects)),.d (.slice (rowsF zEr a0.Events))])],vec:=[]}:St)) (fun v1=>.inl v1=e1) (fun v1 hI1e _ W1=>?_) ?_
 ·subst hI1e
  dsimp only at h0
  refine tr_wk W1 ?_
  refine trq ?_
  refine kr [1,4] (by simp;rfl) ?_
  replace h0:=bnd h0;obtain⟨e2,hI2,h0⟩:=h0
  refine tjv (fun v2:Unit=>({ nt:=109,env:=[(1,.ptr 1 0)],box:=[(1,[.d (.slice (rowsF zOr a0.Objects)),.d (.slice (rowsF zEr a0.Events))])],vec:=[]}:St)) (fun v2=>.inl v2=e2) (fun v2 hI2e _ W2=>?_) ?_
  ·subst hI2e
   dsimp only at h0
   refine tr_wk W2 ?_
   refine kc ?_
   refine ko [1,52] 2 (by simp;rfl) ?_
   replace h0:=bnd h0;obtain⟨y3,hy3,h0⟩:=h0
   refine kcall [1,53] [] (rYuntimed_ok hy3) rfl rfl rfl Tryz.call82 (by simp) (by simp;rfl) ?_
   refine ko [1,54] 1 (by simp;rfl) ?_
   replace h0:=bnd h0;obtain⟨y4,hy4,h0⟩:=h0
   refine kcall [1,55] [] (rYnames_ok hy4) rfl rfl rfl Tryz.call54 (by simp) (by simp;rfl) ?_
   refine ko [1,6,7] 7 (by simp;rfl) ?_
   refine tpN ?_
   refine trq ?_
   refine kr [1,7,60] (by simp;rfl) ?_
   refine trc (b:=(!y4.2.1)) (by simp) (fun c15=>?_) (fun c15=>?_)
   ·rw[if_pos c15] at h0
    refine kr [2] (by simp;rfl) ?_
    cases h0
    exact trr ⟨[],by simp,rfl,by simp⟩
   ·rw[if_neg (by rw[c15];decide)] at h0
    refine trk ?_
    refine trq ?_
    refine kc ?_
    refine ko [1,7,61] 1 (by simp;rfl) ?_
    replace h0:=bnd h0;obtain⟨y5,hy5,h0⟩:=h0
    refine kcall [1,7,62] [] (rYcyclic_ok hy5) rfl rfl rfl Tryz.call83 (by simp) (by simp;rfl) ?_
    refine tpN ?_
    refine trc (b:=y5) (by simp) (fun c16=>?_) (fun c16=>?_)
    ·rw[if_pos c16] at h0
     refine kr [2] (by simp;rfl) ?_
     cases h0
     exact trr ⟨[],by simp,rfl,by simp⟩
    ·rw[if_neg (by rw[c16];decide)] at h0
     refine trk ?_
     refine trq ?_
     refine kr [1,7,8] (by simp;rfl) ?_
     replace h0:=bnd h0;obtain⟨e3,hI3,h0⟩:=h0
     refine tjv (fun v6:Unit=>({ nt:=109,env:=[(1,.ptr 1 0),(7,.d (.bool y4.2.2))],box:=[(1,[.d (.slice (rowsF zOr a0.Objects)),.d (.slice (rowsF zEr a0.Events))])],vec:=[]}:St)) (fun v6=>.inl v6=e3) (fun v6 hI3e _ W3=>?_) ?_
     ·subst hI3e
      dsimp only at h0
      refine tr_wk W3 ?_
      refine trq ?_
      refine kr [1,7,9] (by simp;rfl) ?_
      replace h0:=bnd h0;obtain⟨e4,hI4,h0⟩:=h0
      refine tjv (fun v7:Unit=>({ nt:=109,env:=[(7,.d (.bool y4.2.2))],box:=[],vec:=[]}:St)) (fun v7=>.inl v7=e4) (fun v7 hI4e _ W4=>?_) ?_
      ·subst hI4e
       dsimp only at h0
       refine tr_wk W4 ?_
       refine trq ?_
       refine kr [108] (by simp;rfl) ?_
       refine trc (b:=(!y4.2.2)) (by simp) (fun c27=>?_) (fun c27=>?_)
       ·rw[if_pos c27] at h0
        refine kr [2] (by simp;rfl) ?_
        cases h0
        exact trr ⟨[],by simp,rfl,by simp⟩
       ·rw[if_neg (by rw[c27];decide)] at h0
        refine trk ?_
        refine kr [2] (by simp;rfl) ?_
        cases h0
        exact trr ⟨[],by simp,rfl,by simp⟩
      ·refine trb (tr_iter (fun s8:Int=>({ nt:=109,env:=[(1,.ptr 1 0),(7,.d (.bool y4.2.2)),(9,.d (.int .i64 s8))],box:=[(1,[.d (.slice (rowsF zOr a0.Objects)),.d (.slice (rowsF zEr a0.Events))])],vec:=[]}:St)) hI4 (wk (by simp[wkI])) fun G4 s8 o4 h4 hg4 he4=>?_)
       unfold rYwhole_l3 at h4
       refine trq ?_
       refine kr [1,7,9,90] (by simp;rfl) ?_
       refine trc (b:=(decide (s8 < ((a0.Events).length:Int)))) (by simp) (fun c28=>?_) (fun c28=>?_)
       ·rw[if_pos c28] at h4
        refine trk ?_
        refine trq ?_
        refine trb ?_
        refine kd [[],[0],[],[1,2],[3],[4],[],[6],[],[8],[7,9],[10],[11],[5,12]] [] [] none [] 14 fol (by decide +kernel) (by simp) ?_
        replace h4:=bnd h4;obtain⟨x9,p31,h4⟩:=h4
        replace p31:=idx_some p31
        have p31':=p31;try simp at p31'
        replace h4:=bnd h4;obtain⟨x10,p32,h4⟩:=h4
        replace p32:=idx_some p32
        have p32':=p32;try simp at p32'
        refine dr_go 0 2 rfl (by simp (maxSteps:=1000000) [p31,p32,p31',p32'];rfl) ?_
        refine dr_go 2 2 rfl (by simp (maxSteps:=1000000) [p31,p32,p31',p32'];rfl) ?_
        refine dr_go 4 2 rfl (by simp (maxSteps:=1000000) [p31,p32,p31',p32'];rfl) ?_
        refine dr_go 6 2 rfl (by simp (maxSteps:=1000000) [p31,p32,p31',p32'];rfl) ?_
        refine dr_go 8 2 rfl (by simp (maxSteps:=1000000) [p31,p32,p31',p32'];rfl) ?_
        refine dr_go 10 2 rfl (by simp (maxSteps:=1000000) [p31,p32,p31',p32'];rfl) ?_
        refine dr_go 12 2 rfl (by simp (maxSteps:=1000000) [p31,p32,p31',p32'];rfl) ?_
        refine dr_end rfl (tpN ?_)
        refine trc (b:=(decide (x9.Time < x10.Time))) (by simp) (fun c29=>?_) (fun c29=>?_)
        ·rw[if_pos c29] at h4
         refine kr [2] (by simp;rfl) ?_
         have k1:=he4 _ (Option.some.inj h4)
         subst k1
         dsimp only at h0
         cases h0
         exact trr ⟨[],by simp,rfl,by simp⟩
        ·rw[if_neg (by rw[c29];decide)] at h4
         refine trk ?_
         refine lr (by simp;rfl) ?_
         exact⟨_,hg4 _ (Option.some.inj h4),wk (by simp[wkI])⟩
       ·rw[if_neg (by rw[c28];decide)] at h4
        refine tr_exit ?_
        exact⟨_,he4 _ (Option.some.inj h4),wk (by simp[wkI])⟩
     ·refine trb (tr_iter (fun s13:Int=>({ nt:=109,env:=[(1,.ptr 1 0),(7,.d (.bool y4.2.2)),(8,.d (.int .i64 s13))],box:=[(1,[.d (.slice (rowsF zOr a0.Objects)),.d (.slice (rowsF zEr a0.Events))])],vec:=[]}:St)) hI3 (wk (by simp[wkI])) fun G4 s13 o4 h4 hg4 he4=>?_)
      unfold rYwhole_l2 at h4
      refine trq ?_
      refine kr [1,7,8,67] (by simp;rfl) ?_
      refine trc (b:=(decide (s13 < ((a0.Events).length:Int)))) (by simp) (fun c30=>?_) (fun c30=>?_)
      ·rw[if_pos c30] at h4
       refine trk ?_
       refine trq ?_
       refine trb ?_
       replace h4:=bnd h4;obtain⟨v14,hvv14,h4⟩:=h4
       refine sjv (fun v14_:Bool=>({ nt:=109,env:=[(1,.ptr 1 0),(7,.d (.bool y4.2.2)),(8,.d (.int .i64 s13)),(85,.d (.bool v14_))],box:=[(1,[.d (.slice (rowsF zOr a0.Objects)),.d (.slice (rowsF zEr a0.Events))])],vec:=[]}:St)) (fun v14_=>v14=v14_) (fun v14_ e=>?_) ?_
       ·subst e
        refine trc (b:=v14) (by simp) (fun c33=>?_) (fun c33=>?_)
        ·rw[if_pos c33] at h4
         refine kr [2] (by simp;rfl) ?_
         have k1:=he4 _ (Option.some.inj h4)
         subst k1
         dsimp only at h0
         cases h0
         exact trr ⟨[],by simp,rfl,by simp⟩
        ·rw[if_neg (by rw[c33];decide)] at h4
         refine trk ?_
         refine lr (by simp;rfl) ?_
         exact⟨_,hg4 _ (Option.some.inj h4),wk (by simp[wkI])⟩
       ·refine kc1 ?_
        replace hvv14:=bnd hvv14;obtain⟨x15,p35,hvv14⟩:=hvv14
        replace p35:=idx_some p35
        have p35':=p35;try simp at p35'
        refine ko [1,7,8,77] 8 (by simp[p35,p35'];rfl) ?_
        refine tops_split 77 (decide (x15.Time < 0)) (by simp) (fun c34=>?_) (fun c34=>?_)
        ·rw[if_pos c34] at hvv14
         refine kskip 7 [] (by kernel_rfl) ?_
         refine ko [1,7,8,85] 1 (by simp;rfl) ?_
         refine tpN ?_
         cases hvv14
         exact⟨_,rfl,wk (by simp[wkI])⟩
        ·rw[if_neg (by rw[c34];decide)] at hvv14
         refine ko [1,7,8,78,79,80,81,82,83,84,85] 8 (by simp[p35,p35'];rfl) ?_
         refine tpN ?_
         cases hvv14
         exact⟨_,rfl,wk (by simp[wkI])⟩
      ·rw[if_neg (by rw[c30];decide)] at h4
       refine tr_exit ?_
       exact⟨_,he4 _ (Option.some.inj h4),wk (by simp[wkI])⟩
  ·refine trb (tr_iter (fun s18:Int=>({ nt:=109,env:=[(1,.ptr 1 0),(4,.d (.int .i64 s18))],box:=[(1,[.d (.slice (rowsF zOr a0.Objects)),.d (.slice (rowsF zEr a0.Events))])],vec:=[]}:St)) hI2 (wk (by simp[wkI])) fun G4 s18 o4 h4 hg4 he4=>?_)
   unfold rYwhole_l1 at h4
   refine trq ?_
   refine kr [1,4,29] (by simp;rfl) ?_
   refine trc (b:=(decide (s18 < ((a0.Events).length:Int)))) (by simp) (fun c35=>?_) (fun c35=>?_)
   ·rw[if_pos c35] at h4
    refine trk ?_
    refine trq ?_
    refine trb ?_
    replace h4:=bnd h4;obtain⟨v19,hvv19,h4⟩:=h4
    refine sjv (fun v19_:Bool=>({ nt:=109,env:=[(1,.ptr 1 0),(4,.d (.int .i64 s18)),(49,.d (.bool v19_))],box:=[(1,[.d (.slice (rowsF zOr a0.Objects)),.d (.slice (rowsF zEr a0.Events))])],vec:=[]}:St)) (fun v19_=>v19=v19_) (fun v19_ e=>?_) ?_
    ·subst e
     refine trc (b:=v19) (by simp) (fun c42=>?_) (fun c42=>?_)
     ·rw[if_pos c42] at h4
      refine kr [2] (by simp;rfl) ?_
      have k1:=he4 _ (Option.some.inj h4)
      subst k1
      dsimp only at h0
      cases h0
      exact trr ⟨[],by simp,rfl,by simp⟩
     ·rw[if_neg (by rw[c42];decide)] at h4
      refine trk ?_
      refine lr (by simp;rfl) ?_
      exact⟨_,hg4 _ (Option.some.inj h4),wk (by simp[wkI])⟩
    ·refine kd1 [[],[0],[],[1,2],[3],[4],[5],[6],[7],[7],[7,9],[7],[7,10,11],[7,12],[7,13],[7,8,14],[7,15],[7,16]] [] [] none [] 18 fol (by decide +kernel) (by simp) ?_
     replace hvv19:=bnd hvv19;obtain⟨x20,p44,hvv19⟩:=hvv19
     replace p44:=idx_some p44
     have p44':=p44;try simp at p44'
     refine dr_go 0 2 rfl (by simp (maxSteps:=1000000) [p44,p44'];rfl) ?_
     refine dr_go 2 2 rfl (by simp (maxSteps:=1000000) [p44,p44'];rfl) ?_
     refine dr_go 4 2 rfl (by simp (maxSteps:=1000000) [p44,p44'];rfl) ?_
     refine dr_go 6 2 rfl (by simp (maxSteps:=1000000) [p44,p44'];rfl) ?_
     refine dr_split 7 39 (x20.Kind==1) (by simp) (fun c45=>?_) (fun c45=>?_)
     ·rw[if_pos c45] at hvv19
      refine dr_go 8 2 rfl (by simp (maxSteps:=1000000) [p44,p44'];rfl) ?_
      refine dr_go 10 2 rfl (by simp (maxSteps:=1000000) [p44,p44'];rfl) ?_
      refine dr_go 12 2 rfl (by simp (maxSteps:=1000000) [p44,p44'];rfl) ?_
      refine dr_go 14 1 rfl (by simp (maxSteps:=1000000) [p44,p44'];rfl) ?_
      replace hvv19:=bnd hvv19;obtain⟨y21,hy21,hvv19⟩:=hvv19
      refine dr_call 15 [] (rYkind_ok hy21) rfl rfl rfl rfl rfl Tryz.call81 (by simp) ?_
      refine dr_go 16 2 rfl (by simp (maxSteps:=1000000);rfl) ?_
      refine dr_end rfl (tpN ?_)
      cases hvv19
      exact⟨_,rfl,wk (by simp[wkI])⟩
     ·rw[if_neg (by rw[c45];decide)] at hvv19
      refine dr_skip 8 109 [some 40,some 41,some 42,some 43,some 44,some 45,some 46,some 47,some 48] rfl rfl (by decide) (by kernel_rfl) (by simp only[skEf,List.map_cons,List.map_nil,List.cons_append,List.nil_append];rfl) ?_
      refine dr_go 17 1 rfl (by simp (maxSteps:=1000000);rfl) ?_
      refine dr_end rfl (tpN ?_)
      cases hvv19
      exact⟨_,rfl,wk (by simp[wkI])⟩
   ·rw[if_neg (by rw[c35];decide)] at h4
    refine tr_exit ?_
    exact⟨_,he4 _ (Option.some.inj h4),wk (by simp[wkI])⟩
 ·refine trb (tr_iter (fun s24:Int=>({ nt:=109,env:=[(1,.ptr 1 0),(3,.d (.int .i64 s24))],box:=[(1,[.d (.slice (rowsF zOr a0.Objects)),.d (.slice (rowsF zEr a0.Events))])],vec:=[]}:St)) hI1 (wk (by simp[wkI])) fun G4 s24 o4 h4 hg4 he4=>?_)
  unfold rYwhole_l0 at h4
  refine trq ?_
  refine kr [1,3,14] (by simp;rfl) ?_
  refine trc (b:=(decide (s24 < ((a0.Objects).length:Int)))) (by simp) (fun c46=>?_) (fun c46=>?_)
  ·rw[if_pos c46] at h4
   refine trk ?_
   refine trq ?_
   refine trb ?_
   refine kd [[],[],[1],[],[2,3],[4],[0,5],[6]] [] [] none [] 8 fol (by decide +kernel) (by simp) ?_
   replace h4:=bnd h4;obtain⟨x25,p47,h4⟩:=h4
   replace p47:=idx_some p47
   have p47':=p47;try simp at p47'
   refine dr_go 0 2 rfl (by simp (maxSteps:=1000000) [p47,p47'];rfl) ?_
   refine dr_go 2 2 rfl (by simp (maxSteps:=1000000) [p47,p47'];rfl) ?_
   refine dr_go 4 2 rfl (by simp (maxSteps:=1000000) [p47,p47'];rfl) ?_
   replace h4:=bnd h4;obtain⟨y26,hy26,h4⟩:=h4
   refine dr_call 6 [] (rYnamed_ok hy26) rfl rfl rfl rfl rfl Tryz.call80 (by simp) ?_
   refine dr_go 7 1 rfl (by simp (maxSteps:=1000000);rfl) ?_
   refine dr_end rfl (tpN ?_)
   refine trc (b:=(!y26)) (by simp) (fun c47=>?_) (fun c47=>?_)
   ·rw[if_pos c47] at h4
    refine kr [2] (by simp;rfl) ?_
    have k1:=he4 _ (Option.some.inj h4)
    subst k1
    dsimp only at h0
    cases h0
    exact trr ⟨[],by simp,rfl,by simp⟩
   ·rw[if_neg (by rw[c47];decide)] at h4
    refine trk ?_
    refine lr (by simp;rfl) ?_
    exact⟨_,hg4 _ (Option.some.inj h4),wk (by simp[wkI])⟩
  ·rw[if_neg (by rw[c46];decide)] at h4
   refine tr_exit ?_
   exact⟨_,he4 _ (Option.some.inj h4),wk (by simp[wkI])⟩
theorem rYValid_ok {a0:zR} {r:Int} (h0:rYValid a0=some r):FnOK Tryz.prog 8 [] [.agg (zRa a0)] (.d (.int .i64 r)) []:=by
 unfold rYValid at h0
 refine fn_ok (nt:=61) (rs:=[.tmp 2]) Tryz.func8 rfl Tryz.ntmps8 rfl (by simp) (by decide) rfl fun K=>?_
 refine kr [1] (by simp;rfl) ?_
 refine trq ?_
 replace h0:=bnd h0;obtain⟨v1,hvv1,h0⟩:=h0
 refine sjv (fun v1_:Bool=>({ nt:=61,env:=[(1,.ptr 1 0),(16,.d (.bool v1_))],box:=[(1,[.d (.slice (rowsF zOr a0.Objects)),.d (.slice (rowsF zEr a0.Events))])],vec:=[]}:St)) (fun v1_=>v1=v1_) (fun v1_ e=>?_) ?_
 ·subst e
  refine trc (b:=v1) (by simp) (fun c3=>?_) (fun c3=>?_)
  ·rw[if_pos c3] at h0
   refine kr [2] (by simp;rfl) ?_
   cases h0
   exact trr ⟨[],by simp,rfl,by simp⟩
  ·rw[if_neg (by rw[c3];decide)] at h0
   refine trk ?_
   refine trq ?_
   refine kr [1,3] (by simp;rfl) ?_
   replace h0:=bnd h0;obtain⟨e1,hI1,h0⟩:=h0
   refine tjv (fun v2:Unit=>({ nt:=61,env:=[(1,.ptr 1 0)],box:=[(1,[.d (.slice (rowsF zOr a0.Objects)),.d (.slice (rowsF zEr a0.Events))])],vec:=[]}:St)) (fun v2=>.inl v2=e1) (fun v2 hI1e _ W1=>?_) ?_
   ·subst hI1e
    dsimp only at h0
    refine tr_wk W1 ?_
    refine trq ?_
    refine kc ?_
    refine ko [1,31] 1 (by simp;rfl) ?_
    replace h0:=bnd h0;obtain⟨y3,hy3,h0⟩:=h0
    refine kcall [1,32] [] (rYevents_ok hy3) rfl rfl rfl Tryz.call44 (by simp) (by simp;rfl) ?_
    refine ko [1,4] 1 (by simp;rfl) ?_
    refine tpN ?_
    refine kr [1,4,34] (by simp;rfl) ?_
    refine trc (b:=(y3 != 0)) (by simp) (fun c8=>?_) (fun c8=>?_)
    ·rw[if_pos c8] at h0
     refine kr [2] (by simp;rfl) ?_
     cases h0
     exact trr ⟨[],by simp,rfl,by simp⟩
    ·rw[if_neg (by rw[c8];decide)] at h0
     refine trk ?_
     refine kr [1,5] (by simp;rfl) ?_
     refine trq ?_
     refine kr [1,5,6] (by simp;rfl) ?_
     replace h0:=bnd h0;obtain⟨e2,hI2,h0⟩:=h0
     refine tjv (fun v4:Unit=>({ nt:=61,env:=[(1,.ptr 1 0)],box:=[(1,[.d (.slice (rowsF zOr a0.Objects)),.d (.slice (rowsF zEr a0.Events))])],vec:=[]}:St)) (fun v4=>.inl v4=e2) (fun v4 hI2e _ W2=>?_) ?_
     ·subst hI2e
      dsimp only at h0
      refine tr_wk W2 ?_
      refine kc ?_
      refine ko [59] 1 (by simp;rfl) ?_
      replace h0:=bnd h0;obtain⟨y5,hy5,h0⟩:=h0
      refine kcall [60] [] (rYwhole_ok hy5) rfl rfl rfl Tryz.call45 (by simp) (by simp;rfl) ?_
      refine ko [2] 1 (by simp;rfl) ?_
      refine tpN ?_
      cases h0
      exact trr ⟨[],by simp,rfl,by simp⟩
     ·refine trb (tr_iter (fun s6:Int×(List (Int×Bool))=>({ nt:=61,env:=[(1,.ptr 1 0),(5,.vec 36),(6,.d (.int .i64 s6.1))],box:=[(1,[.d (.slice (rowsF zOr a0.Objects)),.d (.slice (rowsF zEr a0.Events))])],vec:=[(36,⟨mTag 75 1 false false,2,rowsF (mRow (iRow .i64) bRow) s6.2⟩)]}:St)) hI2 (wk (by simp[wkI])) fun G2 s6 o2 h2 hg2 he2=>?_)
      unfold rYValid_l1 at h2
      refine trq ?_
      refine kr [1,5,6,41] (by simp;rfl) ?_
      refine trc (b:=(decide (s6.1 < ((a0.Objects).length:Int)))) (by simp) (fun c13=>?_) (fun c13=>?_)
      ·rw[if_pos c13] at h2
       refine trk ?_
       refine trq ?_
       refine trb ?_
       refine trq ?_
       replace h2:=bnd h2;obtain⟨x7,p5,h2⟩:=h2
       replace p5:=idx_some p5
       have p5':=p5;try simp at p5'
       refine kr [1,5,6,51] (by simp[p5,p5'];rfl) ?_
       refine trc (b:=((mget inE s6.2 x7.ID).getD false)) (by simp) (fun c14=>?_) (fun c14=>?_)
       ·rw[if_pos c14] at h2
        refine kr [2] (by simp;rfl) ?_
        have k1:=he2 _ (Option.some.inj h2)
        subst k1
        dsimp only at h0
        cases h0
        exact trr ⟨[],by simp,rfl,by simp⟩
       ·rw[if_neg (by rw[c14];decide)] at h2
        refine trk ?_
        refine lr (by simp[p5,p5'];rfl) ?_
        refine lr (by simp;rfl) ?_
        exact⟨_,hg2 _ (Option.some.inj h2),wk (by simp[wkI])⟩
      ·rw[if_neg (by rw[c13];decide)] at h2
       refine tr_exit ?_
       exact⟨_,he2 _ (Option.some.inj h2),wk (by simp[wkI])⟩
   ·refine trb (tr_iter (fun s10:Int=>({ nt:=61,env:=[(1,.ptr 1 0),(3,.d (.int .i64 s10))],box:=[(1,[.d (.slice (rowsF zOr a0.Objects)),.d (.slice (rowsF zEr a0.Events))])],vec:=[]}:St)) hI1 (wk (by simp[wkI])) fun G2 s10 o2 h2 hg2 he2=>?_)
    unfold rYValid_l0 at h2
    refine trq ?_
    refine kr [1,3,21] (by simp;rfl) ?_
    refine trc (b:=(decide (s10 < ((a0.Objects).length:Int)))) (by simp) (fun c15=>?_) (fun c15=>?_)
    ·rw[if_pos c15] at h2
     refine trk ?_
     refine trq ?_
     refine trb ?_
     refine kc ?_
     replace h2:=bnd h2;obtain⟨x11,p6,h2⟩:=h2
     replace p6:=idx_some p6
     have p6':=p6;try simp at p6'
     refine ko [1,3,28] 5 (by simp[p6,p6'];rfl) ?_
     replace h2:=bnd h2;obtain⟨y12,hy12,h2⟩:=h2
     refine kcall [1,3,29] [] (qYValid_ok hy12) rfl rfl rfl Tryz.call43 (by simp) (by simp;rfl) ?_
     refine ko [1,3,30] 1 (by simp;rfl) ?_
     refine tpN ?_
     refine trc (b:=(y12 != 0)) (by simp) (fun c16=>?_) (fun c16=>?_)
     ·rw[if_pos c16] at h2
      refine kr [2] (by simp;rfl) ?_
      have k1:=he2 _ (Option.some.inj h2)
      subst k1
      dsimp only at h0
      cases h0
      exact trr ⟨[],by simp,rfl,by simp⟩
     ·rw[if_neg (by rw[c16];decide)] at h2
      refine trk ?_
      refine lr (by simp;rfl) ?_
      exact⟨_,hg2 _ (Option.some.inj h2),wk (by simp[wkI])⟩
    ·rw[if_neg (by rw[c15];decide)] at h2
     refine tr_exit ?_
     exact⟨_,he2 _ (Option.some.inj h2),wk (by simp[wkI])⟩
 ·refine kc1 ?_
  refine ko [1,11] 5 (by simp;rfl) ?_
  refine tops_split 11 (decide (400 < ((a0.Objects).length:Int))) (by simp) (fun c17=>?_) (fun c17=>?_)
  ·rw[c17] at hvv1
   refine kskip 4 [] (by kernel_rfl) ?_
   refine ko [1,16] 1 (by simp;rfl) ?_
   refine tpN ?_
   cases hvv1
   exact⟨_,rfl,wk (by simp[wkI])⟩
  ·rw[c17] at hvv1
   refine ko [1,16] 5 (by simp;rfl) ?_
   refine tpN ?_
   cases hvv1
   exact⟨_,rfl,wk (by simp[wkI])⟩
theorem rYFirst_ok {a0:zR} {r:(List (Int×Int))} (h0:rYFirst a0=some r):FnOK Tryz.prog 60 [] [.agg (zRa a0)] (.d (.mp (mTag 80 1 false false) 2 (rowsF (mRow (iRow .i64) (iRow .i64)) r))) []:=by
 unfold rYFirst at h0
 refine fn_ok (nt:=75) (rs:=[.tmp 2]) Tryz.func60 rfl Tryz.ntmps60 rfl (by simp) (by decide) rfl fun K=>?_
 refine kr [1] (by simp;rfl) ?_
 refine kr [1,3] (by simp;rfl) ?_
 refine trq ?_
 refine kr [1,3,4] (by simp;rfl) ?_
 replace h0:=bnd h0;obtain⟨e1,hI1,h0⟩:=h0
 refine tjv (fun v1:(List (Int×Int))=>({ nt:=75,env:=[(3,.vec 11)],box:=[],vec:=[(11,⟨mTag 80 1 false false,2,rowsF (mRow (iRow .i64) (iRow .i64)) v1⟩)]}:St)) (fun v1=>v1=e1) (fun v1 hI1e _ W1=>?_) ?_
 ·subst hI1e
  refine tr_wk W1 ?_
  refine kr [2] (by simp;rfl) ?_
  cases h0
  exact trr ⟨[11],by simp,rfl,by simp⟩
 ·refine trb (tr_iter (fun s2:Int×(List (Int×Int))=>({ nt:=75,env:=[(1,.ptr 1 0),(3,.vec 11),(4,.d (.int .i64 s2.1))],box:=[(1,[.d (.slice (rowsF zOr a0.Objects)),.d (.slice (rowsF zEr a0.Events))])],vec:=[(11,⟨mTag 80 1 false false,2,rowsF (mRow (iRow .i64) (iRow .i64)) s2.2⟩)]}:St)) hI1 (wk (by simp[wkI])) fun G1 s2 o1 h1 hg1 he1=>?_)
  unfold rYFirst_l0 at h1
  refine trq ?_
  refine kr [1,3,4,16] (by simp;rfl) ?_
  refine trc (b:=(decide (s2.1 < ((a0.Events).length:Int)))) (by simp) (fun c19=>?_) (fun c19=>?_)
  ·rw[if_pos c19] at h1
   refine trk ?_
   refine trq ?_
   refine trb ?_
   replace h1:=bnd h1;obtain⟨x3,p9,h1⟩:=h1
   replace p9:=idx_some p9
   have p9':=p9;try simp at p9'
   refine kr [1,3,4,5] (by simp[p9,p9'];rfl) ?_
   refine trq ?_
   replace h1:=bnd h1;obtain⟨v4,hvv4,h1⟩:=h1
   refine sjv (fun v4_:Bool=>({ nt:=75,env:=[(1,.ptr 1 0),(3,.vec 11),(4,.d (.int .i64 s2.1)),(5,.d (.int .i64 x3.Time)),(41,.d (.bool v4_))],box:=[(1,[.d (.slice (rowsF zOr a0.Objects)),.d (.slice (rowsF zEr a0.Events))])],vec:=[(11,⟨mTag 80 1 false false,2,rowsF (mRow (iRow .i64) (iRow .i64)) s2.2⟩)]}:St)) (fun v4_=>v4=v4_) (fun v4_ e=>?_) ?_
   ·subst e
    refine trc (b:=v4) (by simp) (fun c22=>?_) (fun c22=>?_)
    ·rw[if_pos c22] at h1
     refine tr_exit ?_
     refine lr (by simp;rfl) ?_
     exact⟨_,hg1 _ (Option.some.inj h1),wk (by simp[wkI])⟩
    ·rw[if_neg (by rw[c22];decide)] at h1
     refine trk ?_
     refine kc ?_
     refine ko [1,3,4,5,42,43] 2 (by simp;rfl) ?_
     replace h1:=bnd h1;obtain⟨y5,hy5,h1⟩:=h1
     refine kcall [1,3,4,5,44] [] (rYAt_ok hy5) rfl rfl rfl Tryz.call58 (by simp) (by simp;rfl) ?_
     refine ko [1,3,4,5,6] 1 (by simp;rfl) ?_
     refine tpN ?_
     refine kr [1,3,4,5,6,7] (by simp;rfl) ?_
     replace h1:=bnd h1;obtain⟨e2,hI2,h1⟩:=h1
     refine tjv (fun v6:(List (Int×Int))=>({ nt:=75,env:=[(1,.ptr 1 0),(3,.vec 11),(4,.d (.int .i64 s2.1))],box:=[(1,[.d (.slice (rowsF zOr a0.Objects)),.d (.slice (rowsF zEr a0.Events))])],vec:=[(11,⟨mTag 80 1 false false,2,rowsF (mRow (iRow .i64) (iRow .i64)) v6⟩)]}:St)) (fun v6=>v6=e2) (fun v6 hI2e _ W2=>?_) ?_
     ·subst hI2e
      refine tr_wk W2 ?_
      refine lr (by simp;rfl) ?_
      exact⟨_,hg1 _ (Option.some.inj h1),wk (by simp[wkI])⟩
     ·refine trb (tr_iter (fun s7:Int×(List (Int×Int))=>({ nt:=75,env:=[(1,.ptr 1 0),(3,.vec 11),(4,.d (.int .i64 s2.1)),(5,.d (.int .i64 x3.Time)),(6,.d (.mp (mTag 75 1 false false) 2 (rowsF (mRow (iRow .i64) bRow) y5))),(7,.d (.int .i64 s7.1))],box:=[(1,[.d (.slice (rowsF zOr a0.Objects)),.d (.slice (rowsF zEr a0.Events))])],vec:=[(11,⟨mTag 80 1 false false,2,rowsF (mRow (iRow .i64) (iRow .i64)) s7.2⟩)]}:St)) hI2 (wk (by simp[wkI])) fun G2 s7 o2 h2 hg2 he2=>?_)
      unfold rYFirst_l1 at h2
      refine trq ?_
      refine kr [1,3,4,5,6,7,49] (by simp;rfl) ?_
      refine trc (b:=(decide (s7.1 < ((a0.Objects).length:Int)))) (by simp) (fun c29=>?_) (fun c29=>?_)
      ·rw[if_pos c29] at h2
       refine trk ?_
       refine trq ?_
       refine trb ?_
       replace h2:=bnd h2;obtain⟨x8,p14,h2⟩:=h2
       replace p14:=idx_some p14
       have p14':=p14;try simp at p14'
       refine kr [1,3,4,5,6,7,8] (by simp[p14,p14'];rfl) ?_
       refine kr [1,3,4,5,6,7,8,10] (by simp;rfl) ?_
       replace h2:=bnd h2;obtain⟨v9,hvv9,h2⟩:=h2
       refine sjv (fun v9_:Bool=>({ nt:=75,env:=[(1,.ptr 1 0),(3,.vec 11),(4,.d (.int .i64 s2.1)),(5,.d (.int .i64 x3.Time)),(6,.d (.mp (mTag 75 1 false false) 2 (rowsF (mRow (iRow .i64) bRow) y5))),(7,.d (.int .i64 s7.1)),(8,.d (.int .i64 x8.ID)),(70,.d (.bool v9_))],box:=[(1,[.d (.slice (rowsF zOr a0.Objects)),.d (.slice (rowsF zEr a0.Events))])],vec:=[(11,⟨mTag 80 1 false false,2,rowsF (mRow (iRow .i64) (iRow .i64)) s7.2⟩)]}:St)) (fun v9_=>v9=v9_) (fun v9_ e=>?_) ?_
       ·subst e
        refine trc (b:=v9) (by simp) (fun c32=>?_) (fun c32=>?_)
        ·rw[if_pos c32] at h2
         refine lr (by simp;rfl) ?_
         refine lr (by simp;rfl) ?_
         exact⟨_,hg2 _ (Option.some.inj h2),wk (by simp[wkI])⟩
        ·rw[if_neg (by rw[c32];decide)] at h2
         refine trk ?_
         refine lr (by simp;rfl) ?_
         exact⟨_,hg2 _ (Option.some.inj h2),wk (by simp[wkI])⟩
       ·refine kc1 ?_
        refine ko [1,3,4,5,6,7,8,66] 3 (by simp;rfl) ?_
        refine tops_split 66 (!(mget inE s7.2 x8.ID).isSome) (by simp) (fun c33=>?_) (fun c33=>?_)
        ·rw[c33] at hvv9
         refine ko [1,3,4,5,6,7,8,67,68,69,70] 4 (by simp;rfl) ?_
         refine tpN ?_
         cases hvv9
         exact⟨_,rfl,wk (by simp[wkI])⟩
        ·rw[c33] at hvv9
         refine kskip 3 [] (by kernel_rfl) ?_
         refine ko [1,3,4,5,6,7,8,70] 1 (by simp;rfl) ?_
         refine tpN ?_
         cases hvv9
         exact⟨_,rfl,wk (by simp[wkI])⟩
      ·rw[if_neg (by rw[c29];decide)] at h2
       refine tr_exit ?_
       exact⟨_,he2 _ (Option.some.inj h2),wk (by simp[wkI])⟩
   ·refine kc1 ?_
    refine ko [1,3,4,5,31] 7 (by simp;rfl) ?_
    refine tops_split 31 (decide ((IntKind.i64.wrap (s2.1+1)) < ((a0.Events).length:Int))) (by simp) (fun c34=>?_) (fun c34=>?_)
    ·rw[if_pos c34] at hvv4
     replace hvv4:=bnd hvv4;obtain⟨x10,p15,hvv4⟩:=hvv4
     replace p15:=idx_some p15
     have p15':=p15;try simp at p15'
     refine ko [1,3,4,5,32,33,34,35,36,37,38,39,40,41] 10 (by simp[p15,p15'];rfl) ?_
     refine tpN ?_
     cases hvv4
     exact⟨_,rfl,wk (by simp[wkI])⟩
    ·rw[if_neg (by rw[c34];decide)] at hvv4
     refine kskip 9 [] (by kernel_rfl) ?_
     refine ko [1,3,4,5,41] 1 (by simp;rfl) ?_
     refine tpN ?_
     cases hvv4
     exact⟨_,rfl,wk (by simp[wkI])⟩
  ·rw[if_neg (by rw[c19];decide)] at h1
   refine tr_exit ?_
   exact⟨_,he1 _ (Option.some.inj h1),wk (by simp[wkI])⟩
theorem rYUntil_ok {a0:zR} {a1:Int} {r:(List Int)} (h0:rYUntil a0 a1=some r):FnOK Tryz.prog 49 [] [.agg (zRa a0),.d (.int .i64 a1)] (.d (.slice (rowsF (iRow .i64) r))) []:=by
 unfold rYUntil at h0
 refine fn_ok (nt:=47) (rs:=[.tmp 4]) Tryz.func49 rfl Tryz.ntmps49 rfl (by simp) (by decide) rfl fun K=>?_
 refine kr [1,2] (by simp;rfl) ?_
 refine kr [1,2,5] (by simp;rfl) ?_
 refine kc ?_
 refine ko [1,2,5,11] 1 (by simp;rfl) ?_
 replace h0:=bnd h0;obtain⟨y1,hy1,h0⟩:=h0
 refine kcall [1,2,5,12] [] (rYFirst_ok hy1) rfl rfl rfl Tryz.call60 (by simp) (by simp;rfl) ?_
 refine ko [1,2,5,6] 1 (by simp;rfl) ?_
 refine tpN ?_
 refine trq ?_
 refine kr [1,2,5,6,7] (by simp;rfl) ?_
 replace h0:=bnd h0;obtain⟨e1,hI1,h0⟩:=h0
 refine tjv (fun v2:(List (Int×Bool))=>({ nt:=47,env:=[(2,.ptr 2 0),(5,.vec 10)],box:=[(2,[.d (.slice (rowsF zOr a0.Objects)),.d (.slice (rowsF zEr a0.Events))])],vec:=[(10,⟨mTag 75 1 false false,2,rowsF (mRow (iRow .i64) bRow) v2⟩)]}:St)) (fun v2=>v2=e1) (fun v2 hI1e _ W1=>?_) ?_
 ·subst hI1e
  refine tr_wk W1 ?_
  refine kc ?_
  refine ko [44,45] 2 (by simp;rfl) ?_
  refine tops_wk (wk_frz 10) ?_
  replace h0:=bnd h0;obtain⟨y3,hy3,h0⟩:=h0
  refine kcall [46] [] (rYascending_ok hy3) rfl rfl rfl Tryz.call57 (by simp) (by simp;rfl) ?_
  refine ko [4] 1 (by simp;rfl) ?_
  refine tpN ?_
  cases h0
  exact trr ⟨[],by simp,rfl,by simp⟩
 ·refine trb (tr_iter (fun s4:Int×(List (Int×Bool))=>({ nt:=47,env:=[(1,.d (.int .i64 a1)),(2,.ptr 2 0),(5,.vec 10),(6,.d (.mp (mTag 80 1 false false) 2 (rowsF (mRow (iRow .i64) (iRow .i64)) y1))),(7,.d (.int .i64 s4.1))],box:=[(2,[.d (.slice (rowsF zOr a0.Objects)),.d (.slice (rowsF zEr a0.Events))])],vec:=[(10,⟨mTag 75 1 false false,2,rowsF (mRow (iRow .i64) bRow) s4.2⟩)]}:St)) hI1 (wk (by simp[wkI])) fun G1 s4 o1 h1 hg1 he1=>?_)
  unfold rYUntil_l0 at h1
  refine trq ?_
  refine kr [1,2,5,6,7,17] (by simp;rfl) ?_
  refine trc (b:=(decide (s4.1 < ((a0.Objects).length:Int)))) (by simp) (fun c7=>?_) (fun c7=>?_)
  ·rw[if_pos c7] at h1
   refine trk ?_
   refine trq ?_
   refine trb ?_
   replace h1:=bnd h1;obtain⟨x5,p3,h1⟩:=h1
   replace p3:=idx_some p3
   have p3':=p3;try simp at p3'
   refine kr [1,2,5,6,7,8,9] (by simp[p3,p3'];rfl) ?_
   replace h1:=bnd h1;obtain⟨v6,hvv6,h1⟩:=h1
   refine sjv (fun v6_:Bool=>({ nt:=47,env:=[(1,.d (.int .i64 a1)),(2,.ptr 2 0),(5,.vec 10),(6,.d (.mp (mTag 80 1 false false) 2 (rowsF (mRow (iRow .i64) (iRow .i64)) y1))),(7,.d (.int .i64 s4.1)),(36,.d (.bool v6_))],box:=[(2,[.d (.slice (rowsF zOr a0.Objects)),.d (.slice (rowsF zEr a0.Events))])],vec:=[(10,⟨mTag 75 1 false false,2,rowsF (mRow (iRow .i64) bRow) s4.2⟩)]}:St)) (fun v6_=>v6=v6_) (fun v6_ e=>?_) ?_
   ·subst e
    refine trc (b:=v6) (by simp) (fun c10=>?_) (fun c10=>?_)
    ·rw[if_pos c10] at h1
     refine lr (by simp[p3,p3'];rfl) ?_
     refine lr (by simp;rfl) ?_
     exact⟨_,hg1 _ (Option.some.inj h1),wk (by simp[wkI])⟩
    ·rw[if_neg (by rw[c10];decide)] at h1
     refine trk ?_
     refine lr (by simp;rfl) ?_
     exact⟨_,hg1 _ (Option.some.inj h1),wk (by simp[wkI])⟩
   ·refine kc1 ?_
    refine ko [1,2,5,6,7,8,32] 2 (by simp;rfl) ?_
    refine tops_split 32 (mget inE y1 x5.ID).isSome (by simp) (fun c11=>?_) (fun c11=>?_)
    ·rw[c11] at hvv6
     refine ko [1,2,5,6,7,33,34,35,36] 4 (by simp;rfl) ?_
     refine tpN ?_
     cases hvv6
     exact⟨_,rfl,wk (by simp[wkI])⟩
    ·rw[c11] at hvv6
     refine kskip 3 [] (by kernel_rfl) ?_
     refine ko [1,2,5,6,7,36] 1 (by simp;rfl) ?_
     refine tpN ?_
     cases hvv6
     exact⟨_,rfl,wk (by simp[wkI])⟩
  ·rw[if_neg (by rw[c7];decide)] at h1
   refine tr_exit ?_
   exact⟨_,he1 _ (Option.some.inj h1),wk (by simp[wkI])⟩
theorem rYEver_ok {a0:zR} {r:(List Int)} (h0:rYEver a0=some r):FnOK Tryz.prog 11 [] [.agg (zRa a0)] (.d (.slice (rowsF (iRow .i64) r))) []:=by
 unfold rYEver at h0
 refine fn_ok (nt:=8) (rs:=[.tmp 2]) Tryz.func11 rfl Tryz.ntmps11 rfl (by simp) (by decide) rfl fun K=>?_
 refine kr [1] (by simp;rfl) ?_
 refine trq ?_
 refine kc ?_
 refine ko [1,3] 1 (by simp;rfl) ?_
 replace h0:=bnd h0;obtain⟨y1,hy1,h0⟩:=h0
 refine kcall [1,4] [] (rYValid_ok hy1) rfl rfl rfl Tryz.call8 (by simp) (by simp;rfl) ?_
 refine ko [1,5] 1 (by simp;rfl) ?_
 refine tpN ?_
 refine trc (b:=(y1 != 0)) (by simp) (fun c1=>?_) (fun c1=>?_)
 ·rw[if_pos c1] at h0
  refine kr [2] (by simp;rfl) ?_
  cases h0
  exact trr ⟨[],by simp,rfl,by simp⟩
 ·rw[if_neg (by rw[c1];decide)] at h0
  refine trk ?_
  refine kc ?_
  refine ko [6] 1 (by simp;rfl) ?_
  replace h0:=bnd h0;obtain⟨y2,hy2,h0⟩:=h0
  refine kcall [7] [] (rYUntil_ok hy2) rfl rfl rfl Tryz.call49 (by simp) (by simp;rfl) ?_
  refine ko [2] 1 (by simp;rfl) ?_
  refine tpN ?_
  cases h0
  exact trr ⟨[],by simp,rfl,by simp⟩
theorem rYRefs_ok {a0:zR} {a1:Int} {r:(List zI)} (h0:rYRefs a0 a1=some r):FnOK Tryz.prog 15 [] [.agg (zRa a0),.d (.int .i64 a1)] (.d (.slice (rowsF zIr r))) []:=by
 unfold rYRefs at h0
 refine fn_ok (nt:=19) (rs:=[.tmp 4]) Tryz.func15 rfl Tryz.ntmps15 rfl (by simp) (by decide) rfl fun K=>?_
 refine kr [1,2] (by simp;rfl) ?_
 refine trq ?_
 refine kc ?_
 refine ko [1,2,8] 1 (by simp;rfl) ?_
 replace h0:=bnd h0;obtain⟨y1,hy1,h0⟩:=h0
 refine kcall [1,2,9] [] (rYValid_ok hy1) rfl rfl rfl Tryz.call8 (by simp) (by simp;rfl) ?_
 refine ko [1,2,10] 1 (by simp;rfl) ?_
 refine tpN ?_
 refine trc (b:=(y1 != 0)) (by simp) (fun c1=>?_) (fun c1=>?_)
 ·rw[if_pos c1] at h0
  refine kr [4] (by simp;rfl) ?_
  cases h0
  exact trr ⟨[],by simp,rfl,by simp⟩
 ·rw[if_neg (by rw[c1];decide)] at h0
  refine trk ?_
  refine kc ?_
  refine ko [12,13] 2 (by simp;rfl) ?_
  replace h0:=bnd h0;obtain⟨y2,hy2,h0⟩:=h0
  refine kcall [14] [] (rYnames_ok hy2) rfl rfl rfl Tryz.call54 (by simp) (by simp;rfl) ?_
  refine ko [5] 7 (by simp;rfl) ?_
  refine tpN ?_
  refine kr [4] (by simp;rfl) ?_
  cases h0
  exact trr ⟨[],by simp,rfl,by simp⟩
theorem rYReachable_ok {a0:zR} {a1:Int} {r:(List Int)} (h0:rYReachable a0 a1=some r):FnOK Tryz.prog 17 [] [.agg (zRa a0),.d (.int .i64 a1)] (.d (.slice (rowsF (iRow .i64) r))) []:=by
 unfold rYReachable at h0
 refine fn_ok (nt:=13) (rs:=[.tmp 4]) Tryz.func17 rfl Tryz.ntmps17 rfl (by simp) (by decide) rfl fun K=>?_
 refine kr [1,2] (by simp;rfl) ?_
 refine trq ?_
 refine kc ?_
 refine ko [1,2,5] 1 (by simp;rfl) ?_
 replace h0:=bnd h0;obtain⟨y1,hy1,h0⟩:=h0
 refine kcall [1,2,6] [] (rYValid_ok hy1) rfl rfl rfl Tryz.call8 (by simp) (by simp;rfl) ?_
 refine ko [1,2,7] 1 (by simp;rfl) ?_
 refine tpN ?_
 refine trc (b:=(y1 != 0)) (by simp) (fun c1=>?_) (fun c1=>?_)
 ·rw[if_pos c1] at h0
  refine kr [4] (by simp;rfl) ?_
  cases h0
  exact trr ⟨[],by simp,rfl,by simp⟩
 ·rw[if_neg (by rw[c1];decide)] at h0
  refine trk ?_
  refine kd [[],[],[],[1,2],[0,3],[4]] [] [] none [] 6 fol (by decide +kernel) (by simp) ?_
  refine dr_go 0 2 rfl (by simp (maxSteps:=1000000);rfl) ?_
  refine dr_go 2 1 rfl (by simp (maxSteps:=1000000);rfl) ?_
  replace h0:=bnd h0;obtain⟨y2,hy2,h0⟩:=h0
  refine dr_call 3 [] (rYAt_ok hy2) rfl rfl rfl rfl rfl Tryz.call58 (by simp) ?_
  replace h0:=bnd h0;obtain⟨y3,hy3,h0⟩:=h0
  refine dr_call 4 [] (rYascending_ok hy3) rfl rfl rfl rfl rfl Tryz.call57 (by simp) ?_
  refine dr_go 5 1 rfl (by simp (maxSteps:=1000000);rfl) ?_
  refine dr_end rfl (tpN ?_)
  cases h0
  exact trr ⟨[],by simp,rfl,by simp⟩
theorem rYLost_ok {a0:zR} {a1:Int} {r:(List Int)} (h0:rYLost a0 a1=some r):FnOK Tryz.prog 19 [] [.agg (zRa a0),.d (.int .i64 a1)] (.d (.slice (rowsF (iRow .i64) r))) []:=by
 unfold rYLost at h0
 refine fn_ok (nt:=39) (rs:=[.tmp 4]) Tryz.func19 rfl Tryz.ntmps19 rfl (by simp) (by decide) rfl fun K=>?_
 refine kr [1,2] (by simp;rfl) ?_
 refine trq ?_
 refine kc ?_
 refine ko [1,2,9] 1 (by simp;rfl) ?_
 replace h0:=bnd h0;obtain⟨y1,hy1,h0⟩:=h0
 refine kcall [1,2,10] [] (rYValid_ok hy1) rfl rfl rfl Tryz.call8 (by simp) (by simp;rfl) ?_
 refine ko [1,2,11] 1 (by simp;rfl) ?_
 refine tpN ?_
 refine trc (b:=(y1 != 0)) (by simp) (fun c1=>?_) (fun c1=>?_)
 ·rw[if_pos c1] at h0
  refine kr [4] (by simp;rfl) ?_
  cases h0
  exact trr ⟨[],by simp,rfl,by simp⟩
 ·rw[if_neg (by rw[c1];decide)] at h0
  refine trk ?_
  refine kc ?_
  refine ko [1,2,12,13] 2 (by simp;rfl) ?_
  replace h0:=bnd h0;obtain⟨y2,hy2,h0⟩:=h0
  refine kcall [1,2,14] [] (rYAt_ok hy2) rfl rfl rfl Tryz.call58 (by simp) (by simp;rfl) ?_
  refine ko [1,2,5] 1 (by simp;rfl) ?_
  refine tpN ?_
  refine kc ?_
  refine ko [5,15,16] 2 (by simp;rfl) ?_
  replace h0:=bnd h0;obtain⟨y3,hy3,h0⟩:=h0
  refine kcall [5,17] [] (rYUntil_ok hy3) rfl rfl rfl Tryz.call49 (by simp) (by simp;rfl) ?_
  refine ko [5,6] 1 (by simp;rfl) ?_
  refine tpN ?_
  refine kr [5,6,7] (by simp;rfl) ?_
  refine trq ?_
  refine kr [5,6,7,8] (by simp;rfl) ?_
  refine tr_wk (wk_own 7 37 3 1 (by simp) (by simp)) ?_
  replace h0:=bnd h0;obtain⟨e1,hI1,h0⟩:=h0
  refine tjv (fun v4:(List Int)=>({ nt:=39,env:=[(7,.vec 37)],box:=[],vec:=[(37,⟨3,1,rowsF (iRow .i64) v4⟩)]}:St)) (fun v4=>v4=e1) (fun v4 hI1e _ W1=>?_) ?_
  ·subst hI1e
   refine tr_wk W1 ?_
   refine kr [4] (by simp;rfl) ?_
   cases h0
   exact trr ⟨[37],by simp,rfl,by simp⟩
  ·refine trb (tr_iter (fun s5:Int×(List Int)=>({ nt:=39,env:=[(5,.d (.mp (mTag 75 1 false false) 2 (rowsF (mRow (iRow .i64) bRow) y2))),(6,.d (.slice (rowsF (iRow .i64) y3))),(7,.vec 37),(8,.d (.int .i64 s5.1))],box:=[],vec:=[(37,⟨3,1,rowsF (iRow .i64) s5.2⟩)]}:St)) hI1 (wk (by simp[wkI])) fun G1 s5 o1 h1 hg1 he1=>?_)
   unfold rYLost_l0 at h1
   refine trq ?_
   refine kr [5,6,7,8,21] (by simp;rfl) ?_
   refine trc (b:=(decide (s5.1 < ((y3).length:Int)))) (by simp) (fun c8=>?_) (fun c8=>?_)
   ·rw[if_pos c8] at h1
    refine trk ?_
    refine trq ?_
    refine trb ?_
    replace h1:=bnd h1;obtain⟨x6,p8,h1⟩:=h1
    replace p8:=idx_some p8
    have p8':=p8;try simp at p8'
    refine kr [5,6,7,8,30] (by simp[p8,p8'];rfl) ?_
    refine trc (b:=(!((mget inE y2 x6).getD false))) (by simp) (fun c9=>?_) (fun c9=>?_)
    ·rw[if_pos c9] at h1
     replace h1:=bnd h1;obtain⟨_,p10,h1⟩:=h1
     replace p10:=ck_some p10
     have p10':=p10;try simp at p10'
     refine lr (by simp[p8,p10,p8',p10'];rfl) ?_
     refine lr (by simp;rfl) ?_
     exact⟨_,hg1 _ (Option.some.inj h1),wk (by simp[wkI])⟩
    ·rw[if_neg (by rw[c9];decide)] at h1
     refine trk ?_
     refine lr (by simp;rfl) ?_
     exact⟨_,hg1 _ (Option.some.inj h1),wk (by simp[wkI])⟩
   ·rw[if_neg (by rw[c8];decide)] at h1
    refine tr_exit ?_
    exact⟨_,he1 _ (Option.some.inj h1),wk (by simp[wkI])⟩
theorem rYSince_ok {a0:zR} {a1:Int} {r:Int×Bool} (h0:rYSince a0 a1=some r):FnOK Tryz.prog 21 [] [.agg (zRa a0),.d (.int .i64 a1)] (.tup [.d (.int .i64 r.1),.d (.bool r.2)]) []:=by
 unfold rYSince at h0
 refine fn_ok (nt:=20) (rs:=[.tmp 4,.tmp 5]) Tryz.func21 rfl Tryz.ntmps21 rfl (by simp) (by decide) rfl fun K=>?_
 refine kr [1,2] (by simp;rfl) ?_
 refine trq ?_
 refine kc ?_
 refine ko [1,2,8] 1 (by simp;rfl) ?_
 replace h0:=bnd h0;obtain⟨y1,hy1,h0⟩:=h0
 refine kcall [1,2,9] [] (rYValid_ok hy1) rfl rfl rfl Tryz.call8 (by simp) (by simp;rfl) ?_
 refine ko [1,2,10] 1 (by simp;rfl) ?_
 refine tpN ?_
 refine trc (b:=(y1 != 0)) (by simp) (fun c1=>?_) (fun c1=>?_)
 ·rw[if_pos c1] at h0
  refine kr [4,5] (by simp;rfl) ?_
  cases h0
  exact trr ⟨[],by simp,rfl,by simp⟩
 ·rw[if_neg (by rw[c1];decide)] at h0
  refine trk ?_
  refine kc ?_
  refine ko [1,12] 1 (by simp;rfl) ?_
  replace h0:=bnd h0;obtain⟨y2,hy2,h0⟩:=h0
  refine kcall [1,13] [] (rYFirst_ok hy2) rfl rfl rfl Tryz.call60 (by simp) (by simp;rfl) ?_
  refine ko [6,7] 7 (by simp;rfl) ?_
  refine tpN ?_
  refine kr [4,5] (by simp;rfl) ?_
  cases h0
  exact trr ⟨[],by simp,rfl,by simp⟩
theorem rYFind_ok {a0:zR} {a1:Int} {r:zO×Bool} (h0:rYFind a0 a1=some r):FnOK Tryz.prog 23 [] [.agg (zRa a0),.d (.int .i64 a1)] (.tup [.agg (zOa r.1),.d (.bool r.2)]) []:=by
 unfold rYFind at h0
 refine fn_ok (nt:=16) (rs:=[.cell 4 47,.tmp 5]) Tryz.func23 rfl Tryz.ntmps23 rfl (by simp) (by decide) rfl fun K=>?_
 refine kr [1,2,4] (by simp;rfl) ?_
 refine trq ?_
 refine kc ?_
 refine ko [1,2,4,6] 1 (by simp;rfl) ?_
 replace h0:=bnd h0;obtain⟨y1,hy1,h0⟩:=h0
 refine kcall [1,2,4,7] [] (rYValid_ok hy1) rfl rfl rfl Tryz.call8 (by simp) (by simp;rfl) ?_
 refine ko [1,2,4,8] 1 (by simp;rfl) ?_
 refine tpN ?_
 refine trc (b:=(y1 != 0)) (by simp) (fun c1=>?_) (fun c1=>?_)
 ·rw[if_pos c1] at h0
  refine kr [4,5] (by simp;rfl) ?_
  cases h0
  exact trr ⟨[],by simp,rfl,by simp⟩
 ·rw[if_neg (by rw[c1];decide)] at h0
  refine trk ?_
  refine kc ?_
  refine ko [4,11,12] 3 (by simp;rfl) ?_
  replace h0:=bnd h0;obtain⟨y2,hy2,h0⟩:=h0
  refine kcall [4,13] [] (rYfind_ok hy2) rfl rfl rfl Tryz.call62 (by simp) (by simp;rfl) ?_
  refine ko [4,5] 4 (by simp;rfl) ?_
  refine tpN ?_
  cases h0
  exact trr ⟨[],by simp,rfl,by simp⟩
theorem lYHistoryReaches_ok {a0:List Int} {a1:zR} {a2:Int} {a3:Int} {r:Bool} (h0:lYHistoryReaches a0 a1 a2 a3=some r):FnOK Tryz.prog 3 [] [.d (.slice (rowsF (iRow .i64) a0)),.agg (zRa a1),.d (.int .i64 a2),.d (.int .i64 a3)] (.d (.bool r)) []:=by
 unfold lYHistoryReaches at h0
 refine fn_ok (nt:=170) (rs:=[.tmp 8]) Tryz.func3 rfl Tryz.ntmps3 rfl (by simp) (by decide) rfl fun K=>?_
 refine kr [0,2,3,5] (by simp;rfl) ?_
 refine kr [2,3,5,9] (by simp;rfl) ?_
 refine kc ?_
 refine ko [2,3,5,9,28] 1 (by simp;rfl) ?_
 replace h0:=bnd h0;obtain⟨y1,hy1,h0⟩:=h0
 refine kcall [2,3,5,9,29] [27] (mYRepository_ok hy1) rfl rfl rfl Tryz.call4 (by simp) (by simp;rfl) ?_
 refine ko [2,3,5,9,10] 2 (by simp;rfl) ?_
 refine tpN ?_
 refine trq ?_
 refine kd [[],[],[],[],[2,3],[],[],[4,5,6],[0,1,4,7],[8],[]] [4,7] [(27,[4,7])] none [] 11 fol (by decide +kernel) (by simp) ?_
 refine dr_go 0 2 rfl (by simp (maxSteps:=1000000);rfl) ?_
 refine dr_go 2 2 rfl (by simp (maxSteps:=1000000);rfl) ?_
 replace h0:=bnd h0;obtain⟨y2,hy2,h0⟩:=h0
 refine dr_call 4 [27] (lYbent_ok hy2) rfl rfl rfl rfl rfl Tryz.call5 (by simp) ?_
 refine dr_go 5 2 rfl (by simp (maxSteps:=1000000);rfl) ?_
 replace h0:=bnd h0;obtain⟨y3,hy3,h0⟩:=h0
 refine dr_call 7 [27] (lYbent_ok hy3) rfl rfl rfl rfl rfl Tryz.call5 (by simp) ?_
 refine dr_go 8 2 rfl (by simp (maxSteps:=1000000);rfl) ?_
 refine dr_go 10 1 rfl (by simp (maxSteps:=1000000);rfl) ?_
 refine dr_end rfl (tpN ?_)
 replace h0:=bnd h0;obtain⟨l4,hl4,h0⟩:=h0
 replace hl4:=Option.some.inj hl4
 replace h0:=bnd h0;obtain⟨e1,hI1,h0⟩:=h0
 refine tjv (fun v5:Unit=>({ nt:=170,env:=[],box:=[],vec:=[]}:St)) (fun v5=>.inl v5=e1) (fun v5 hI1e _ W1=>?_) ?_
 ·subst hI1e
  dsimp only at h0
  refine tr_wk W1 ?_
  refine kc ?_
  replace h0:=bnd h0;obtain⟨y6,hy6,h0⟩:=h0
  refine kcall [169] [] (lYawake_ok hy6) rfl rfl rfl Tryz.call24 (by simp) (by simp;rfl) ?_
  refine ko [8] 1 (by simp;rfl) ?_
  refine tpN ?_
  cases h0
  exact trr ⟨[],by simp,rfl,by simp⟩
 ·refine trb (tr_iter (fun s7:Int×(List Int)×Int=>({ nt:=170,env:=[(2,.d (.int .i64 a2)),(3,.d (.int .i64 a3)),(9,.ptr 27 0),(38,.d (.slice (rowsF zRr l4))),(39,.d (.int .i64 (([a1,y1.1,y2.1,y3.1]).length:Int))),(40,.d (.int .i64 s7.1))],box:=[(27,[.d (.slice (rowsF (iRow .i64) s7.2.1)),.d (.int .i64 s7.2.2)])],vec:=[]}:St)) hI1 (wk (by subst hl4;simp[wkI])) fun G1 s7 o1 h1 hg1 he1=>?_)
  unfold lYHistoryReaches_l0 at h1
  refine kr [2,3,9,38,39,40,41] (by simp;rfl) ?_
  refine trq ?_
  refine trc (b:=(decide (s7.1 < (([a1,y1.1,y2.1,y3.1]).length:Int)))) (by simp) (fun c73=>?_) (fun c73=>?_)
  ·rw[if_pos c73] at h1
   refine trk ?_
   refine trq ?_
   refine trb ?_
   replace h1:=bnd h1;obtain⟨x8,p19,h1⟩:=h1
   replace p19:=idx_some p19
   have p19':=p19;try simp at p19'
   refine kr [2,3,9,12,38,39,40] (by simp[p19,p19'];rfl) ?_
   refine trq ?_
   refine kc ?_
   refine ko [2,3,9,12,38,39,40,44] 1 (by simp;rfl) ?_
   replace h1:=bnd h1;obtain⟨y9,hy9,h1⟩:=h1
   refine kcall [2,3,9,12,38,39,40,45] [] (lYfew_ok hy9) rfl rfl rfl Tryz.call6 (by simp) (by simp;rfl) ?_
   refine ko [2,3,9,12,38,39,40,46] 1 (by simp;rfl) ?_
   refine tpN ?_
   refine trc (b:=(!y9)) (by simp) (fun c74=>?_) (fun c74=>?_)
   ·rw[if_pos c74] at h1
    refine tr_exit ?_
    refine lr (by simp;rfl) ?_
    exact⟨_,hg1 _ (Option.some.inj h1),wk (by simp[wkI])⟩
   ·rw[if_neg (by rw[c74];decide)] at h1
    refine trk ?_
    refine trq ?_
    replace h1:=bnd h1;obtain⟨v10,hvv10,h1⟩:=h1
    refine sjv (fun v10_:Bool=>({ nt:=170,env:=[(2,.d (.int .i64 a2)),(3,.d (.int .i64 a3)),(9,.ptr 27 0),(12,.ptr 12 0),(38,.d (.slice (rowsF zRr l4))),(39,.d (.int .i64 (([a1,y1.1,y2.1,y3.1]).length:Int))),(40,.d (.int .i64 s7.1)),(59,.d (.bool v10_))],box:=[(12,[.d (.slice (rowsF zOr x8.Objects)),.d (.slice (rowsF zEr x8.Events))]),(27,[.d (.slice (rowsF (iRow .i64) s7.2.1)),.d (.int .i64 s7.2.2)])],vec:=[]}:St)) (fun v10_=>v10=v10_) (fun v10_ e=>?_) ?_
    ·subst e
     refine trc (b:=v10) (by simp) (fun c81=>?_) (fun c81=>?_)
     ·rw[if_pos c81] at h1
      refine kr [8] (by simp;rfl) ?_
      have k1:=he1 _ (Option.some.inj h1)
      subst k1
      dsimp only at h0
      cases h0
      exact trr ⟨[],by simp,rfl,by simp⟩
     ·rw[if_neg (by rw[c81];decide)] at h1
      refine trk ?_
      refine trq ?_
      refine kc ?_
      refine ko [2,3,9,12,38,39,40,60,61] 2 (by simp;rfl) ?_
      replace h1:=bnd h1;obtain⟨y11,hy11,h1⟩:=h1
      refine kcall [2,3,9,12,38,39,40,60,62] [27] (zT_Next_ok hy11) rfl rfl rfl Tryz.call12 (by simp) (by simp;rfl) ?_
      refine ko [2,3,9,12,38,39,40,63,64,65] 3 (by simp;rfl) ?_
      refine tpN ?_
      replace h1:=bnd h1;obtain⟨l12,hl12,h1⟩:=h1
      replace hl12:=Option.some.inj hl12
      replace h1:=bnd h1;obtain⟨e2,hI2,h1⟩:=h1
      refine tjv (fun v13:Unit=>({ nt:=170,env:=[(2,.d (.int .i64 a2)),(3,.d (.int .i64 a3)),(9,.ptr 27 0),(12,.ptr 12 0),(38,.d (.slice (rowsF zRr l4))),(39,.d (.int .i64 (([a1,y1.1,y2.1,y3.1]).length:Int))),(40,.d (.int .i64 s7.1))],box:=[(12,[.d (.slice (rowsF zOr x8.Objects)),.d (.slice (rowsF zEr x8.Events))]),(27,[.d (.slice (rowsF (iRow .i64) y11.2.L)),.d (.int .i64 y11.2.at_)])],vec:=[]}:St)) (fun v13=>.inl v13=e2) (fun v13 hI2e _ W2=>?_) ?_
      ·subst hI2e
       dsimp only at h1
       refine tr_wk W2 ?_
       refine kc ?_
       refine ko [2,3,9,12,38,39,40,98,99] 2 (by simp;rfl) ?_
       replace h1:=bnd h1;obtain⟨y14,hy14,h1⟩:=h1
       refine kcall [2,3,9,12,38,39,40,98,100] [27] (zT_Next_ok hy14) rfl rfl rfl Tryz.call12 (by simp) (by simp;rfl) ?_
       refine ko [2,3,9,12,38,39,40,101,102,103] 3 (by simp;rfl) ?_
       refine tpN ?_
       replace h1:=bnd h1;obtain⟨l15,hl15,h1⟩:=h1
       replace hl15:=Option.some.inj hl15
       replace h1:=bnd h1;obtain⟨e3,hI3,h1⟩:=h1
       refine tjv (fun v16:Unit=>({ nt:=170,env:=[(2,.d (.int .i64 a2)),(3,.d (.int .i64 a3)),(9,.ptr 27 0),(38,.d (.slice (rowsF zRr l4))),(39,.d (.int .i64 (([a1,y1.1,y2.1,y3.1]).length:Int))),(40,.d (.int .i64 s7.1))],box:=[(27,[.d (.slice (rowsF (iRow .i64) y14.2.L)),.d (.int .i64 y14.2.at_)])],vec:=[]}:St)) (fun v16=>.inl v16=e3) (fun v16 hI3e _ W3=>?_) ?_
       ·subst hI3e
        dsimp only at h1
        refine tr_wk W3 ?_
        refine lr (by simp;rfl) ?_
        exact⟨_,hg1 _ (Option.some.inj h1),wk (by simp[wkI])⟩
       ·refine trb (tr_iter (fun s17:Int=>({ nt:=170,env:=[(2,.d (.int .i64 a2)),(3,.d (.int .i64 a3)),(9,.ptr 27 0),(12,.ptr 12 0),(38,.d (.slice (rowsF zRr l4))),(39,.d (.int .i64 (([a1,y1.1,y2.1,y3.1]).length:Int))),(40,.d (.int .i64 s7.1)),(101,.vec 101),(102,.d (.int .i64 (([a3,y14.1]).length:Int))),(103,.d (.int .i64 s17))],box:=[(12,[.d (.slice (rowsF zOr x8.Objects)),.d (.slice (rowsF zEr x8.Events))]),(27,[.d (.slice (rowsF (iRow .i64) y14.2.L)),.d (.int .i64 y14.2.at_)])],vec:=[(101,⟨3,1,rowsF (iRow .i64) l15⟩)]}:St)) hI3 (wk (by subst hl15;simp[wkI])) fun G3 s17 o3 h3 hg3 he3=>?_)
        unfold lYHistoryReaches_l2 at h3
        refine kr [2,3,9,12,38,39,40,101,102,103,104] (by simp;rfl) ?_
        refine trq ?_
        refine trc (b:=(decide (s17 < (([a3,y14.1]).length:Int)))) (by simp) (fun c112=>?_) (fun c112=>?_)
        ·rw[if_pos c112] at h3
         refine trk ?_
         refine trq ?_
         refine trb ?_
         replace h3:=bnd h3;obtain⟨_,p28,h3⟩:=h3
         replace p28:=ck_some p28
         have p28':=p28;try simp at p28'
         have p28o:s17 < (((l15)).length:Int):=by omega
         replace h3:=bnd h3;obtain⟨x18,p29,h3⟩:=h3
         replace p29:=idx_some p29
         have p29':=p29;try simp at p29'
         refine kr [2,3,9,12,16,38,39,40,101,102,103] (by simp[-getElem?_pos,List.getElem?_cons_zero,List.getElem?_cons_succ,p28,p28o,p29,p28',p29'];rfl) ?_
         refine kc ?_
         refine ko [2,3,9,12,16,38,39,40,101,102,103,108,109] 2 (by simp;rfl) ?_
         replace h3:=bnd h3;obtain⟨y19,hy19,h3⟩:=h3
         refine kcall [2,3,9,12,16,38,39,40,101,102,103,110] [] (hYSince_ok hy19) rfl rfl rfl Tryz.call20 (by simp) (by simp;rfl) ?_
         refine ko [2,3,9,12,16,17,18,38,39,40,101,102,103] 5 (by simp;rfl) ?_
         refine tpN ?_
         refine kc ?_
         refine ko [2,3,9,12,16,17,18,38,39,40,101,102,103,114,115] 2 (by simp;rfl) ?_
         replace h3:=bnd h3;obtain⟨y20,hy20,h3⟩:=h3
         refine kcall [2,3,9,12,16,17,18,38,39,40,101,102,103,116] [] (rYSince_ok hy20) rfl rfl rfl Tryz.call21 (by simp) (by simp;rfl) ?_
         refine ko [2,3,9,12,16,17,18,19,20,38,39,40,101,102,103] 5 (by simp;rfl) ?_
         refine tpN ?_
         refine kc ?_
         refine ko [2,3,9,12,16,17,18,19,20,38,39,40,101,102,103,120,121] 2 (by simp;rfl) ?_
         replace h3:=bnd h3;obtain⟨y21,hy21,h3⟩:=h3
         refine kcall [2,3,9,12,16,17,18,19,20,38,39,40,101,102,103,122] [] (hYFind_ok hy21) rfl rfl rfl Tryz.call22 (by simp) (by simp;rfl) ?_
         refine ko [2,3,9,12,16,17,18,19,20,21,22,38,39,40,101,102,103] 6 (by simp;rfl) ?_
         refine tpN ?_
         refine kc ?_
         refine ko [2,3,9,12,17,18,19,20,21,22,38,39,40,101,102,103,126,127] 2 (by simp;rfl) ?_
         replace h3:=bnd h3;obtain⟨y22,hy22,h3⟩:=h3
         refine kcall [2,3,9,12,17,18,19,20,21,22,38,39,40,101,102,103,128] [] (rYFind_ok hy22) rfl rfl rfl Tryz.call23 (by simp) (by simp;rfl) ?_
         refine ko [2,3,9,12,17,18,19,20,21,22,23,24,38,39,40,101,102,103] 6 (by simp;rfl) ?_
         refine tpN ?_
         replace h3:=bnd h3;obtain⟨v23,hvv23,h3⟩:=h3
         refine sjv (fun v23_:Bool=>({ nt:=170,env:=[(2,.d (.int .i64 a2)),(3,.d (.int .i64 a3)),(9,.ptr 27 0),(12,.ptr 12 0),(38,.d (.slice (rowsF zRr l4))),(39,.d (.int .i64 (([a1,y1.1,y2.1,y3.1]).length:Int))),(40,.d (.int .i64 s7.1)),(101,.vec 101),(102,.d (.int .i64 (([a3,y14.1]).length:Int))),(103,.d (.int .i64 s17)),(166,.d (.bool v23_))],box:=[(12,[.d (.slice (rowsF zOr x8.Objects)),.d (.slice (rowsF zEr x8.Events))]),(27,[.d (.slice (rowsF (iRow .i64) y14.2.L)),.d (.int .i64 y14.2.at_)])],vec:=[(101,⟨3,1,rowsF (iRow .i64) l15⟩)]}:St)) (fun v23_=>v23=v23_) (fun v23_ e=>?_) ?_
         ·subst e
          refine trc (b:=v23) (by simp) (fun c123=>?_) (fun c123=>?_)
          ·rw[if_pos c123] at h3
           refine kr [8] (by simp;rfl) ?_
           have k2:=he3 _ (Option.some.inj h3)
           subst k2
           dsimp only at h1
           have k1:=he1 _ (Option.some.inj h1)
           subst k1
           dsimp only at h0
           cases h0
           exact trr ⟨[],by simp,rfl,by simp⟩
          ·rw[if_neg (by rw[c123];decide)] at h3
           refine trk ?_
           refine lr (by simp;rfl) ?_
           exact⟨_,hg3 _ (Option.some.inj h3),wk (by simp[wkI])⟩
         ·refine kc1 ?_
          refine ko [2,3,9,12,18,20,21,22,23,24,38,39,40,101,102,103,134] 4 (by simp;rfl) ?_
          refine tops_split 134 (y19.1 != y20.1) (by simp) (fun c124=>?_) (fun c124=>?_)
          ·rw[c124] at hvv23
           refine kskip 3 [] (by kernel_rfl) ?_
           refine ko [2,3,9,12,21,22,23,24,38,39,40,101,102,103,139] 2 (by simp;rfl) ?_
           refine kskip 3 [] (by kernel_rfl) ?_
           refine ko [2,3,9,12,21,23,38,39,40,101,102,103,144] 2 (by simp;rfl) ?_
           refine kskip 5 [] (by kernel_rfl) ?_
           refine ko [2,3,9,12,21,23,38,39,40,101,102,103,151] 2 (by simp;rfl) ?_
           refine kskip 5 [] (by kernel_rfl) ?_
           refine ko [2,3,9,12,21,23,38,39,40,101,102,103,158] 2 (by simp;rfl) ?_
           refine kskip 7 [] (by kernel_rfl) ?_
           refine ko [2,3,9,12,38,39,40,101,102,103,166] 1 (by simp;rfl) ?_
           refine tpN ?_
           cases hvv23
           exact⟨_,rfl,wk (by simp[wkI])⟩
          ·rw[c124] at hvv23
           refine ko [2,3,9,12,21,22,23,24,38,39,40,101,102,103,135,136,137,139] 5 (by simp;rfl) ?_
           refine tops_split 139 (y19.2 != y20.2) (by simp) (fun c125=>?_) (fun c125=>?_)
           ·rw[c125] at hvv23
            refine kskip 3 [] (by kernel_rfl) ?_
            refine ko [2,3,9,12,21,23,38,39,40,101,102,103,135,136,137,144] 2 (by simp;rfl) ?_
            refine kskip 5 [] (by kernel_rfl) ?_
            refine ko [2,3,9,12,21,23,38,39,40,101,102,103,135,136,137,151] 2 (by simp;rfl) ?_
            refine kskip 5 [] (by kernel_rfl) ?_
            refine ko [2,3,9,12,21,23,38,39,40,101,102,103,135,136,137,158] 2 (by simp;rfl) ?_
            refine kskip 7 [] (by kernel_rfl) ?_
            refine ko [2,3,9,12,38,39,40,101,102,103,135,136,137,166] 1 (by simp;rfl) ?_
            refine tpN ?_
            cases hvv23
            exact⟨_,rfl,wk (by simp[wkI])⟩
           ·rw[c125] at hvv23
            refine ko [2,3,9,12,21,23,38,39,40,101,102,103,135,136,137,140,141,142,144] 5 (by simp;rfl) ?_
            refine tops_split 144 (y21.2 != y22.2) (by simp) (fun c126=>?_) (fun c126=>?_)
            ·rw[c126] at hvv23
             refine kskip 5 [] (by kernel_rfl) ?_
             refine ko [2,3,9,12,21,23,38,39,40,101,102,103,135,136,137,140,141,142,151] 2 (by simp;rfl) ?_
             refine kskip 5 [] (by kernel_rfl) ?_
             refine ko [2,3,9,12,21,23,38,39,40,101,102,103,135,136,137,140,141,142,158] 2 (by simp;rfl) ?_
             refine kskip 7 [] (by kernel_rfl) ?_
             refine ko [2,3,9,12,38,39,40,101,102,103,135,136,137,140,141,142,166] 1 (by simp;rfl) ?_
             refine tpN ?_
             cases hvv23
             exact⟨_,rfl,wk (by simp[wkI])⟩
            ·rw[c126] at hvv23
             refine ko [2,3,9,12,21,23,38,39,40,101,102,103,135,136,137,140,141,142,145,146,147,148,149,151] 7 (by simp;rfl) ?_
             refine tops_split 151 (y21.1.ID != y22.1.ID) (by simp) (fun c127=>?_) (fun c127=>?_)
             ·rw[c127] at hvv23
              refine kskip 5 [] (by kernel_rfl) ?_
              refine ko [2,3,9,12,21,23,38,39,40,101,102,103,135,136,137,140,141,142,145,146,147,148,149,158] 2 (by simp;rfl) ?_
              refine kskip 7 [] (by kernel_rfl) ?_
              refine ko [2,3,9,12,38,39,40,101,102,103,135,136,137,140,141,142,145,146,147,148,149,166] 1 (by simp;rfl) ?_
              refine tpN ?_
              cases hvv23
              exact⟨_,rfl,wk (by simp[wkI])⟩
             ·rw[c127] at hvv23
              refine ko [2,3,9,12,21,23,38,39,40,101,102,103,135,136,137,140,141,142,145,146,147,148,149,152,153,154,155,156,158] 7 (by simp;rfl) ?_
              refine tops_split 158 (y21.1.Kind != y22.1.Kind) (by simp) (fun c128=>?_) (fun c128=>?_)
              ·rw[c128] at hvv23
               refine kskip 7 [] (by kernel_rfl) ?_
               refine ko [2,3,9,12,38,39,40,101,102,103,135,136,137,140,141,142,145,146,147,148,149,152,153,154,155,156,166] 1 (by simp;rfl) ?_
               refine tpN ?_
               cases hvv23
               exact⟨_,rfl,wk (by simp[wkI])⟩
              ·rw[c128] at hvv23
               refine ko [2,3,9,12,23,38,39,40,101,102,103,135,136,137,140,141,142,145,146,147,148,149,152,153,154,155,156,158,159,160] 2 (by simp;rfl) ?_
               refine kbts (ns:=y21.1.Data) [2,3,9,12,23,38,39,40,101,102,103,135,136,137,140,141,142,145,146,147,148,149,152,153,154,155,156,158,159,160,161] rfl rfl Tryz.underlying45 Tryz.underlying5 Tryz.underlying9 (by simp <;> rfl) (by simp;rfl) ?_
               refine ko [2,3,9,12,38,39,40,101,102,103,135,136,137,140,141,142,145,146,147,148,149,152,153,154,155,156,158,159,160,161,162,163] 2 (by simp;rfl) ?_
               refine kbts (ns:=y22.1.Data) [2,3,9,12,38,39,40,101,102,103,135,136,137,140,141,142,145,146,147,148,149,152,153,154,155,156,158,159,160,161,162,163,164] rfl rfl Tryz.underlying45 Tryz.underlying5 Tryz.underlying9 (by simp <;> rfl) (by simp;rfl) ?_
               refine ko [2,3,9,12,38,39,40,101,102,103,135,136,137,140,141,142,145,146,147,148,149,152,153,154,155,156,159,160,161,162,163,164,165,166] 2 (by simp;rfl) ?_
               refine tpN ?_
               cases hvv23
               exact⟨_,rfl,wk (by simp[wkI])⟩
        ·rw[if_neg (by rw[c112];decide)] at h3
         refine tr_exit ?_
         exact⟨_,he3 _ (Option.some.inj h3),wk (by simp[wkI])⟩
      ·refine trb (tr_iter (fun s26:Int=>({ nt:=170,env:=[(2,.d (.int .i64 a2)),(3,.d (.int .i64 a3)),(9,.ptr 27 0),(12,.ptr 12 0),(38,.d (.slice (rowsF zRr l4))),(39,.d (.int .i64 (([a1,y1.1,y2.1,y3.1]).length:Int))),(40,.d (.int .i64 s7.1)),(63,.vec 63),(64,.d (.int .i64 (([a2,y11.1,1099511627776]).length:Int))),(65,.d (.int .i64 s26))],box:=[(12,[.d (.slice (rowsF zOr x8.Objects)),.d (.slice (rowsF zEr x8.Events))]),(27,[.d (.slice (rowsF (iRow .i64) y11.2.L)),.d (.int .i64 y11.2.at_)])],vec:=[(63,⟨3,1,rowsF (iRow .i64) l12⟩)]}:St)) hI2 (wk (by subst hl12;simp[wkI])) fun G3 s26 o3 h3 hg3 he3=>?_)
       unfold lYHistoryReaches_l1 at h3
       refine kr [2,3,9,12,38,39,40,63,64,65,66] (by simp;rfl) ?_
       refine trq ?_
       refine trc (b:=(decide (s26 < (([a2,y11.1,1099511627776]).length:Int)))) (by simp) (fun c129=>?_) (fun c129=>?_)
       ·rw[if_pos c129] at h3
        refine trk ?_
        refine trq ?_
        refine trb ?_
        replace h3:=bnd h3;obtain⟨_,p30,h3⟩:=h3
        replace p30:=ck_some p30
        have p30':=p30;try simp at p30'
        have p30o:s26 < (((l12)).length:Int):=by omega
        replace h3:=bnd h3;obtain⟨x27,p31,h3⟩:=h3
        replace p31:=idx_some p31
        have p31':=p31;try simp at p31'
        refine kr [2,3,9,12,14,38,39,40,63,64,65] (by simp[-getElem?_pos,List.getElem?_cons_zero,List.getElem?_cons_succ,p30,p30o,p31,p30',p31'];rfl) ?_
        replace h3:=bnd h3;obtain⟨v28,hvv28,h3⟩:=h3
        refine sjv (fun v28_:Bool=>({ nt:=170,env:=[(2,.d (.int .i64 a2)),(3,.d (.int .i64 a3)),(9,.ptr 27 0),(12,.ptr 12 0),(38,.d (.slice (rowsF zRr l4))),(39,.d (.int .i64 (([a1,y1.1,y2.1,y3.1]).length:Int))),(40,.d (.int .i64 s7.1)),(63,.vec 63),(64,.d (.int .i64 (([a2,y11.1,1099511627776]).length:Int))),(65,.d (.int .i64 s26)),(96,.d (.bool v28_))],box:=[(12,[.d (.slice (rowsF zOr x8.Objects)),.d (.slice (rowsF zEr x8.Events))]),(27,[.d (.slice (rowsF (iRow .i64) y11.2.L)),.d (.int .i64 y11.2.at_)])],vec:=[(63,⟨3,1,rowsF (iRow .i64) l12⟩)]}:St)) (fun v28_=>v28=v28_) (fun v28_ e=>?_) ?_
        ·subst e
         refine trc (b:=v28) (by simp) (fun c142=>?_) (fun c142=>?_)
         ·rw[if_pos c142] at h3
          refine kr [8] (by simp;rfl) ?_
          have k2:=he3 _ (Option.some.inj h3)
          subst k2
          dsimp only at h1
          have k1:=he1 _ (Option.some.inj h1)
          subst k1
          dsimp only at h0
          cases h0
          exact trr ⟨[],by simp,rfl,by simp⟩
         ·rw[if_neg (by rw[c142];decide)] at h3
          refine trk ?_
          refine lr (by simp;rfl) ?_
          exact⟨_,hg3 _ (Option.some.inj h3),wk (by simp[wkI])⟩
        ·refine kd1 [[],[],[0,1],[],[],[3,4],[2,5],[6],[7],[8],[8],[8,9,10],[8],[8],[8,12,13],[8,11,14],[8,15],[8,16],[17],[18],[18],[18,19,20],[18],[18],[18,22,23],[18,21,24],[18,25],[18,26]] [] [] none [] 28 fol (by decide +kernel) (by simp) ?_
         refine dr_go 0 2 rfl (by simp (maxSteps:=1000000);rfl) ?_
         replace hvv28:=bnd hvv28;obtain⟨y29,hy29,hvv28⟩:=hvv28
         refine dr_call 2 [] (hYRefs_ok hy29) rfl rfl rfl rfl rfl Tryz.call14 (by simp) ?_
         refine dr_go 3 2 rfl (by simp (maxSteps:=1000000);rfl) ?_
         replace hvv28:=bnd hvv28;obtain⟨y30,hy30,hvv28⟩:=hvv28
         refine dr_call 5 [] (rYRefs_ok hy30) rfl rfl rfl rfl rfl Tryz.call15 (by simp) ?_
         replace hvv28:=bnd hvv28;obtain⟨y31,hy31,hvv28⟩:=hvv28
         refine dr_call 6 [] (rYItems_ok hy31) rfl rfl rfl rfl rfl Tryz.call13 (by simp) ?_
         refine dr_go 7 2 rfl (by simp (maxSteps:=1000000);rfl) ?_
         refine dr_split 8 77 (!y31) (by simp) (fun c147=>?_) (fun c147=>?_)
         ·rw[if_pos c147] at hvv28
          refine dr_skip 9 170 [some 78,some 79,some 80,some 81,some 82,some 83,some 84,some 85] rfl rfl (by decide) (by kernel_rfl) (by simp only[skEf,List.map_cons,List.map_nil,List.cons_append,List.nil_append];rfl) ?_
          refine dr_go 17 2 rfl (by simp (maxSteps:=1000000);rfl) ?_
          refine dr_skip 19 170 [some 88,some 89,some 90,some 91,some 92,some 93,some 94,some 95] rfl rfl (by decide) (by kernel_rfl) (by simp only[skEf,List.map_cons,List.map_nil,List.cons_append,List.nil_append];rfl) ?_
          refine dr_go 27 1 rfl (by simp (maxSteps:=1000000);rfl) ?_
          refine dr_end rfl (tpN ?_)
          cases hvv28
          exact⟨_,rfl,wk (by simp[wkI])⟩
         ·rw[if_neg (by rw[c147];decide)] at hvv28
          refine dr_go 9 2 rfl (by simp (maxSteps:=1000000);rfl) ?_
          replace hvv28:=bnd hvv28;obtain⟨y32,hy32,hvv28⟩:=hvv28
          refine dr_call 11 [] (hYReachable_ok hy32) rfl rfl rfl rfl rfl Tryz.call16 (by simp) ?_
          refine dr_go 12 2 rfl (by simp (maxSteps:=1000000);rfl) ?_
          replace hvv28:=bnd hvv28;obtain⟨y33,hy33,hvv28⟩:=hvv28
          refine dr_call 14 [] (rYReachable_ok hy33) rfl rfl rfl rfl rfl Tryz.call17 (by simp) ?_
          replace hvv28:=bnd hvv28;obtain⟨y34,hy34,hvv28⟩:=hvv28
          refine dr_call 15 [] (rYInts_ok hy34) rfl rfl rfl rfl rfl Tryz.call9 (by simp) ?_
          refine dr_go 16 2 rfl (by simp (maxSteps:=1000000);rfl) ?_
          refine dr_go 18 1 rfl (by simp (maxSteps:=1000000);rfl) ?_
          refine dr_split 18 87 (!y34) (by simp) (fun c148=>?_) (fun c148=>?_)
          ·rw[if_pos c148] at hvv28
           refine dr_skip 19 170 [some 88,some 89,some 90,some 91,some 92,some 93,some 94,some 95] rfl rfl (by decide) (by kernel_rfl) (by simp only[skEf,List.map_cons,List.map_nil,List.cons_append,List.nil_append];rfl) ?_
           refine dr_go 27 1 rfl (by simp (maxSteps:=1000000);rfl) ?_
           refine dr_end rfl (tpN ?_)
           cases hvv28
           exact⟨_,rfl,wk (by simp[wkI])⟩
          ·rw[if_neg (by rw[c148];decide)] at hvv28
           refine dr_go 19 2 rfl (by simp (maxSteps:=1000000);rfl) ?_
           replace hvv28:=bnd hvv28;obtain⟨y35,hy35,hvv28⟩:=hvv28
           refine dr_call 21 [] (hYLost_ok hy35) rfl rfl rfl rfl rfl Tryz.call18 (by simp) ?_
           refine dr_go 22 2 rfl (by simp (maxSteps:=1000000);rfl) ?_
           replace hvv28:=bnd hvv28;obtain⟨y36,hy36,hvv28⟩:=hvv28
           refine dr_call 24 [] (rYLost_ok hy36) rfl rfl rfl rfl rfl Tryz.call19 (by simp) ?_
           replace hvv28:=bnd hvv28;obtain⟨y37,hy37,hvv28⟩:=hvv28
           refine dr_call 25 [] (rYInts_ok hy37) rfl rfl rfl rfl rfl Tryz.call9 (by simp) ?_
           refine dr_go 26 2 rfl (by simp (maxSteps:=1000000);rfl) ?_
           refine dr_end rfl (tpN ?_)
           cases hvv28
           exact⟨_,rfl,wk (by simp[wkI])⟩
       ·rw[if_neg (by rw[c129];decide)] at h3
        refine tr_exit ?_
        exact⟨_,he3 _ (Option.some.inj h3),wk (by simp[wkI])⟩
    ·refine kd1 [[],[0],[],[2],[1,3],[4],[5],[5,6],[5],[5,8],[5,7,9],[5,10],[5,11]] [] [] none [] 13 fol (by decide +kernel) (by simp) ?_
     refine dr_go 0 1 rfl (by simp (maxSteps:=1000000);rfl) ?_
     replace hvv10:=bnd hvv10;obtain⟨y40,hy40,hvv10⟩:=hvv10
     refine dr_call 1 [] (hYValid_ok hy40) rfl rfl rfl rfl rfl Tryz.call7 (by simp) ?_
     refine dr_go 2 1 rfl (by simp (maxSteps:=1000000);rfl) ?_
     replace hvv10:=bnd hvv10;obtain⟨y41,hy41,hvv10⟩:=hvv10
     refine dr_call 3 [] (rYValid_ok hy41) rfl rfl rfl rfl rfl Tryz.call8 (by simp) ?_
     refine dr_go 4 2 rfl (by simp (maxSteps:=1000000);rfl) ?_
     refine dr_split 5 52 (y40 != y41) (by simp) (fun c151=>?_) (fun c151=>?_)
     ·rw[if_pos c151] at hvv10
      refine dr_skip 6 170 [some 53,some 54,some 55,some 56,some 57,some 58] rfl rfl (by decide) (by kernel_rfl) (by simp only[skEf,List.map_cons,List.map_nil,List.cons_append,List.nil_append];rfl) ?_
      refine dr_go 12 1 rfl (by simp (maxSteps:=1000000);rfl) ?_
      refine dr_end rfl (tpN ?_)
      cases hvv10
      exact⟨_,rfl,wk (by simp[wkI])⟩
     ·rw[if_neg (by rw[c151];decide)] at hvv10
      refine dr_go 6 1 rfl (by simp (maxSteps:=1000000);rfl) ?_
      replace hvv10:=bnd hvv10;obtain⟨y42,hy42,hvv10⟩:=hvv10
      refine dr_call 7 [] (hYEver_ok hy42) rfl rfl rfl rfl rfl Tryz.call10 (by simp) ?_
      refine dr_go 8 1 rfl (by simp (maxSteps:=1000000);rfl) ?_
      replace hvv10:=bnd hvv10;obtain⟨y43,hy43,hvv10⟩:=hvv10
      refine dr_call 9 [] (rYEver_ok hy43) rfl rfl rfl rfl rfl Tryz.call11 (by simp) ?_
      replace hvv10:=bnd hvv10;obtain⟨y44,hy44,hvv10⟩:=hvv10
      refine dr_call 10 [] (rYInts_ok hy44) rfl rfl rfl rfl rfl Tryz.call9 (by simp) ?_
      refine dr_go 11 2 rfl (by simp (maxSteps:=1000000);rfl) ?_
      refine dr_end rfl (tpN ?_)
      cases hvv10
      exact⟨_,rfl,wk (by simp[wkI])⟩
  ·rw[if_neg (by rw[c73];decide)] at h1
   refine tr_exit ?_
   exact⟨_,he1 _ (Option.some.inj h1),wk (by simp[wkI])⟩
end Go.Vl
