/- Walks: each function of the given program computes what its mirror says. Conditions: none. -/
import Derived.Test.YtjnflahicimmlaaGreatGBx
import Derived.Test.YtjnflahicimmlaaGreatVmQq
import Derived.Test.YtjnflahicimmlaaGreatVmLz
import Derived.Test.YtjnflahicimmlaaGreatGq
import Derived.Test.YtjnflahicimmlaaGreatTyG
import Derived.Test.YtjnflahicimmlaaGreatGAx
import Derived.Test.YtjnflahicimmlaaGreatGzz
set_option maxHeartbeats 1000000
set_option linter.unusedSimpArgs false
set_option linter.unusedVariables false
namespace Go.Vl
open Go Go.Proofs
theorem lYfew_ok {a0:zR} {r:Bool} (h0:lYfew a0=some r):FnOK Tryz.prog 6 [] [.agg (zRa a0)] (.d (.bool r)) []:=by
 unfold lYfew at h0
 refine fn_ok (nt:=13) (rs:=[.tmp 2]) Tryz.func6 rfl Tryz.ntmps6 rfl (by simp) (by decide) rfl fun K=>?_
 refine kr [1] (by simp;rfl) ?_
 replace h0:=bnd h0;obtain⟨v1,hvv1,h0⟩:=h0
 refine sjv (fun v1_:Bool=>({ nt:=13,env:=[(2,.d (.bool v1_))],box:=[],vec:=[]}:St)) (fun v1_=>v1=v1_) (fun v1_ e=>?_) ?_
 ·subst e
  cases h0
  exact trr ⟨[],by simp,rfl,by simp⟩
 ·refine kc1 ?_
  refine ko [1,7] 5 (by simp;rfl) ?_
  refine tops_split 7 (decide (((a0.Objects).length:Int)≤20)) (by simp) (fun c3=>?_) (fun c3=>?_)
  ·rw[c3] at hvv1
   refine ko [2] 6 (by simp;rfl) ?_
   refine tpN ?_
   cases hvv1
   exact⟨_,rfl,wk (by simp[wkI])⟩
  ·rw[c3] at hvv1
   refine kskip 4 [] (by kernel_rfl) ?_
   refine ko [2] 2 (by simp;rfl) ?_
   refine tpN ?_
   cases hvv1
   exact⟨_,rfl,wk (by simp[wkI])⟩
theorem qYID_ok {a0:Int} {r:Bool} (h0:qYID a0=some r):FnOK Tryz.prog 75 [] [.d (.int .i64 a0)] (.d (.bool r)) []:=by
 unfold qYID at h0
 refine fn_ok (nt:=9) (rs:=[.tmp 2]) Tryz.func75 rfl Tryz.ntmps75 rfl (by simp) (by decide) rfl fun K=>?_
 refine kr [0] (by simp;rfl) ?_
 replace h0:=bnd h0;obtain⟨v1,hvv1,h0⟩:=h0
 refine sjv (fun v1_:Bool=>({ nt:=9,env:=[(2,.d (.bool v1_))],box:=[],vec:=[]}:St)) (fun v1_=>v1=v1_) (fun v1_ e=>?_) ?_
 ·subst e
  cases h0
  exact trr ⟨[],by simp,rfl,by simp⟩
 ·refine kc1 ?_
  refine ko [0,5] 3 (by simp;rfl) ?_
  refine tops_split 5 (decide (1≤a0)) (by simp) (fun c3=>?_) (fun c3=>?_)
  ·rw[c3] at hvv1
   refine ko [2] 4 (by simp;rfl) ?_
   refine tpN ?_
   cases hvv1
   exact⟨_,rfl,wk (by simp[wkI])⟩
  ·rw[c3] at hvv1
   refine ko [2] 4 (by simp;rfl) ?_
   refine tpN ?_
   cases hvv1
   exact⟨_,rfl,wk (by simp[wkI])⟩
theorem qYblob_ok {a0:zO} {r:Bool} (h0:qYblob a0=some r):FnOK Tryz.prog 76 [] [.agg (zOa a0)] (.d (.bool r)) []:=by
 unfold qYblob at h0
 refine fn_ok (nt:=28) (rs:=[.tmp 2]) Tryz.func76 rfl Tryz.ntmps76 rfl (by simp) (by decide) rfl fun K=>?_
 refine kr [1] (by simp;rfl) ?_
 replace h0:=bnd h0;obtain⟨v1,hvv1,h0⟩:=h0
 refine sjv (fun v1_:Bool=>({ nt:=28,env:=[(2,.d (.bool v1_))],box:=[],vec:=[]}:St)) (fun v1_=>v1=v1_) (fun v1_ e=>?_) ?_
 ·subst e
  cases h0
  exact trr ⟨[],by simp,rfl,by simp⟩
 ·refine kc1 ?_
  refine ko [1,7] 5 (by simp;rfl) ?_
  refine tops_split 7 (((a0.Items).length:Int)==0) (by simp) (fun c9=>?_) (fun c9=>?_)
  ·rw[c9] at hvv1
   refine ko [1,12] 5 (by simp;rfl) ?_
   refine tops_split 12 (a0.Tree==0) (by simp) (fun c10=>?_) (fun c10=>?_)
   ·rw[c10] at hvv1
    refine ko [1,18] 6 (by simp;rfl) ?_
    refine tops_split 18 (((a0.Parents).length:Int)==0) (by simp) (fun c11=>?_) (fun c11=>?_)
    ·rw[c11] at hvv1
     refine ko [1,23] 5 (by simp;rfl) ?_
     refine tops_split 23 ((a0.Author).toList==((⟨#[]⟩:ByteArray)).toList) (by simp) (fun c12=>?_) (fun c12=>?_)
     ·rw[c12] at hvv1
      refine ko [2] 5 (by simp;rfl) ?_
      refine tpN ?_
      cases hvv1
      exact⟨_,rfl,wk (by simp[wkI])⟩
     ·rw[c12] at hvv1
      refine kskip 3 [] (by kernel_rfl) ?_
      refine ko [2] 2 (by simp;rfl) ?_
      refine tpN ?_
      cases hvv1
      exact⟨_,rfl,wk (by simp[wkI])⟩
    ·rw[c11] at hvv1
     refine kskip 3 [] (by kernel_rfl) ?_
     refine ko [1,23] 2 (by simp;rfl) ?_
     refine kskip 3 [] (by kernel_rfl) ?_
     refine ko [2] 2 (by simp;rfl) ?_
     refine tpN ?_
     cases hvv1
     exact⟨_,rfl,wk (by simp[wkI])⟩
   ·rw[c10] at hvv1
    refine kskip 4 [] (by kernel_rfl) ?_
    refine ko [1,18] 2 (by simp;rfl) ?_
    refine kskip 3 [] (by kernel_rfl) ?_
    refine ko [1,23] 2 (by simp;rfl) ?_
    refine kskip 3 [] (by kernel_rfl) ?_
    refine ko [2] 2 (by simp;rfl) ?_
    refine tpN ?_
    cases hvv1
    exact⟨_,rfl,wk (by simp[wkI])⟩
  ·rw[c9] at hvv1
   refine kskip 3 [] (by kernel_rfl) ?_
   refine ko [1,12] 2 (by simp;rfl) ?_
   refine kskip 4 [] (by kernel_rfl) ?_
   refine ko [1,18] 2 (by simp;rfl) ?_
   refine kskip 3 [] (by kernel_rfl) ?_
   refine ko [1,23] 2 (by simp;rfl) ?_
   refine kskip 3 [] (by kernel_rfl) ?_
   refine ko [2] 2 (by simp;rfl) ?_
   refine tpN ?_
   cases hvv1
   exact⟨_,rfl,wk (by simp[wkI])⟩
theorem qYName_ok {a0:ByteArray} {r:Bool} (h0:qYName a0=some r):FnOK Tryz.prog 79 [] [.d (.str a0)] (.d (.bool r)) []:=by
 unfold qYName at h0
 refine fn_ok (nt:=34) (rs:=[.tmp 2]) Tryz.func79 rfl Tryz.ntmps79 rfl (by simp) (by decide) rfl fun K=>?_
 refine kr [0] (by simp;rfl) ?_
 refine trq ?_
 refine kr [0,3] (by simp;rfl) ?_
 replace h0:=bnd h0;obtain⟨e1,hI1,h0⟩:=h0
 refine tjv (fun v1:Unit=>({ nt:=34,env:=[(0,.d (.str a0))],box:=[],vec:=[]}:St)) (fun v1=>.inl v1=e1) (fun v1 hI1e _ W1=>?_) ?_
 ·subst hI1e
  dsimp only at h0
  refine tr_wk W1 ?_
  replace h0:=bnd h0;obtain⟨v2,hvv2,h0⟩:=h0
  refine sjv (fun v2_:Bool=>({ nt:=34,env:=[(2,.d (.bool v2_))],box:=[],vec:=[]}:St)) (fun v2_=>v2=v2_) (fun v2_ e=>?_) ?_
  ·subst e
   cases h0
   exact trr ⟨[],by simp,rfl,by simp⟩
  ·refine kc1 ?_
   refine ko [0,29] 4 (by simp;rfl) ?_
   refine tops_split 29 (decide (1≤((a0).size:Int))) (by simp) (fun c11=>?_) (fun c11=>?_)
   ·rw[c11] at hvv2
    refine ko [2] 5 (by simp;rfl) ?_
    refine tpN ?_
    cases hvv2
    exact⟨_,rfl,wk (by simp[wkI])⟩
   ·rw[c11] at hvv2
    refine kskip 3 [] (by kernel_rfl) ?_
    refine ko [2] 2 (by simp;rfl) ?_
    refine tpN ?_
    cases hvv2
    exact⟨_,rfl,wk (by simp[wkI])⟩
 ·refine trb (tr_iter (fun s3:Int=>({ nt:=34,env:=[(0,.d (.str a0)),(3,.d (.int .i64 s3))],box:=[],vec:=[]}:St)) hI1 (wk (by simp[wkI])) fun G1 s3 o1 h1 hg1 he1=>?_)
  unfold qYName_l0 at h1
  refine trq ?_
  refine kr [0,3,7] (by simp;rfl) ?_
  refine trc (b:=(decide (s3 < ((a0).size:Int)))) (by simp) (fun c12=>?_) (fun c12=>?_)
  ·rw[if_pos c12] at h1
   refine trk ?_
   refine trq ?_
   refine trb ?_
   replace h1:=bnd h1;obtain⟨v4,hvv4,h1⟩:=h1
   refine sjv (fun v4_:Bool=>({ nt:=34,env:=[(0,.d (.str a0)),(3,.d (.int .i64 s3)),(25,.d (.bool v4_))],box:=[],vec:=[]}:St)) (fun v4_=>v4=v4_) (fun v4_ e=>?_) ?_
   ·subst e
    refine trc (b:=v4) (by simp) (fun c17=>?_) (fun c17=>?_)
    ·rw[if_pos c17] at h1
     refine kr [2] (by simp;rfl) ?_
     have k1:=he1 _ (Option.some.inj h1)
     subst k1
     dsimp only at h0
     cases h0
     exact trr ⟨[],by simp,rfl,by simp⟩
    ·rw[if_neg (by rw[c17];decide)] at h1
     refine trk ?_
     refine lr (by simp;rfl) ?_
     exact⟨_,hg1 _ (Option.some.inj h1),wk (by simp[wkI])⟩
   ·refine kc1 ?_
    replace hvv4:=bnd hvv4;obtain⟨x5,p25,hvv4⟩:=hvv4
    have ix26:indexVA Tryz.prog 9 (.d (.str a0)) s3=some (.d (.int .u8 x5)):=index_str Tryz.underlying9 p25
    refine ko [0,3,14] 5 (by simp[ix26, -indexVA];rfl) ?_
    refine tops_split 14 (decide (x5 < 33)) (by simp) (fun c18=>?_) (fun c18=>?_)
    ·rw[if_pos c18] at hvv4
     refine kskip 4 [] (by kernel_rfl) ?_
     refine ko [0,3,20] 2 (by simp;rfl) ?_
     refine kskip 4 [] (by kernel_rfl) ?_
     refine ko [0,3,25] 1 (by simp;rfl) ?_
     refine tpN ?_
     cases hvv4
     exact⟨_,rfl,wk (by simp[wkI])⟩
    ·rw[if_neg (by rw[c18];decide)] at hvv4
     replace hvv4:=bnd hvv4;obtain⟨x6,p27,hvv4⟩:=hvv4
     have ix28:indexVA Tryz.prog 9 (.d (.str a0)) s3=some (.d (.int .u8 x6)):=index_str Tryz.underlying9 p27
     refine ko [0,3,15,16,17,18,20] 6 (by simp[ix28, -indexVA];rfl) ?_
     refine tops_split 20 (decide (126 < x6)) (by simp) (fun c19=>?_) (fun c19=>?_)
     ·rw[if_pos c19] at hvv4
      refine kskip 4 [] (by kernel_rfl) ?_
      refine ko [0,3,15,16,17,18,25] 1 (by simp;rfl) ?_
      refine tpN ?_
      cases hvv4
      exact⟨_,rfl,wk (by simp[wkI])⟩
     ·rw[if_neg (by rw[c19];decide)] at hvv4
      replace hvv4:=bnd hvv4;obtain⟨x7,p29,hvv4⟩:=hvv4
      have ix30:indexVA Tryz.prog 9 (.d (.str a0)) s3=some (.d (.int .u8 x7)):=index_str Tryz.underlying9 p29
      refine ko [0,3,15,16,17,18,21,22,23,24,25] 5 (by simp[ix30, -indexVA];rfl) ?_
      refine tpN ?_
      cases hvv4
      exact⟨_,rfl,wk (by simp[wkI])⟩
  ·rw[if_neg (by rw[c12];decide)] at h1
   refine tr_exit ?_
   exact⟨_,he1 _ (Option.some.inj h1),wk (by simp[wkI])⟩
theorem qYtree_ok {a0:zO} {r:Bool} (h0:qYtree a0=some r):FnOK Tryz.prog 77 [] [.agg (zOa a0)] (.d (.bool r)) []:=by
 unfold qYtree at h0
 refine fn_ok (nt:=74) (rs:=[.tmp 2]) Tryz.func77 rfl Tryz.ntmps77 rfl (by simp) (by decide) rfl fun K=>?_
 refine kr [1] (by simp;rfl) ?_
 refine trq ?_
 refine kr [1,3] (by simp;rfl) ?_
 replace h0:=bnd h0;obtain⟨e1,hI1,h0⟩:=h0
 refine tjv (fun v1:Unit=>({ nt:=74,env:=[(1,.ptr 1 0)],box:=[(1,[.d (.int .i64 a0.ID),.d (.int .i64 a0.Kind),.d (.slice (rowsF (iRow .u8) a0.Data)),.d (.slice (rowsF zIr a0.Items)),.d (.int .i64 a0.Tree),.d (.slice (rowsF (iRow .i64) a0.Parents)),.d (.str a0.Author),.d (.int .i64 a0.Time)])],vec:=[]}:St)) (fun v1=>.inl v1=e1) (fun v1 hI1e _ W1=>?_) ?_
 ·subst hI1e
  dsimp only at h0
  refine tr_wk W1 ?_
  replace h0:=bnd h0;obtain⟨v2,hvv2,h0⟩:=h0
  refine sjv (fun v2_:Bool=>({ nt:=74,env:=[(2,.d (.bool v2_))],box:=[],vec:=[]}:St)) (fun v2_=>v2=v2_) (fun v2_ e=>?_) ?_
  ·subst e
   cases h0
   exact trr ⟨[],by simp,rfl,by simp⟩
  ·refine kc1 ?_
   refine ko [1,53] 5 (by simp;rfl) ?_
   refine tops_split 53 (((a0.Data).length:Int)==0) (by simp) (fun c31=>?_) (fun c31=>?_)
   ·rw[c31] at hvv2
    refine ko [1,58] 5 (by simp;rfl) ?_
    refine tops_split 58 (a0.Tree==0) (by simp) (fun c32=>?_) (fun c32=>?_)
    ·rw[c32] at hvv2
     refine ko [1,64] 6 (by simp;rfl) ?_
     refine tops_split 64 (((a0.Parents).length:Int)==0) (by simp) (fun c33=>?_) (fun c33=>?_)
     ·rw[c33] at hvv2
      refine ko [1,69] 5 (by simp;rfl) ?_
      refine tops_split 69 ((a0.Author).toList==((⟨#[]⟩:ByteArray)).toList) (by simp) (fun c34=>?_) (fun c34=>?_)
      ·rw[c34] at hvv2
       refine ko [2] 5 (by simp;rfl) ?_
       refine tpN ?_
       cases hvv2
       exact⟨_,rfl,wk (by simp[wkI])⟩
      ·rw[c34] at hvv2
       refine kskip 3 [] (by kernel_rfl) ?_
       refine ko [2] 2 (by simp;rfl) ?_
       refine tpN ?_
       cases hvv2
       exact⟨_,rfl,wk (by simp[wkI])⟩
     ·rw[c33] at hvv2
      refine kskip 3 [] (by kernel_rfl) ?_
      refine ko [1,69] 2 (by simp;rfl) ?_
      refine kskip 3 [] (by kernel_rfl) ?_
      refine ko [2] 2 (by simp;rfl) ?_
      refine tpN ?_
      cases hvv2
      exact⟨_,rfl,wk (by simp[wkI])⟩
    ·rw[c32] at hvv2
     refine kskip 4 [] (by kernel_rfl) ?_
     refine ko [1,64] 2 (by simp;rfl) ?_
     refine kskip 3 [] (by kernel_rfl) ?_
     refine ko [1,69] 2 (by simp;rfl) ?_
     refine kskip 3 [] (by kernel_rfl) ?_
     refine ko [2] 2 (by simp;rfl) ?_
     refine tpN ?_
     cases hvv2
     exact⟨_,rfl,wk (by simp[wkI])⟩
   ·rw[c31] at hvv2
    refine kskip 3 [] (by kernel_rfl) ?_
    refine ko [1,58] 2 (by simp;rfl) ?_
    refine kskip 4 [] (by kernel_rfl) ?_
    refine ko [1,64] 2 (by simp;rfl) ?_
    refine kskip 3 [] (by kernel_rfl) ?_
    refine ko [1,69] 2 (by simp;rfl) ?_
    refine kskip 3 [] (by kernel_rfl) ?_
    refine ko [2] 2 (by simp;rfl) ?_
    refine tpN ?_
    cases hvv2
    exact⟨_,rfl,wk (by simp[wkI])⟩
 ·refine trb (tr_iter (fun s3:Int=>({ nt:=74,env:=[(1,.ptr 1 0),(3,.d (.int .i64 s3))],box:=[(1,[.d (.int .i64 a0.ID),.d (.int .i64 a0.Kind),.d (.slice (rowsF (iRow .u8) a0.Data)),.d (.slice (rowsF zIr a0.Items)),.d (.int .i64 a0.Tree),.d (.slice (rowsF (iRow .i64) a0.Parents)),.d (.str a0.Author),.d (.int .i64 a0.Time)])],vec:=[]}:St)) hI1 (wk (by simp[wkI])) fun G1 s3 o1 h1 hg1 he1=>?_)
  unfold qYtree_l0 at h1
  refine trq ?_
  refine kr [1,3,8] (by simp;rfl) ?_
  refine trc (b:=(decide (s3 < ((a0.Items).length:Int)))) (by simp) (fun c35=>?_) (fun c35=>?_)
  ·rw[if_pos c35] at h1
   refine trk ?_
   refine trq ?_
   refine trb ?_
   replace h1:=bnd h1;obtain⟨v4,hvv4,h1⟩:=h1
   refine sjv (fun v4_:Bool=>({ nt:=74,env:=[(1,.ptr 1 0),(3,.d (.int .i64 s3)),(48,.d (.bool v4_))],box:=[(1,[.d (.int .i64 a0.ID),.d (.int .i64 a0.Kind),.d (.slice (rowsF (iRow .u8) a0.Data)),.d (.slice (rowsF zIr a0.Items)),.d (.int .i64 a0.Tree),.d (.slice (rowsF (iRow .i64) a0.Parents)),.d (.str a0.Author),.d (.int .i64 a0.Time)])],vec:=[]}:St)) (fun v4_=>v4=v4_) (fun v4_ e=>?_) ?_
   ·subst e
    refine trc (b:=v4) (by simp) (fun c54=>?_) (fun c54=>?_)
    ·rw[if_pos c54] at h1
     refine kr [2] (by simp;rfl) ?_
     have k1:=he1 _ (Option.some.inj h1)
     subst k1
     dsimp only at h0
     cases h0
     exact trr ⟨[],by simp,rfl,by simp⟩
    ·rw[if_neg (by rw[c54];decide)] at h1
     refine trk ?_
     refine lr (by simp;rfl) ?_
     exact⟨_,hg1 _ (Option.some.inj h1),wk (by simp[wkI])⟩
   ·refine kd1 [[],[0],[],[1,2],[3],[4],[5],[6],[7],[8],[8,9],[8],[8,10,11],[8,12],[8,13],[8,14],[8,15],[8,16],[17],[18],[18,19],[18,20],[21],[21,22],[21],[21,23,24],[21,25],[21,26],[21],[21,28],[21],[21,30],[21,29,31],[21,32],[21,33],[21,27,34],[18,21,35],[18,36]] [] [] none [] 38 fol (by decide +kernel) (by simp) ?_
    replace hvv4:=bnd hvv4;obtain⟨x5,p29,hvv4⟩:=hvv4
    replace p29:=idx_some p29
    have p29':=p29;try simp at p29'
    refine dr_go 0 2 rfl (by simp (maxSteps:=1000000) [p29,p29'];rfl) ?_
    refine dr_go 2 2 rfl (by simp (maxSteps:=1000000) [p29,p29'];rfl) ?_
    refine dr_go 4 2 rfl (by simp (maxSteps:=1000000) [p29,p29'];rfl) ?_
    replace hvv4:=bnd hvv4;obtain⟨y6,hy6,hvv4⟩:=hvv4
    refine dr_call 6 [] (qYName_ok hy6) rfl rfl rfl rfl rfl Tryz.call79 (by simp) ?_
    refine dr_go 7 2 rfl (by simp (maxSteps:=1000000);rfl) ?_
    refine dr_split 8 19 (!y6) (by simp) (fun c61=>?_) (fun c61=>?_)
    ·rw[if_pos c61] at hvv4
     refine dr_skip 9 74 [some 20,some 21,some 22,some 23,some 24,some 25,some 26,some 27] rfl rfl (by decide) (by kernel_rfl) (by simp only[skEf,List.map_cons,List.map_nil,List.cons_append,List.nil_append];rfl) ?_
     refine dr_go 17 2 rfl (by simp (maxSteps:=1000000);rfl) ?_
     refine dr_skip 19 74 [some 30,some 31,some 32,some 33,some 34,some 35,some 36,some 37,some 38,some 39,some 40,some 41,some 42,some 43,some 44,some 45,some 46,some 47] rfl rfl (by decide) (by kernel_rfl) (by simp only[skEf,List.map_cons,List.map_nil,List.cons_append,List.nil_append];rfl) ?_
     refine dr_go 37 1 rfl (by simp (maxSteps:=1000000);rfl) ?_
     refine dr_end rfl (tpN ?_)
     cases hvv4
     exact⟨_,rfl,wk (by simp[wkI])⟩
    ·rw[if_neg (by rw[c61];decide)] at hvv4
     refine dr_go 9 2 rfl (by simp (maxSteps:=1000000) [p29,p29'];rfl) ?_
     refine dr_go 11 2 rfl (by simp (maxSteps:=1000000) [p29,p29'];rfl) ?_
     refine dr_go 13 2 rfl (by simp (maxSteps:=1000000) [p29,p29'];rfl) ?_
     replace hvv4:=bnd hvv4;obtain⟨y7,hy7,hvv4⟩:=hvv4
     refine dr_call 15 [] (qYID_ok hy7) rfl rfl rfl rfl rfl Tryz.call75 (by simp) ?_
     refine dr_go 16 2 rfl (by simp (maxSteps:=1000000);rfl) ?_
     refine dr_go 18 1 rfl (by simp (maxSteps:=1000000);rfl) ?_
     refine dr_split 18 29 (!y7) (by simp) (fun c62=>?_) (fun c62=>?_)
     ·rw[if_pos c62] at hvv4
      refine dr_skip 19 74 [some 30,some 31,some 32,some 33,some 34,some 35,some 36,some 37,some 38,some 39,some 40,some 41,some 42,some 43,some 44,some 45,some 46,some 47] rfl rfl (by decide) (by kernel_rfl) (by simp only[skEf,List.map_cons,List.map_nil,List.cons_append,List.nil_append];rfl) ?_
      refine dr_go 37 1 rfl (by simp (maxSteps:=1000000);rfl) ?_
      refine dr_end rfl (tpN ?_)
      cases hvv4
      exact⟨_,rfl,wk (by simp[wkI])⟩
     ·rw[if_neg (by rw[c62];decide)] at hvv4
      refine dr_go 19 2 rfl (by simp (maxSteps:=1000000);rfl) ?_
      refine dr_go 21 1 rfl (by simp (maxSteps:=1000000);rfl) ?_
      refine dr_split 21 32 (decide (0 < s3)) (by simp) (fun c63=>?_) (fun c63=>?_)
      ·rw[if_pos c63] at hvv4
       replace hvv4:=bnd hvv4;obtain⟨x8,p30,hvv4⟩:=hvv4
       replace p30:=idx_some p30
       have p30':=p30;try simp at p30'
       refine dr_go 22 2 rfl (by simp (maxSteps:=1000000) [p29,p30,p29',p30'];rfl) ?_
       refine dr_go 24 2 rfl (by simp (maxSteps:=1000000) [p29,p30,p29',p30'];rfl) ?_
       refine dr_go 26 2 rfl (by simp (maxSteps:=1000000) [p29,p30,p29',p30'];rfl) ?_
       refine dr_go 28 2 rfl (by simp (maxSteps:=1000000) [p29,p30,p29',p30'];rfl) ?_
       refine dr_go 30 2 rfl (by simp (maxSteps:=1000000) [p29,p30,p29',p30'];rfl) ?_
       refine dr_go 32 2 rfl (by simp (maxSteps:=1000000) [p29,p30,p29',p30'];rfl) ?_
       refine dr_go 34 2 rfl (by simp (maxSteps:=1000000) [p29,p30,p29',p30'];rfl) ?_
       refine dr_go 36 2 rfl (by simp (maxSteps:=1000000) [p29,p30,p29',p30'];rfl) ?_
       refine dr_end rfl (tpN ?_)
       cases hvv4
       exact⟨_,rfl,wk (by simp[wkI])⟩
      ·rw[if_neg (by rw[c63];decide)] at hvv4
       refine dr_skip 22 74 [some 33,some 34,some 35,some 36,some 37,some 38,some 39,some 40,some 41,some 42,some 43,some 44,some 45,some 46] rfl rfl (by decide) (by kernel_rfl) (by simp only[skEf,List.map_cons,List.map_nil,List.cons_append,List.nil_append];rfl) ?_
       refine dr_go 36 2 rfl (by simp (maxSteps:=1000000);rfl) ?_
       refine dr_end rfl (tpN ?_)
       cases hvv4
       exact⟨_,rfl,wk (by simp[wkI])⟩
  ·rw[if_neg (by rw[c35];decide)] at h1
   refine tr_exit ?_
   exact⟨_,he1 _ (Option.some.inj h1),wk (by simp[wkI])⟩
theorem qYcommit_ok {a0:zO} {r:Bool} (h0:qYcommit a0=some r):FnOK Tryz.prog 78 [] [.agg (zOa a0)] (.d (.bool r)) []:=by
 unfold qYcommit at h0
 refine fn_ok (nt:=65) (rs:=[.tmp 2]) Tryz.func78 rfl Tryz.ntmps78 rfl (by simp) (by decide) rfl fun K=>?_
 refine kr [1] (by simp;rfl) ?_
 refine trq ?_
 refine kr [1,3] (by simp;rfl) ?_
 replace h0:=bnd h0;obtain⟨e1,hI1,h0⟩:=h0
 refine tjv (fun v1:Unit=>({ nt:=65,env:=[(1,.ptr 1 0)],box:=[(1,[.d (.int .i64 a0.ID),.d (.int .i64 a0.Kind),.d (.slice (rowsF (iRow .u8) a0.Data)),.d (.slice (rowsF zIr a0.Items)),.d (.int .i64 a0.Tree),.d (.slice (rowsF (iRow .i64) a0.Parents)),.d (.str a0.Author),.d (.int .i64 a0.Time)])],vec:=[]}:St)) (fun v1=>.inl v1=e1) (fun v1 hI1e _ W1=>?_) ?_
 ·subst hI1e
  dsimp only at h0
  refine tr_wk W1 ?_
  replace h0:=bnd h0;obtain⟨v2,hvv2,h0⟩:=h0
  refine sjv (fun v2_:Bool=>({ nt:=65,env:=[(2,.d (.bool v2_))],box:=[],vec:=[]}:St)) (fun v2_=>v2=v2_) (fun v2_ e=>?_) ?_
  ·subst e
   cases h0
   exact trr ⟨[],by simp,rfl,by simp⟩
  ·refine kc1 ?_
   refine ko [1,39] 5 (by simp;rfl) ?_
   refine tops_split 39 (((a0.Data).length:Int)==0) (by simp) (fun c23=>?_) (fun c23=>?_)
   ·rw[if_pos c23] at hvv2
    refine ko [1,45] 6 (by simp;rfl) ?_
    refine tops_split 45 (((a0.Items).length:Int)==0) (by simp) (fun c24=>?_) (fun c24=>?_)
    ·rw[if_pos c24] at hvv2
     refine ko [1,45,47] 2 (by simp;rfl) ?_
     replace hvv2:=bnd hvv2;obtain⟨y3,hy3,hvv2⟩:=hvv2
     refine kcall [1,45,48] [] (qYID_ok hy3) rfl rfl rfl Tryz.call75 (by simp) (by simp;rfl) ?_
     refine ko [1,50] 2 (by simp;rfl) ?_
     refine tops_split 50 y3 (by simp) (fun c25=>?_) (fun c25=>?_)
     ·rw[if_pos c25] at hvv2
      refine ko [1,50,52] 2 (by simp;rfl) ?_
      replace hvv2:=bnd hvv2;obtain⟨y4,hy4,hvv2⟩:=hvv2
      refine kcall [1,50,53] [] (qYName_ok hy4) rfl rfl rfl Tryz.call79 (by simp) (by simp;rfl) ?_
      refine ko [1,55] 2 (by simp;rfl) ?_
      refine tops_split 55 y4 (by simp) (fun c26=>?_) (fun c26=>?_)
      ·rw[if_pos c26] at hvv2
       refine ko [1,60] 5 (by simp;rfl) ?_
       refine tops_split 60 (decide (0≤a0.Time)) (by simp) (fun c27=>?_) (fun c27=>?_)
       ·rw[if_pos c27] at hvv2
        refine ko [2] 5 (by simp;rfl) ?_
        refine tpN ?_
        cases hvv2
        exact⟨_,rfl,wk (by simp[wkI])⟩
       ·rw[if_neg (by rw[c27];decide)] at hvv2
        refine kskip 3 [] (by kernel_rfl) ?_
        refine ko [2] 2 (by simp;rfl) ?_
        refine tpN ?_
        cases hvv2
        exact⟨_,rfl,wk (by simp[wkI])⟩
      ·rw[if_neg (by rw[c26];decide)] at hvv2
       refine kskip 3 [] (by kernel_rfl) ?_
       refine ko [1,60] 2 (by simp;rfl) ?_
       refine kskip 3 [] (by kernel_rfl) ?_
       refine ko [2] 2 (by simp;rfl) ?_
       refine tpN ?_
       cases hvv2
       exact⟨_,rfl,wk (by simp[wkI])⟩
     ·rw[if_neg (by rw[c25];decide)] at hvv2
      refine kskip 3 [] (by kernel_rfl) ?_
      refine ko [1,55] 2 (by simp;rfl) ?_
      refine kskip 3 [] (by kernel_rfl) ?_
      refine ko [1,60] 2 (by simp;rfl) ?_
      refine kskip 3 [] (by kernel_rfl) ?_
      refine ko [2] 2 (by simp;rfl) ?_
      refine tpN ?_
      cases hvv2
      exact⟨_,rfl,wk (by simp[wkI])⟩
    ·rw[if_neg (by rw[c24];decide)] at hvv2
     refine kskip 3 [] (by kernel_rfl) ?_
     refine ko [1,50] 2 (by simp;rfl) ?_
     refine kskip 3 [] (by kernel_rfl) ?_
     refine ko [1,55] 2 (by simp;rfl) ?_
     refine kskip 3 [] (by kernel_rfl) ?_
     refine ko [1,60] 2 (by simp;rfl) ?_
     refine kskip 3 [] (by kernel_rfl) ?_
     refine ko [2] 2 (by simp;rfl) ?_
     refine tpN ?_
     cases hvv2
     exact⟨_,rfl,wk (by simp[wkI])⟩
   ·rw[if_neg (by rw[c23];decide)] at hvv2
    refine kskip 4 [] (by kernel_rfl) ?_
    refine ko [1,45] 2 (by simp;rfl) ?_
    refine kskip 3 [] (by kernel_rfl) ?_
    refine ko [1,50] 2 (by simp;rfl) ?_
    refine kskip 3 [] (by kernel_rfl) ?_
    refine ko [1,55] 2 (by simp;rfl) ?_
    refine kskip 3 [] (by kernel_rfl) ?_
    refine ko [1,60] 2 (by simp;rfl) ?_
    refine kskip 3 [] (by kernel_rfl) ?_
    refine ko [2] 2 (by simp;rfl) ?_
    refine tpN ?_
    cases hvv2
    exact⟨_,rfl,wk (by simp[wkI])⟩
 ·refine trb (tr_iter (fun s5:Int=>({ nt:=65,env:=[(1,.ptr 1 0),(3,.d (.int .i64 s5))],box:=[(1,[.d (.int .i64 a0.ID),.d (.int .i64 a0.Kind),.d (.slice (rowsF (iRow .u8) a0.Data)),.d (.slice (rowsF zIr a0.Items)),.d (.int .i64 a0.Tree),.d (.slice (rowsF (iRow .i64) a0.Parents)),.d (.str a0.Author),.d (.int .i64 a0.Time)])],vec:=[]}:St)) hI1 (wk (by simp[wkI])) fun G1 s5 o1 h1 hg1 he1=>?_)
  unfold qYcommit_l0 at h1
  refine trq ?_
  refine kr [1,3,9] (by simp;rfl) ?_
  refine trc (b:=(decide (s5 < ((a0.Parents).length:Int)))) (by simp) (fun c28=>?_) (fun c28=>?_)
  ·rw[if_pos c28] at h1
   refine trk ?_
   refine trq ?_
   refine trb ?_
   refine trq ?_
   refine kc ?_
   replace h1:=bnd h1;obtain⟨x6,p12,h1⟩:=h1
   replace p12:=idx_some p12
   have p12':=p12;try simp at p12'
   refine ko [1,3,16] 5 (by simp[p12,p12'];rfl) ?_
   replace h1:=bnd h1;obtain⟨y7,hy7,h1⟩:=h1
   refine kcall [1,3,17] [] (qYID_ok hy7) rfl rfl rfl Tryz.call75 (by simp) (by simp;rfl) ?_
   refine ko [1,3,18] 1 (by simp;rfl) ?_
   refine tpN ?_
   refine trc (b:=(!y7)) (by simp) (fun c29=>?_) (fun c29=>?_)
   ·rw[if_pos c29] at h1
    refine kr [2] (by simp;rfl) ?_
    have k1:=he1 _ (Option.some.inj h1)
    subst k1
    dsimp only at h0
    cases h0
    exact trr ⟨[],by simp,rfl,by simp⟩
   ·rw[if_neg (by rw[c29];decide)] at h1
    refine trk ?_
    refine kr [1,3,4] (by simp;rfl) ?_
    replace h1:=bnd h1;obtain⟨e2,hI2,h1⟩:=h1
    refine tjv (fun v8:Unit=>({ nt:=65,env:=[(1,.ptr 1 0),(3,.d (.int .i64 s5))],box:=[(1,[.d (.int .i64 a0.ID),.d (.int .i64 a0.Kind),.d (.slice (rowsF (iRow .u8) a0.Data)),.d (.slice (rowsF zIr a0.Items)),.d (.int .i64 a0.Tree),.d (.slice (rowsF (iRow .i64) a0.Parents)),.d (.str a0.Author),.d (.int .i64 a0.Time)])],vec:=[]}:St)) (fun v8=>.inl v8=e2) (fun v8 hI2e _ W2=>?_) ?_
    ·subst hI2e
     dsimp only at h1
     refine tr_wk W2 ?_
     refine lr (by simp;rfl) ?_
     exact⟨_,hg1 _ (Option.some.inj h1),wk (by simp[wkI])⟩
    ·refine trb (tr_iter (fun s9:Int=>({ nt:=65,env:=[(1,.ptr 1 0),(3,.d (.int .i64 s5)),(4,.d (.int .i64 s9))],box:=[(1,[.d (.int .i64 a0.ID),.d (.int .i64 a0.Kind),.d (.slice (rowsF (iRow .u8) a0.Data)),.d (.slice (rowsF zIr a0.Items)),.d (.int .i64 a0.Tree),.d (.slice (rowsF (iRow .i64) a0.Parents)),.d (.str a0.Author),.d (.int .i64 a0.Time)])],vec:=[]}:St)) hI2 (wk (by simp[wkI])) fun G2 s9 o2 h2 hg2 he2=>?_)
     unfold qYcommit_l1 at h2
     refine trq ?_
     refine kr [1,3,4,21] (by simp;rfl) ?_
     refine trc (b:=(decide (s9 < s5))) (by simp) (fun c34=>?_) (fun c34=>?_)
     ·rw[if_pos c34] at h2
      refine trk ?_
      refine trq ?_
      refine trb ?_
      refine kd [[],[0],[],[1,2],[3],[],[5],[],[6,7],[8],[4,9]] [] [] none [] 11 fol (by decide +kernel) (by simp) ?_
      replace h2:=bnd h2;obtain⟨x10,p21,h2⟩:=h2
      replace p21:=idx_some p21
      have p21':=p21;try simp at p21'
      refine dr_go 0 2 rfl (by simp (maxSteps:=1000000) [p21,p12,p21',p12'];rfl) ?_
      refine dr_go 2 2 rfl (by simp (maxSteps:=1000000) [p21,p12,p21',p12'];rfl) ?_
      refine dr_go 4 2 rfl (by simp (maxSteps:=1000000) [p21,p12,p21',p12'];rfl) ?_
      refine dr_go 6 2 rfl (by simp (maxSteps:=1000000) [p21,p12,p21',p12'];rfl) ?_
      refine dr_go 8 2 rfl (by simp (maxSteps:=1000000) [p21,p12,p21',p12'];rfl) ?_
      refine dr_go 10 1 rfl (by simp (maxSteps:=1000000) [p21,p12,p21',p12'];rfl) ?_
      refine dr_end rfl (tpN ?_)
      refine trc (b:=(x10==x6)) (by simp) (fun c35=>?_) (fun c35=>?_)
      ·rw[if_pos c35] at h2
       refine kr [2] (by simp;rfl) ?_
       have k2:=he2 _ (Option.some.inj h2)
       subst k2
       dsimp only at h1
       have k1:=he1 _ (Option.some.inj h1)
       subst k1
       dsimp only at h0
       cases h0
       exact trr ⟨[],by simp,rfl,by simp⟩
      ·rw[if_neg (by rw[c35];decide)] at h2
       refine trk ?_
       refine lr (by simp;rfl) ?_
       exact⟨_,hg2 _ (Option.some.inj h2),wk (by simp[wkI])⟩
     ·rw[if_neg (by rw[c34];decide)] at h2
      refine tr_exit ?_
      exact⟨_,he2 _ (Option.some.inj h2),wk (by simp[wkI])⟩
  ·rw[if_neg (by rw[c28];decide)] at h1
   refine tr_exit ?_
   exact⟨_,he1 _ (Option.some.inj h1),wk (by simp[wkI])⟩
theorem qYValid_ok {a0:zO} {r:Int} (h0:qYValid a0=some r):FnOK Tryz.prog 43 [] [.agg (zOa a0)] (.d (.int .i64 r)) []:=by
 unfold qYValid at h0
 refine fn_ok (nt:=45) (rs:=[.tmp 2]) Tryz.func43 rfl Tryz.ntmps43 rfl (by simp) (by decide) rfl fun K=>?_
 refine kr [1] (by simp;rfl) ?_
 refine trq ?_
 refine kc ?_
 refine ko [1,4] 2 (by simp;rfl) ?_
 replace h0:=bnd h0;obtain⟨y1,hy1,h0⟩:=h0
 refine kcall [1,5] [] (qYID_ok hy1) rfl rfl rfl Tryz.call75 (by simp) (by simp;rfl) ?_
 refine ko [1,6] 1 (by simp;rfl) ?_
 refine tpN ?_
 refine trc (b:=(!y1)) (by simp) (fun c1=>?_) (fun c1=>?_)
 ·rw[if_pos c1] at h0
  refine kr [2] (by simp;rfl) ?_
  cases h0
  exact trr ⟨[],by simp,rfl,by simp⟩
 ·rw[if_neg (by rw[c1];decide)] at h0
  refine trk ?_
  refine trq ?_
  replace h0:=bnd h0;obtain⟨v2,hvv2,h0⟩:=h0
  refine sjv (fun v2_:Bool=>({ nt:=45,env:=[(1,.ptr 1 0),(22,.d (.bool v2_))],box:=[(1,[.d (.int .i64 a0.ID),.d (.int .i64 a0.Kind),.d (.slice (rowsF (iRow .u8) a0.Data)),.d (.slice (rowsF zIr a0.Items)),.d (.int .i64 a0.Tree),.d (.slice (rowsF (iRow .i64) a0.Parents)),.d (.str a0.Author),.d (.int .i64 a0.Time)])],vec:=[]}:St)) (fun v2_=>v2=v2_) (fun v2_ e=>?_) ?_
  ·subst e
   refine trc (b:=v2) (by simp) (fun c6=>?_) (fun c6=>?_)
   ·rw[if_pos c6] at h0
    refine kr [2] (by simp;rfl) ?_
    cases h0
    exact trr ⟨[],by simp,rfl,by simp⟩
   ·rw[if_neg (by rw[c6];decide)] at h0
    refine trk ?_
    refine trq ?_
    refine trb ?_
    refine sjv (fun v3:Bool=>({ nt:=45,env:=[(23,.d (.bool v3))],box:=[],vec:=[]}:St)) (fun v3=>qYValid_j0 v3=some r) (fun v3 h0=>?_) ?_
    ·unfold qYValid_j0 at h0
     refine trc (b:=v3) (by simp) (fun c12=>?_) (fun c12=>?_)
     ·rw[if_pos c12] at h0
      refine kr [2] (by simp;rfl) ?_
      cases h0
      exact trr ⟨[],by simp,rfl,by simp⟩
     ·rw[if_neg (by rw[c12];decide)] at h0
      refine trk ?_
      refine kr [2] (by simp;rfl) ?_
      cases h0
      exact trr ⟨[],by simp,rfl,by simp⟩
    ·replace h0:=bnd h0;obtain⟨v4,hvv4,h0⟩:=h0
     refine sjv (fun v4_:Bool=>({ nt:=45,env:=[(1,.ptr 1 0),(23,.d (.bool v4_))],box:=[(1,[.d (.int .i64 a0.ID),.d (.int .i64 a0.Kind),.d (.slice (rowsF (iRow .u8) a0.Data)),.d (.slice (rowsF zIr a0.Items)),.d (.int .i64 a0.Tree),.d (.slice (rowsF (iRow .i64) a0.Parents)),.d (.str a0.Author),.d (.int .i64 a0.Time)])],vec:=[]}:St)) (fun v4_=>v4=v4_) (fun v4_ e=>?_) ?_
     ·subst e
      refine trc (b:=v4) (by simp) (fun c15=>?_) (fun c15=>?_)
      ·rw[if_pos c15] at h0
       refine trk ?_
       exact⟨_,h0,wk (by simp[wkI])⟩
      ·rw[if_neg (by rw[c15];decide)] at h0
       replace h0:=bnd h0;obtain⟨v5,hvv5,h0⟩:=h0
       refine sjv (fun v5_:Bool=>({ nt:=45,env:=[(1,.ptr 1 0),(23,.d (.bool v5_))],box:=[(1,[.d (.int .i64 a0.ID),.d (.int .i64 a0.Kind),.d (.slice (rowsF (iRow .u8) a0.Data)),.d (.slice (rowsF zIr a0.Items)),.d (.int .i64 a0.Tree),.d (.slice (rowsF (iRow .i64) a0.Parents)),.d (.str a0.Author),.d (.int .i64 a0.Time)])],vec:=[]}:St)) (fun v5_=>v5=v5_) (fun v5_ e=>?_) ?_
       ·subst e
        refine trc (b:=v5) (by simp) (fun c18=>?_) (fun c18=>?_)
        ·rw[if_pos c18] at h0
         refine trk ?_
         exact⟨_,h0,wk (by simp[wkI])⟩
        ·rw[if_neg (by rw[c18];decide)] at h0
         replace h0:=bnd h0;obtain⟨v6,hvv6,h0⟩:=h0
         refine tjv (fun v6_:Bool=>({ nt:=45,env:=[(23,.d (.bool v6_))],box:=[],vec:=[]}:St)) (fun v6_=>v6=v6_) (fun v6_ e _ Wv6=>?_) ?_
         ·subst e
          exact⟨_,h0,Wk.trans (Wv6) (wk (by simp[wkI]))⟩
         ·refine kc1 ?_
          refine ko [1,41] 4 (by simp;rfl) ?_
          refine tops_split 41 (a0.Kind==3) (by simp) (fun c21=>?_) (fun c21=>?_)
          ·rw[if_pos c21] at hvv6
           refine ko [41,42] 1 (by simp;rfl) ?_
           replace hvv6:=bnd hvv6;obtain⟨y7,hy7,hvv6⟩:=hvv6
           refine kcall [41,43] [] (qYcommit_ok hy7) rfl rfl rfl Tryz.call78 (by simp) (by simp;rfl) ?_
           refine ko [23] 2 (by simp;rfl) ?_
           refine tpN ?_
           cases hvv6
           exact⟨_,rfl,wk (by simp[wkI])⟩
          ·rw[if_neg (by rw[c21];decide)] at hvv6
           refine ko [23] 4 (by simp;rfl) ?_
           refine tpN ?_
           cases hvv6
           exact⟨_,rfl,wk (by simp[wkI])⟩
       ·refine kc1 ?_
        refine ko [1,34] 4 (by simp;rfl) ?_
        refine tops_split 34 (a0.Kind==2) (by simp) (fun c22=>?_) (fun c22=>?_)
        ·rw[if_pos c22] at hvv5
         refine ko [1,34,35] 1 (by simp;rfl) ?_
         replace hvv5:=bnd hvv5;obtain⟨y8,hy8,hvv5⟩:=hvv5
         refine kcall [1,34,36] [] (qYtree_ok hy8) rfl rfl rfl Tryz.call77 (by simp) (by simp;rfl) ?_
         refine ko [1,23] 2 (by simp;rfl) ?_
         refine tpN ?_
         cases hvv5
         exact⟨_,rfl,wk (by simp[wkI])⟩
        ·rw[if_neg (by rw[c22];decide)] at hvv5
         refine ko [1,23] 4 (by simp;rfl) ?_
         refine tpN ?_
         cases hvv5
         exact⟨_,rfl,wk (by simp[wkI])⟩
     ·refine kc1 ?_
      refine ko [1,27] 4 (by simp;rfl) ?_
      refine tops_split 27 (a0.Kind==1) (by simp) (fun c23=>?_) (fun c23=>?_)
      ·rw[if_pos c23] at hvv4
       refine ko [1,27,28] 1 (by simp;rfl) ?_
       replace hvv4:=bnd hvv4;obtain⟨y9,hy9,hvv4⟩:=hvv4
       refine kcall [1,27,29] [] (qYblob_ok hy9) rfl rfl rfl Tryz.call76 (by simp) (by simp;rfl) ?_
       refine ko [1,23] 2 (by simp;rfl) ?_
       refine tpN ?_
       cases hvv4
       exact⟨_,rfl,wk (by simp[wkI])⟩
      ·rw[if_neg (by rw[c23];decide)] at hvv4
       refine ko [1,23] 4 (by simp;rfl) ?_
       refine tpN ?_
       cases hvv4
       exact⟨_,rfl,wk (by simp[wkI])⟩
  ·refine kc1 ?_
   refine ko [1,11] 5 (by simp;rfl) ?_
   refine tops_split 11 (decide (65536 < ((a0.Data).length:Int))) (by simp) (fun c24=>?_) (fun c24=>?_)
   ·rw[c24] at hvv2
    refine kskip 4 [] (by kernel_rfl) ?_
    refine ko [1,17] 2 (by simp;rfl) ?_
    refine kskip 4 [] (by kernel_rfl) ?_
    refine ko [1,22] 1 (by simp;rfl) ?_
    refine tpN ?_
    cases hvv2
    exact⟨_,rfl,wk (by simp[wkI])⟩
   ·rw[c24] at hvv2
    refine ko [1,17] 6 (by simp;rfl) ?_
    refine tops_split 17 (decide (64 < ((a0.Items).length:Int))) (by simp) (fun c25=>?_) (fun c25=>?_)
    ·rw[c25] at hvv2
     refine kskip 4 [] (by kernel_rfl) ?_
     refine ko [1,22] 1 (by simp;rfl) ?_
     refine tpN ?_
     cases hvv2
     exact⟨_,rfl,wk (by simp[wkI])⟩
    ·rw[c25] at hvv2
     refine ko [1,22] 5 (by simp;rfl) ?_
     refine tpN ?_
     cases hvv2
     exact⟨_,rfl,wk (by simp[wkI])⟩
theorem rYevents_ok {a0:zR} {r:Int} (h0:rYevents a0=some r):FnOK Tryz.prog 44 [] [.agg (zRa a0)] (.d (.int .i64 r)) []:=by
 unfold rYevents at h0
 refine fn_ok (nt:=41) (rs:=[.tmp 2]) Tryz.func44 rfl Tryz.ntmps44 rfl (by simp) (by decide) rfl fun K=>?_
 refine kr [1] (by simp;rfl) ?_
 refine trq ?_
 refine kr [1,3] (by simp;rfl) ?_
 replace h0:=bnd h0;obtain⟨e1,hI1,h0⟩:=h0
 refine tjv (fun v1:Unit=>({ nt:=41,env:=[],box:=[],vec:=[]}:St)) (fun v1=>.inl v1=e1) (fun v1 hI1e _ W1=>?_) ?_
 ·subst hI1e
  dsimp only at h0
  refine tr_wk W1 ?_
  refine kr [2] (by simp;rfl) ?_
  cases h0
  exact trr ⟨[],by simp,rfl,by simp⟩
 ·refine trb (tr_iter (fun s2:Int=>({ nt:=41,env:=[(1,.ptr 1 0),(3,.d (.int .i64 s2))],box:=[(1,[.d (.slice (rowsF zOr a0.Objects)),.d (.slice (rowsF zEr a0.Events))])],vec:=[]}:St)) hI1 (wk (by simp[wkI])) fun G1 s2 o1 h1 hg1 he1=>?_)
  unfold rYevents_l0 at h1
  refine trq ?_
  refine kr [1,3,9] (by simp;rfl) ?_
  refine trc (b:=(decide (s2 < ((a0.Events).length:Int)))) (by simp) (fun c17=>?_) (fun c17=>?_)
  ·rw[if_pos c17] at h1
   refine trk ?_
   refine trq ?_
   refine trb ?_
   replace h1:=bnd h1;obtain⟨x3,p3,h1⟩:=h1
   replace p3:=idx_some p3
   have p3':=p3;try simp at p3'
   refine kr [1,3,4] (by simp[p3,p3'];rfl) ?_
   replace h1:=bnd h1;obtain⟨v4,hvv4,h1⟩:=h1
   refine sjv (fun v4_:Bool=>({ nt:=41,env:=[(1,.ptr 1 0),(3,.d (.int .i64 s2)),(40,.d (.bool v4_))],box:=[(1,[.d (.slice (rowsF zOr a0.Objects)),.d (.slice (rowsF zEr a0.Events))])],vec:=[]}:St)) (fun v4_=>v4=v4_) (fun v4_ e=>?_) ?_
   ·subst e
    refine trc (b:=v4) (by simp) (fun c30=>?_) (fun c30=>?_)
    ·rw[if_pos c30] at h1
     refine kr [2] (by simp;rfl) ?_
     have k1:=he1 _ (Option.some.inj h1)
     subst k1
     dsimp only at h0
     cases h0
     exact trr ⟨[],by simp,rfl,by simp⟩
    ·rw[if_neg (by rw[c30];decide)] at h1
     refine trk ?_
     refine lr (by simp;rfl) ?_
     exact⟨_,hg1 _ (Option.some.inj h1),wk (by simp[wkI])⟩
   ·refine kc1 ?_
    refine ko [1,3,4,20] 4 (by simp;rfl) ?_
    refine tops_split 20 (x3.Kind != 1) (by simp) (fun c31=>?_) (fun c31=>?_)
    ·rw[if_pos c31] at hvv4
     refine ko [1,3,4,21,22,23,25] 5 (by simp;rfl) ?_
     refine tops_split 25 (x3.Kind != 2) (by simp) (fun c32=>?_) (fun c32=>?_)
     ·rw[if_pos c32] at hvv4
      refine kskip 4 [] (by kernel_rfl) ?_
      refine ko [1,3,4,21,22,23,31] 2 (by simp;rfl) ?_
      refine kskip 8 [] (by kernel_rfl) ?_
      refine ko [1,3,21,22,23,40] 1 (by simp;rfl) ?_
      refine tpN ?_
      cases hvv4
      exact⟨_,rfl,wk (by simp[wkI])⟩
     ·rw[if_neg (by rw[c32];decide)] at hvv4
      refine ko [1,3,4,21,22,23,25,26,27] 2 (by simp;rfl) ?_
      replace hvv4:=bnd hvv4;obtain⟨y5,hy5,hvv4⟩:=hvv4
      refine kcall [1,3,4,21,22,23,25,26,27,28] [] (qYName_ok hy5) rfl rfl rfl Tryz.call79 (by simp) (by simp;rfl) ?_
      refine ko [1,3,4,21,22,23,26,27,28,29,31] 3 (by simp;rfl) ?_
      refine tops_split 31 (!y5) (by simp) (fun c33=>?_) (fun c33=>?_)
      ·rw[if_pos c33] at hvv4
       refine kskip 8 [] (by kernel_rfl) ?_
       refine ko [1,3,21,22,23,26,27,28,29,40] 1 (by simp;rfl) ?_
       refine tpN ?_
       cases hvv4
       exact⟨_,rfl,wk (by simp[wkI])⟩
      ·rw[if_neg (by rw[c33];decide)] at hvv4
       refine ko [1,3,4,21,22,23,26,27,28,29,31,32,33,34,35] 4 (by simp;rfl) ?_
       refine tops_split 35 (x3.Kind==2) (by simp) (fun c34=>?_) (fun c34=>?_)
       ·rw[if_pos c34] at hvv4
        refine ko [1,3,21,22,23,26,27,28,29,32,33,34,35,36,37,38,39,40] 5 (by simp;rfl) ?_
        refine tpN ?_
        cases hvv4
        exact⟨_,rfl,wk (by simp[wkI])⟩
       ·rw[if_neg (by rw[c34];decide)] at hvv4
        refine kskip 3 [] (by kernel_rfl) ?_
        refine ko [1,3,21,22,23,26,27,28,29,32,33,34,35,39,40] 2 (by simp;rfl) ?_
        refine tpN ?_
        cases hvv4
        exact⟨_,rfl,wk (by simp[wkI])⟩
    ·rw[if_neg (by rw[c31];decide)] at hvv4
     refine kskip 3 [] (by kernel_rfl) ?_
     refine ko [1,3,4,25,26,27] 4 (by simp;rfl) ?_
     replace hvv4:=bnd hvv4;obtain⟨y6,hy6,hvv4⟩:=hvv4
     refine kcall [1,3,4,25,26,27,28] [] (qYName_ok hy6) rfl rfl rfl Tryz.call79 (by simp) (by simp;rfl) ?_
     refine ko [1,3,4,26,27,28,29,31] 3 (by simp;rfl) ?_
     refine tops_split 31 (!y6) (by simp) (fun c35=>?_) (fun c35=>?_)
     ·rw[if_pos c35] at hvv4
      refine kskip 8 [] (by kernel_rfl) ?_
      refine ko [1,3,26,27,28,29,40] 1 (by simp;rfl) ?_
      refine tpN ?_
      cases hvv4
      exact⟨_,rfl,wk (by simp[wkI])⟩
     ·rw[if_neg (by rw[c35];decide)] at hvv4
      refine ko [1,3,4,26,27,28,29,31,32,33,34,35] 4 (by simp;rfl) ?_
      refine tops_split 35 (x3.Kind==2) (by simp) (fun c36=>?_) (fun c36=>?_)
      ·rw[if_pos c36] at hvv4
       refine ko [1,3,26,27,28,29,32,33,34,35,36,37,38,39,40] 5 (by simp;rfl) ?_
       refine tpN ?_
       cases hvv4
       exact⟨_,rfl,wk (by simp[wkI])⟩
      ·rw[if_neg (by rw[c36];decide)] at hvv4
       refine kskip 3 [] (by kernel_rfl) ?_
       refine ko [1,3,26,27,28,29,32,33,34,35,39,40] 2 (by simp;rfl) ?_
       refine tpN ?_
       cases hvv4
       exact⟨_,rfl,wk (by simp[wkI])⟩
  ·rw[if_neg (by rw[c17];decide)] at h1
   refine tr_exit ?_
   exact⟨_,he1 _ (Option.some.inj h1),wk (by simp[wkI])⟩
theorem rYfind_ok {a0:List zO} {a1:Int} {r:zO×Bool} (h0:rYfind a0 a1=some r):FnOK Tryz.prog 62 [] [.d (.slice (rowsF zOr a0)),.d (.int .i64 a1)] (.tup [.agg (zOa r.1),.d (.bool r.2)]) []:=by
 unfold rYfind at h0
 refine fn_ok (nt:=25) (rs:=[.cell 4 47,.tmp 5]) Tryz.func62 rfl Tryz.ntmps62 rfl (by simp) (by decide) rfl fun K=>?_
 refine kr [0,1,4] (by simp;rfl) ?_
 refine trq ?_
 refine kr [0,1,4,6] (by simp;rfl) ?_
 replace h0:=bnd h0;obtain⟨e1,hI1,h0⟩:=h0
 refine tjv (fun v1:Unit=>({ nt:=25,env:=[(4,.ptr 4 0)],box:=[(4,[.d (.int .i64 0),.d (.int .i64 0),.nilS,.nilS,.d (.int .i64 0),.nilS,.d (.str ByteArray.empty),.d (.int .i64 0)])],vec:=[]}:St)) (fun v1=>.inl v1=e1) (fun v1 hI1e _ W1=>?_) ?_
 ·subst hI1e
  dsimp only at h0
  refine tr_wk W1 ?_
  refine kr [4,5] (by simp;rfl) ?_
  cases h0
  exact trr ⟨[],by simp,rfl,by simp⟩
 ·refine trb (tr_iter (fun s2:Int=>({ nt:=25,env:=[(0,.d (.slice (rowsF zOr a0))),(1,.d (.int .i64 a1)),(4,.ptr 4 0),(6,.d (.int .i64 s2))],box:=[(4,[.d (.int .i64 0),.d (.int .i64 0),.nilS,.nilS,.d (.int .i64 0),.nilS,.d (.str ByteArray.empty),.d (.int .i64 0)])],vec:=[]}:St)) hI1 (wk (by simp[wkI])) fun G1 s2 o1 h1 hg1 he1=>?_)
  unfold rYfind_l0 at h1
  refine trq ?_
  refine kr [0,1,4,6,10] (by simp;rfl) ?_
  refine trc (b:=(decide (s2 < ((a0).length:Int)))) (by simp) (fun c5=>?_) (fun c5=>?_)
  ·rw[if_pos c5] at h1
   refine trk ?_
   refine trq ?_
   refine trb ?_
   replace h1:=bnd h1;obtain⟨x3,p3,h1⟩:=h1
   replace p3:=idx_some p3
   have p3':=p3;try simp at p3'
   refine kr [0,1,4,6,19] (by simp[p3,p3'];rfl) ?_
   refine trc (b:=(x3.ID==a1)) (by simp) (fun c6=>?_) (fun c6=>?_)
   ·rw[if_pos c6] at h1
    refine kr [4,5] (by simp[p3,p3'];rfl) ?_
    have k1:=he1 _ (Option.some.inj h1)
    subst k1
    dsimp only at h0
    cases h0
    exact trr ⟨[],by simp,rfl,by simp⟩
   ·rw[if_neg (by rw[c6];decide)] at h1
    refine trk ?_
    refine lr (by simp;rfl) ?_
    exact⟨_,hg1 _ (Option.some.inj h1),wk (by simp[wkI])⟩
  ·rw[if_neg (by rw[c5];decide)] at h1
   refine tr_exit ?_
   exact⟨_,he1 _ (Option.some.inj h1),wk (by simp[wkI])⟩
theorem rYkind_ok {a0:zR} {a1:Int} {r:Int} (h0:rYkind a0 a1=some r):FnOK Tryz.prog 81 [] [.agg (zRa a0),.d (.int .i64 a1)] (.d (.int .i64 r)) []:=by
 unfold rYkind at h0
 refine fn_ok (nt:=16) (rs:=[.tmp 4]) Tryz.func81 rfl Tryz.ntmps81 rfl (by simp) (by decide) rfl fun K=>?_
 refine kr [1,2] (by simp;rfl) ?_
 refine kc ?_
 refine ko [9,10] 3 (by simp;rfl) ?_
 replace h0:=bnd h0;obtain⟨y1,hy1,h0⟩:=h0
 refine kcall [11] [] (rYfind_ok hy1) rfl rfl rfl Tryz.call62 (by simp) (by simp;rfl) ?_
 refine ko [5] 6 (by simp;rfl) ?_
 refine tpN ?_
 refine kr [4] (by simp;rfl) ?_
 cases h0
 exact trr ⟨[],by simp,rfl,by simp⟩
theorem rYnamed_ok {a0:zR} {a1:zO} {r:Bool} (h0:rYnamed a0 a1=some r):FnOK Tryz.prog 80 [] [.agg (zRa a0),.agg (zOa a1)] (.d (.bool r)) []:=by
 unfold rYnamed at h0
 refine fn_ok (nt:=54) (rs:=[.tmp 4]) Tryz.func80 rfl Tryz.ntmps80 rfl (by simp) (by decide) rfl fun K=>?_
 refine kr [2,3] (by simp;rfl) ?_
 refine trq ?_
 refine kr [2,3,5] (by simp;rfl) ?_
 replace h0:=bnd h0;obtain⟨e1,hI1,h0⟩:=h0
 refine tjv (fun v1:Unit=>({ nt:=54,env:=[(2,.ptr 2 0),(3,.ptr 3 0)],box:=[(2,[.d (.slice (rowsF zOr a0.Objects)),.d (.slice (rowsF zEr a0.Events))]),(3,[.d (.int .i64 a1.ID),.d (.int .i64 a1.Kind),.d (.slice (rowsF (iRow .u8) a1.Data)),.d (.slice (rowsF zIr a1.Items)),.d (.int .i64 a1.Tree),.d (.slice (rowsF (iRow .i64) a1.Parents)),.d (.str a1.Author),.d (.int .i64 a1.Time)])],vec:=[]}:St)) (fun v1=>.inl v1=e1) (fun v1 hI1e _ W1=>?_) ?_
 ·subst hI1e
  dsimp only at h0
  refine tr_wk W1 ?_
  refine trq ?_
  refine kr [2,3,7] (by simp;rfl) ?_
  replace h0:=bnd h0;obtain⟨e2,hI2,h0⟩:=h0
  refine tjv (fun v2:Unit=>({ nt:=54,env:=[(2,.ptr 2 0),(3,.ptr 3 0)],box:=[(2,[.d (.slice (rowsF zOr a0.Objects)),.d (.slice (rowsF zEr a0.Events))]),(3,[.d (.int .i64 a1.ID),.d (.int .i64 a1.Kind),.d (.slice (rowsF (iRow .u8) a1.Data)),.d (.slice (rowsF zIr a1.Items)),.d (.int .i64 a1.Tree),.d (.slice (rowsF (iRow .i64) a1.Parents)),.d (.str a1.Author),.d (.int .i64 a1.Time)])],vec:=[]}:St)) (fun v2=>.inl v2=e2) (fun v2 hI2e _ W2=>?_) ?_
  ·subst hI2e
   dsimp only at h0
   refine tr_wk W2 ?_
   replace h0:=bnd h0;obtain⟨v3,hvv3,h0⟩:=h0
   refine sjv (fun v3_:Bool=>({ nt:=54,env:=[(4,.d (.bool v3_))],box:=[],vec:=[]}:St)) (fun v3_=>v3=v3_) (fun v3_ e=>?_) ?_
   ·subst e
    cases h0
    exact trr ⟨[],by simp,rfl,by simp⟩
   ·refine kc1 ?_
    refine ko [2,3,47] 4 (by simp;rfl) ?_
    refine tops_split 47 (a1.Kind != 3) (by simp) (fun c13=>?_) (fun c13=>?_)
    ·rw[if_pos c13] at hvv3
     refine kskip 5 [] (by kernel_rfl) ?_
     refine ko [4] 2 (by simp;rfl) ?_
     refine tpN ?_
     cases hvv3
     exact⟨_,rfl,wk (by simp[wkI])⟩
    ·rw[if_neg (by rw[c13];decide)] at hvv3
     refine ko [47,48,50] 3 (by simp;rfl) ?_
     replace hvv3:=bnd hvv3;obtain⟨y4,hy4,hvv3⟩:=hvv3
     refine kcall [47,51] [] (rYkind_ok hy4) rfl rfl rfl Tryz.call81 (by simp) (by simp;rfl) ?_
     refine ko [4] 3 (by simp;rfl) ?_
     refine tpN ?_
     cases hvv3
     exact⟨_,rfl,wk (by simp[wkI])⟩
  ·refine trb (tr_iter (fun s5:Int=>({ nt:=54,env:=[(2,.ptr 2 0),(3,.ptr 3 0),(7,.d (.int .i64 s5))],box:=[(2,[.d (.slice (rowsF zOr a0.Objects)),.d (.slice (rowsF zEr a0.Events))]),(3,[.d (.int .i64 a1.ID),.d (.int .i64 a1.Kind),.d (.slice (rowsF (iRow .u8) a1.Data)),.d (.slice (rowsF zIr a1.Items)),.d (.int .i64 a1.Tree),.d (.slice (rowsF (iRow .i64) a1.Parents)),.d (.str a1.Author),.d (.int .i64 a1.Time)])],vec:=[]}:St)) hI2 (wk (by simp[wkI])) fun G2 s5 o2 h2 hg2 he2=>?_)
   unfold rYnamed_l1 at h2
   refine trq ?_
   refine kr [2,3,7,33] (by simp;rfl) ?_
   refine trc (b:=(decide (s5 < ((a1.Parents).length:Int)))) (by simp) (fun c14=>?_) (fun c14=>?_)
   ·rw[if_pos c14] at h2
    refine trk ?_
    refine trq ?_
    refine trb ?_
    refine kd [[],[],[1],[],[2,3],[4],[0,5],[6]] [] [] none [] 8 fol (by decide +kernel) (by simp) ?_
    replace h2:=bnd h2;obtain⟨x6,p15,h2⟩:=h2
    replace p15:=idx_some p15
    have p15':=p15;try simp at p15'
    refine dr_go 0 2 rfl (by simp (maxSteps:=1000000) [p15,p15'];rfl) ?_
    refine dr_go 2 2 rfl (by simp (maxSteps:=1000000) [p15,p15'];rfl) ?_
    refine dr_go 4 2 rfl (by simp (maxSteps:=1000000) [p15,p15'];rfl) ?_
    replace h2:=bnd h2;obtain⟨y7,hy7,h2⟩:=h2
    refine dr_call 6 [] (rYkind_ok hy7) rfl rfl rfl rfl rfl Tryz.call81 (by simp) ?_
    refine dr_go 7 1 rfl (by simp (maxSteps:=1000000);rfl) ?_
    refine dr_end rfl (tpN ?_)
    refine trc (b:=(y7 != 3)) (by simp) (fun c15=>?_) (fun c15=>?_)
    ·rw[if_pos c15] at h2
     refine kr [4] (by simp;rfl) ?_
     have k1:=he2 _ (Option.some.inj h2)
     subst k1
     dsimp only at h0
     cases h0
     exact trr ⟨[],by simp,rfl,by simp⟩
    ·rw[if_neg (by rw[c15];decide)] at h2
     refine trk ?_
     refine lr (by simp;rfl) ?_
     exact⟨_,hg2 _ (Option.some.inj h2),wk (by simp[wkI])⟩
   ·rw[if_neg (by rw[c14];decide)] at h2
    refine tr_exit ?_
    exact⟨_,he2 _ (Option.some.inj h2),wk (by simp[wkI])⟩
 ·refine trb (tr_iter (fun s10:Int=>({ nt:=54,env:=[(2,.ptr 2 0),(3,.ptr 3 0),(5,.d (.int .i64 s10))],box:=[(2,[.d (.slice (rowsF zOr a0.Objects)),.d (.slice (rowsF zEr a0.Events))]),(3,[.d (.int .i64 a1.ID),.d (.int .i64 a1.Kind),.d (.slice (rowsF (iRow .u8) a1.Data)),.d (.slice (rowsF zIr a1.Items)),.d (.int .i64 a1.Tree),.d (.slice (rowsF (iRow .i64) a1.Parents)),.d (.str a1.Author),.d (.int .i64 a1.Time)])],vec:=[]}:St)) hI1 (wk (by simp[wkI])) fun G2 s10 o2 h2 hg2 he2=>?_)
  unfold rYnamed_l0 at h2
  refine trq ?_
  refine kr [2,3,5,12] (by simp;rfl) ?_
  refine trc (b:=(decide (s10 < ((a1.Items).length:Int)))) (by simp) (fun c16=>?_) (fun c16=>?_)
  ·rw[if_pos c16] at h2
   refine trk ?_
   refine trq ?_
   refine trb ?_
   refine kd [[],[],[1],[],[2,3],[4],[5],[0,6],[7]] [] [] none [] 9 fol (by decide +kernel) (by simp) ?_
   replace h2:=bnd h2;obtain⟨x11,p18,h2⟩:=h2
   replace p18:=idx_some p18
   have p18':=p18;try simp at p18'
   refine dr_go 0 2 rfl (by simp (maxSteps:=1000000) [p18,p18'];rfl) ?_
   refine dr_go 2 2 rfl (by simp (maxSteps:=1000000) [p18,p18'];rfl) ?_
   refine dr_go 4 2 rfl (by simp (maxSteps:=1000000) [p18,p18'];rfl) ?_
   refine dr_go 6 1 rfl (by simp (maxSteps:=1000000) [p18,p18'];rfl) ?_
   replace h2:=bnd h2;obtain⟨y12,hy12,h2⟩:=h2
   refine dr_call 7 [] (rYkind_ok hy12) rfl rfl rfl rfl rfl Tryz.call81 (by simp) ?_
   refine dr_go 8 1 rfl (by simp (maxSteps:=1000000);rfl) ?_
   refine dr_end rfl (tpN ?_)
   replace h2:=bnd h2;obtain⟨v13,hvv13,h2⟩:=h2
   refine sjv (fun v13_:Bool=>({ nt:=54,env:=[(2,.ptr 2 0),(3,.ptr 3 0),(5,.d (.int .i64 s10)),(28,.d (.bool v13_))],box:=[(2,[.d (.slice (rowsF zOr a0.Objects)),.d (.slice (rowsF zEr a0.Events))]),(3,[.d (.int .i64 a1.ID),.d (.int .i64 a1.Kind),.d (.slice (rowsF (iRow .u8) a1.Data)),.d (.slice (rowsF zIr a1.Items)),.d (.int .i64 a1.Tree),.d (.slice (rowsF (iRow .i64) a1.Parents)),.d (.str a1.Author),.d (.int .i64 a1.Time)])],vec:=[]}:St)) (fun v13_=>v13=v13_) (fun v13_ e=>?_) ?_
   ·subst e
    refine trc (b:=v13) (by simp) (fun c19=>?_) (fun c19=>?_)
    ·rw[if_pos c19] at h2
     refine kr [4] (by simp;rfl) ?_
     have k1:=he2 _ (Option.some.inj h2)
     subst k1
     dsimp only at h0
     cases h0
     exact trr ⟨[],by simp,rfl,by simp⟩
    ·rw[if_neg (by rw[c19];decide)] at h2
     refine trk ?_
     refine lr (by simp;rfl) ?_
     exact⟨_,hg2 _ (Option.some.inj h2),wk (by simp[wkI])⟩
   ·refine kc1 ?_
    refine ko [2,3,5,6,25] 3 (by simp;rfl) ?_
    refine tops_split 25 (y12 != 1) (by simp) (fun c20=>?_) (fun c20=>?_)
    ·rw[c20] at hvv13
     refine ko [2,3,5,26,27,28] 3 (by simp;rfl) ?_
     refine tpN ?_
     cases hvv13
     exact⟨_,rfl,wk (by simp[wkI])⟩
    ·rw[c20] at hvv13
     refine ko [2,3,5,26,27,28] 3 (by simp;rfl) ?_
     refine tpN ?_
     cases hvv13
     exact⟨_,rfl,wk (by simp[wkI])⟩
  ·rw[if_neg (by rw[c16];decide)] at h2
   refine tr_exit ?_
   exact⟨_,he2 _ (Option.some.inj h2),wk (by simp[wkI])⟩
theorem rYuntimed_ok {a0:List zE} {r:(List zE)} (h0:rYuntimed a0=some r):FnOK Tryz.prog 82 [] [.d (.slice (rowsF zEr a0))] (.d (.slice (rowsF zEr r))) []:=by
 unfold rYuntimed at h0
 refine fn_ok (nt:=22) (rs:=[.tmp 2]) Tryz.func82 rfl Tryz.ntmps82 rfl (by simp) (by decide) rfl fun K=>?_
 refine kr [0] (by simp;rfl) ?_
 refine kr [0,3] (by simp;rfl) ?_
 refine trq ?_
 refine kr [0,3,4] (by simp;rfl) ?_
 refine tr_wk (wk_own 3 20 60 4 (by simp) (by simp)) ?_
 replace h0:=bnd h0;obtain⟨e1,hI1,h0⟩:=h0
 refine tjv (fun v1:(List zE)=>({ nt:=22,env:=[(3,.vec 20)],box:=[],vec:=[(20,⟨60,4,rowsF zEr v1⟩)]}:St)) (fun v1=>v1=e1) (fun v1 hI1e _ W1=>?_) ?_
 ·subst hI1e
  refine tr_wk W1 ?_
  refine kr [2] (by simp;rfl) ?_
  cases h0
  exact trr ⟨[20],by simp,rfl,by simp⟩
 ·refine trb (tr_iter (fun s2:Int×(List zE)=>({ nt:=22,env:=[(0,.d (.slice (rowsF zEr a0))),(3,.vec 20),(4,.d (.int .i64 s2.1))],box:=[],vec:=[(20,⟨60,4,rowsF zEr s2.2⟩)]}:St)) hI1 (wk (by simp[wkI])) fun G1 s2 o1 h1 hg1 he1=>?_)
  unfold rYuntimed_l0 at h1
  refine trq ?_
  refine kr [0,3,4,9] (by simp;rfl) ?_
  refine trc (b:=(decide (s2.1 < ((a0).length:Int)))) (by simp) (fun c4=>?_) (fun c4=>?_)
  ·rw[if_pos c4] at h1
   refine trk ?_
   refine trq ?_
   refine trb ?_
   replace h1:=bnd h1;obtain⟨x3,p8,h1⟩:=h1
   replace p8:=idx_some p8
   have p8':=p8;try simp at p8'
   refine kr [0,3,4,5] (by simp[p8,p8'];rfl) ?_
   refine kr [0,3,4,5] (by simp;rfl) ?_
   replace h1:=bnd h1;obtain⟨_,p10,h1⟩:=h1
   replace p10:=ck_some p10
   have p10':=p10;try simp at p10'
   refine lr (by simp[p10,p10'];rfl) ?_
   refine lr (by simp;rfl) ?_
   exact⟨_,hg1 _ (Option.some.inj h1),wk (by simp[wkI])⟩
  ·rw[if_neg (by rw[c4];decide)] at h1
   refine tr_exit ?_
   exact⟨_,he1 _ (Option.some.inj h1),wk (by simp[wkI])⟩
theorem rYbelow_ok {a0:zO} {r:(List Int)} (h0:rYbelow a0=some r):FnOK Tryz.prog 100 [] [.agg (zOa a0)] (.d (.slice (rowsF (iRow .i64) r))) []:=by
 unfold rYbelow at h0
 refine fn_okK (nt:=33) (rs:=[.tmp 2]) Tryz.func100 rfl Tryz.ntmps100 rfl (by simp) (by decide) rfl fun K hK=>?_
 refine kr [1] (by simp;rfl) ?_
 refine kr [1,3] (by simp;rfl) ?_
 refine trq ?_
 refine kr [1,3,4] (by simp;rfl) ?_
 refine tr_wk (wk_own 3 20 3 1 (by simp) (by simp)) ?_
 replace h0:=bnd h0;obtain⟨e1,hI1,h0⟩:=h0
 refine tjv (fun v1:(List Int)=>({ nt:=33,env:=[(1,.ptr 1 0),(3,.vec 20)],box:=[(1,[.d (.int .i64 a0.ID),.d (.int .i64 a0.Kind),.d (.slice (rowsF (iRow .u8) a0.Data)),.d (.slice (rowsF zIr a0.Items)),.d (.int .i64 a0.Tree),.d (.slice (rowsF (iRow .i64) a0.Parents)),.d (.str a0.Author),.d (.int .i64 a0.Time)])],vec:=[(20,⟨3,1,rowsF (iRow .i64) v1⟩)]}:St)) (fun v1=>v1=e1) (fun v1 hI1e _ W1=>?_) ?_
 ·subst hI1e
  refine tr_wk W1 ?_
  refine trq ?_
  refine kr [1,3,23] (by simp;rfl) ?_
  refine trc (b:=(a0.Kind==3)) (by simp) (fun c4=>?_) (fun c4=>?_)
  ·rw[if_pos c4] at h0
   replace h0:=bnd h0;obtain⟨_,p11,h0⟩:=h0
   replace p11:=ck_some p11
   have p11':=p11;try simp at p11'
   replace h0:=bnd h0;obtain⟨_,p12,h0⟩:=h0
   replace p12:=ck_some p12
   have p12':=p12;try simp at p12'
   refine kheld1 (S0:=({ nt:=33,env:=[(3,.vec 31)],box:=[],vec:=[(31,⟨3,1,rowsF (iRow .i64) ((v1++[a0.Tree])++a0.Parents)⟩)]}:St)) [0,1,5] 6 (by simpa using hK) fol (by decide +kernel) rfl rfl rfl (by simp[stillsL,stillB,pureP,pureB,p11,p12,p11',p12'];rfl) (fun K' S F C=>?_) (fun _ Wk13=>?_)
   ·
    refine ho_all C [2,6] (by decide +kernel) (by decide) ?_
    refine hlC rfl (by simp[p11,p12,p11',p12'];rfl) ?_ ?_
    ·
     refine ho_all C [3,6] (by decide +kernel) (by decide) ?_
     refine hlC rfl (by simp[p11,p12,p11',p12'];rfl) ?_ ?_
     ·
      refine ho_all C [4,6] (by decide +kernel) (by decide) ?_
      refine hlC rfl (by simp[p11,p12,p11',p12'];rfl) ?_ ?_
      ·
       refine ho_all C [6] (by decide +kernel) (by decide) ?_
       refine hlC rfl (by simp[p11,p12,p11',p12'];rfl) ?_ ?_
       ·
        refine ho_all C [7] (by decide +kernel) (by decide) ?_
        refine hlC rfl (by simp[p11,p12,p11',p12'];rfl) ?_ ?_
        ·
         refine ho_pure C 8 rfl (by decide +kernel) (by decide +kernel) (by simp[pureP,pureB]) (by simp[p11,p12,p11',p12'];rfl) ?_
         exact ho_end C (by decide +kernel) ⟨rfl,wkI.2 (by simp)⟩
        exact trivial
       exact trivial
      refine hlC rfl (by simp[p11,p12,p11',p12'];rfl) ?_ ?_
      ·
       refine ho_all C [4] (by decide +kernel) (by decide) ?_
       refine hlC rfl (by simp[p11,p12,p11',p12'];rfl) ?_ ?_
       ·
        refine ho_all C [7] (by decide +kernel) (by decide) ?_
        refine hlC rfl (by simp[p11,p12,p11',p12'];rfl) ?_ ?_
        ·
         refine ho_pure C 8 rfl (by decide +kernel) (by decide +kernel) (by simp[pureP,pureB]) (by simp[p11,p12,p11',p12'];rfl) ?_
         exact ho_end C (by decide +kernel) ⟨rfl,wkI.2 (by simp)⟩
        exact trivial
       exact trivial
      exact trivial
     refine hlC rfl (by simp[p11,p12,p11',p12'];rfl) ?_ ?_
     ·
      refine ho_all C [3] (by decide +kernel) (by decide) ?_
      refine hlC rfl (by simp[p11,p12,p11',p12'];rfl) ?_ ?_
      ·
       refine ho_all C [4] (by decide +kernel) (by decide) ?_
       refine hlC rfl (by simp[p11,p12,p11',p12'];rfl) ?_ ?_
       ·
        refine ho_all C [7] (by decide +kernel) (by decide) ?_
        refine hlC rfl (by simp[p11,p12,p11',p12'];rfl) ?_ ?_
        ·
         refine ho_pure C 8 rfl (by decide +kernel) (by decide +kernel) (by simp[pureP,pureB]) (by simp[p11,p12,p11',p12'];rfl) ?_
         exact ho_end C (by decide +kernel) ⟨rfl,wkI.2 (by simp)⟩
        exact trivial
       exact trivial
      exact trivial
     exact trivial
    refine hlC rfl (by simp[p11,p12,p11',p12'];rfl) ?_ ?_
    ·
     refine ho_all C [2] (by decide +kernel) (by decide) ?_
     refine hlC rfl (by simp[p11,p12,p11',p12'];rfl) ?_ ?_
     ·
      refine ho_all C [3] (by decide +kernel) (by decide) ?_
      refine hlC rfl (by simp[p11,p12,p11',p12'];rfl) ?_ ?_
      ·
       refine ho_all C [4] (by decide +kernel) (by decide) ?_
       refine hlC rfl (by simp[p11,p12,p11',p12'];rfl) ?_ ?_
       ·
        refine ho_all C [7] (by decide +kernel) (by decide) ?_
        refine hlC rfl (by simp[p11,p12,p11',p12'];rfl) ?_ ?_
        ·
         refine ho_pure C 8 rfl (by decide +kernel) (by decide +kernel) (by simp[pureP,pureB]) (by simp[p11,p12,p11',p12'];rfl) ?_
         exact ho_end C (by decide +kernel) ⟨rfl,wkI.2 (by simp)⟩
        exact trivial
       exact trivial
      exact trivial
     exact trivial
    exact trivial
   ·
    refine tr_wk (wk Wk13) ?_
    refine kr [2] (by simp;rfl) ?_
    cases h0
    exact trr ⟨[31],by simp,rfl,by simp⟩
  ·rw[if_neg (by rw[c4];decide)] at h0
   refine trk ?_
   refine kr [2] (by simp;rfl) ?_
   cases h0
   exact trr ⟨[20],by simp,rfl,by simp⟩
 ·refine trb (tr_iter (fun s2:Int×(List Int)=>({ nt:=33,env:=[(1,.ptr 1 0),(3,.vec 20),(4,.d (.int .i64 s2.1))],box:=[(1,[.d (.int .i64 a0.ID),.d (.int .i64 a0.Kind),.d (.slice (rowsF (iRow .u8) a0.Data)),.d (.slice (rowsF zIr a0.Items)),.d (.int .i64 a0.Tree),.d (.slice (rowsF (iRow .i64) a0.Parents)),.d (.str a0.Author),.d (.int .i64 a0.Time)])],vec:=[(20,⟨3,1,rowsF (iRow .i64) s2.2⟩)]}:St)) hI1 (wk (by simp[wkI])) fun G1 s2 o1 h1 hg1 he1=>?_)
  unfold rYbelow_l0 at h1
  refine trq ?_
  refine kr [1,3,4,9] (by simp;rfl) ?_
  refine trc (b:=(decide (s2.1 < ((a0.Items).length:Int)))) (by simp) (fun c5=>?_) (fun c5=>?_)
  ·rw[if_pos c5] at h1
   refine trk ?_
   refine trq ?_
   refine trb ?_
   replace h1:=bnd h1;obtain⟨x3,p16,h1⟩:=h1
   replace p16:=idx_some p16
   have p16':=p16;try simp at p16'
   replace h1:=bnd h1;obtain⟨_,p17,h1⟩:=h1
   replace p17:=ck_some p17
   have p17':=p17;try simp at p17'
   refine lr (by simp[p16,p17,p16',p17'];rfl) ?_
   refine lr (by simp;rfl) ?_
   exact⟨_,hg1 _ (Option.some.inj h1),wk (by simp[wkI])⟩
  ·rw[if_neg (by rw[c5];decide)] at h1
   refine tr_exit ?_
   exact⟨_,he1 _ (Option.some.inj h1),wk (by simp[wkI])⟩
theorem rYcyclic_ok {a0:zR} {r:Bool} (h0:rYcyclic a0=some r):FnOK Tryz.prog 83 [] [.agg (zRa a0)] (.d (.bool r)) []:=by
 unfold rYcyclic at h0
 refine fn_ok (nt:=56) (rs:=[.tmp 2]) Tryz.func83 rfl Tryz.ntmps83 rfl (by simp) (by decide) rfl fun K=>?_
 refine kr [1] (by simp;rfl) ?_
 refine kr [1,3] (by simp;rfl) ?_
 refine trq ?_
 refine kr [1,3,4] (by simp;rfl) ?_
 replace h0:=bnd h0;obtain⟨e1,hI1,h0⟩:=h0
 refine tjv (fun v1:(List (Int×Bool))=>({ nt:=56,env:=[(1,.ptr 1 0),(3,.vec 10)],box:=[(1,[.d (.slice (rowsF zOr a0.Objects)),.d (.slice (rowsF zEr a0.Events))])],vec:=[(10,⟨mTag 75 1 false false,2,rowsF (mRow (iRow .i64) bRow) v1⟩)]}:St)) (fun v1=>v1=e1) (fun v1 hI1e _ W1=>?_) ?_
 ·subst hI1e
  refine tr_wk W1 ?_
  refine kr [2] (by simp;rfl) ?_
  cases h0
  exact trr ⟨[],by simp,rfl,by simp⟩
 ·refine trb (tr_iter (fun s2:Bool×(List (Int×Bool))=>({ nt:=56,env:=[(1,.ptr 1 0),(3,.vec 10),(4,.d (.bool s2.1))],box:=[(1,[.d (.slice (rowsF zOr a0.Objects)),.d (.slice (rowsF zEr a0.Events))])],vec:=[(10,⟨mTag 75 1 false false,2,rowsF (mRow (iRow .i64) bRow) s2.2⟩)]}:St)) hI1 (wk (by simp[wkI])) fun G1 s2 o1 h1 hg1 he1=>?_)
  unfold rYcyclic_l0 at h1
  refine trq ?_
  refine kr [1,3,11] (by simp;rfl) ?_
  refine trc (b:=s2.1) (by simp) (fun c26=>?_) (fun c26=>?_)
  ·rw[if_pos c26] at h1
   refine trk ?_
   refine trb ?_
   refine kr [1,3,4] (by simp;rfl) ?_
   refine kr [1,3,4,5] (by simp;rfl) ?_
   replace h1:=bnd h1;obtain⟨e2,hI2,h1⟩:=h1
   refine tjv (fun v3:Bool×(List (Int×Bool))=>({ nt:=56,env:=[(1,.ptr 1 0),(3,.vec 10),(4,.d (.bool v3.1))],box:=[(1,[.d (.slice (rowsF zOr a0.Objects)),.d (.slice (rowsF zEr a0.Events))])],vec:=[(10,⟨mTag 75 1 false false,2,rowsF (mRow (iRow .i64) bRow) v3.2⟩)]}:St)) (fun v3=>v3=e2) (fun v3 hI2e _ W2=>?_) ?_
   ·subst hI2e
    exact⟨_,hg1 _ (Option.some.inj h1),Wk.trans (W2) (wk (by simp[wkI]))⟩
   ·refine trb (tr_iter (fun s4:Bool×Int×(List (Int×Bool))=>({ nt:=56,env:=[(1,.ptr 1 0),(3,.vec 10),(4,.d (.bool s4.1)),(5,.d (.int .i64 s4.2.1))],box:=[(1,[.d (.slice (rowsF zOr a0.Objects)),.d (.slice (rowsF zEr a0.Events))])],vec:=[(10,⟨mTag 75 1 false false,2,rowsF (mRow (iRow .i64) bRow) s4.2.2⟩)]}:St)) hI2 (wk (by simp[wkI])) fun G2 s4 o2 h2 hg2 he2=>?_)
    unfold rYcyclic_l1 at h2
    refine trq ?_
    refine kr [1,3,4,5,16] (by simp;rfl) ?_
    refine trc (b:=(decide (s4.2.1 < ((a0.Objects).length:Int)))) (by simp) (fun c39=>?_) (fun c39=>?_)
    ·rw[if_pos c39] at h2
     refine trk ?_
     refine trq ?_
     refine trb ?_
     replace h2:=bnd h2;obtain⟨x5,p19,h2⟩:=h2
     replace p19:=idx_some p19
     have p19':=p19;try simp at p19'
     refine kr [1,3,4,5,6] (by simp[p19,p19'];rfl) ?_
     refine kr [1,3,4,5,6,7] (by simp;rfl) ?_
     refine kc ?_
     refine ko [1,3,4,5,6,7,29] 1 (by simp;rfl) ?_
     replace h2:=bnd h2;obtain⟨y6,hy6,h2⟩:=h2
     refine kcall [1,3,4,5,6,7,30] [] (rYbelow_ok hy6) rfl rfl rfl Tryz.call100 (by simp) (by simp;rfl) ?_
     refine ko [1,3,4,5,6,7,8] 1 (by simp;rfl) ?_
     refine tpN ?_
     refine trq ?_
     refine kr [1,3,4,5,6,7,8,9] (by simp;rfl) ?_
     replace h2:=bnd h2;obtain⟨e3,hI3,h2⟩:=h2
     refine tjv (fun v7:Bool=>({ nt:=56,env:=[(1,.ptr 1 0),(3,.vec 10),(4,.d (.bool s4.1)),(5,.d (.int .i64 s4.2.1)),(6,.ptr 6 0),(7,.d (.bool v7))],box:=[(1,[.d (.slice (rowsF zOr a0.Objects)),.d (.slice (rowsF zEr a0.Events))]),(6,[.d (.int .i64 x5.ID),.d (.int .i64 x5.Kind),.d (.slice (rowsF (iRow .u8) x5.Data)),.d (.slice (rowsF zIr x5.Items)),.d (.int .i64 x5.Tree),.d (.slice (rowsF (iRow .i64) x5.Parents)),.d (.str x5.Author),.d (.int .i64 x5.Time)])],vec:=[(10,⟨mTag 75 1 false false,2,rowsF (mRow (iRow .i64) bRow) s4.2.2⟩)]}:St)) (fun v7=>v7=e3) (fun v7 hI3e _ W3=>?_) ?_
     ·subst hI3e
      refine tr_wk W3 ?_
      refine kr [1,3,4,5,6,46] (by simp;rfl) ?_
      refine trc (b:=v7) (by simp) (fun c44=>?_) (fun c44=>?_)
      ·rw[if_pos c44] at h2
       refine lr (by simp;rfl) ?_
       refine lr (by simp;rfl) ?_
       exact⟨_,hg2 _ (Option.some.inj h2),wk (by simp[wkI])⟩
      ·rw[if_neg (by rw[c44];decide)] at h2
       refine trk ?_
       refine lr (by simp;rfl) ?_
       exact⟨_,hg2 _ (Option.some.inj h2),wk (by simp[wkI])⟩
     ·refine trb (tr_iter (fun s8:Bool×Int=>({ nt:=56,env:=[(1,.ptr 1 0),(3,.vec 10),(4,.d (.bool s4.1)),(5,.d (.int .i64 s4.2.1)),(6,.ptr 6 0),(7,.d (.bool s8.1)),(8,.d (.slice (rowsF (iRow .i64) y6))),(9,.d (.int .i64 s8.2))],box:=[(1,[.d (.slice (rowsF zOr a0.Objects)),.d (.slice (rowsF zEr a0.Events))]),(6,[.d (.int .i64 x5.ID),.d (.int .i64 x5.Kind),.d (.slice (rowsF (iRow .u8) x5.Data)),.d (.slice (rowsF zIr x5.Items)),.d (.int .i64 x5.Tree),.d (.slice (rowsF (iRow .i64) x5.Parents)),.d (.str x5.Author),.d (.int .i64 x5.Time)])],vec:=[(10,⟨mTag 75 1 false false,2,rowsF (mRow (iRow .i64) bRow) s4.2.2⟩)]}:St)) hI3 (wk (by simp[wkI])) fun G3 s8 o3 h3 hg3 he3=>?_)
      unfold rYcyclic_l2 at h3
      refine trq ?_
      replace h3:=bnd h3;obtain⟨v9,hvv9,h3⟩:=h3
      refine sjv (fun v9_:Bool=>({ nt:=56,env:=[(1,.ptr 1 0),(3,.vec 10),(4,.d (.bool s4.1)),(5,.d (.int .i64 s4.2.1)),(6,.ptr 6 0),(7,.d (.bool s8.1)),(8,.d (.slice (rowsF (iRow .i64) y6))),(9,.d (.int .i64 s8.2)),(37,.d (.bool v9_))],box:=[(1,[.d (.slice (rowsF zOr a0.Objects)),.d (.slice (rowsF zEr a0.Events))]),(6,[.d (.int .i64 x5.ID),.d (.int .i64 x5.Kind),.d (.slice (rowsF (iRow .u8) x5.Data)),.d (.slice (rowsF zIr x5.Items)),.d (.int .i64 x5.Tree),.d (.slice (rowsF (iRow .i64) x5.Parents)),.d (.str x5.Author),.d (.int .i64 x5.Time)])],vec:=[(10,⟨mTag 75 1 false false,2,rowsF (mRow (iRow .i64) bRow) s4.2.2⟩)]}:St)) (fun v9_=>v9=v9_) (fun v9_ e=>?_) ?_
      ·subst e
       refine trc (b:=v9) (by simp) (fun c47=>?_) (fun c47=>?_)
       ·rw[if_pos c47] at h3
        refine trk ?_
        refine trq ?_
        refine trb ?_
        replace h3:=bnd h3;obtain⟨x10,p22,h3⟩:=h3
        replace p22:=idx_some p22
        have p22':=p22;try simp at p22'
        refine lr (by simp[p22,p22'];rfl) ?_
        refine lr (by simp;rfl) ?_
        exact⟨_,hg3 _ (Option.some.inj h3),wk (by simp[wkI])⟩
       ·rw[if_neg (by rw[c47];decide)] at h3
        refine tr_exit ?_
        exact⟨_,he3 _ (Option.some.inj h3),wk (by simp[wkI])⟩
      ·refine kc1 ?_
       refine ko [1,3,4,5,6,7,8,9,35] 5 (by simp;rfl) ?_
       refine tops_split 35 (decide (s8.2 < ((y6).length:Int))) (by simp) (fun c48=>?_) (fun c48=>?_)
       ·rw[c48] at hvv9
        refine ko [1,3,4,5,6,7,8,9,36,37] 2 (by simp;rfl) ?_
        refine tpN ?_
        cases hvv9
        exact⟨_,rfl,wk (by simp[wkI])⟩
       ·rw[c48] at hvv9
        refine ko [1,3,4,5,6,7,8,9,36,37] 2 (by simp;rfl) ?_
        refine tpN ?_
        cases hvv9
        exact⟨_,rfl,wk (by simp[wkI])⟩
    ·rw[if_neg (by rw[c39];decide)] at h2
     refine tr_exit ?_
     exact⟨_,he2 _ (Option.some.inj h2),wk (by simp[wkI])⟩
  ·rw[if_neg (by rw[c26];decide)] at h1
   refine tr_exit ?_
   exact⟨_,he1 _ (Option.some.inj h1),wk (by simp[wkI])⟩
theorem sYClone_int_ok {a0:List Int} {r:List Int} (h0:sYClone_int a0=some r):FnOK Tryz.prog 95 [] [.d (.slice (rowsF (iRow .i64) a0))] (.d (.slice (rowsF (iRow .i64) r))) []:=by
 unfold sYClone_int at h0
 replace h0:=bnd h0;obtain⟨_,p1,h0⟩:=h0;replace p1:=ck_some p1;cases h0
 refine fn_ok (nt:=8) (rs:=[.tmp 2]) Tryz.func95 rfl Tryz.ntmps95 rfl (by simp) (by decide) rfl fun K=>?_
 refine kr [0,2] (by simp;rfl) ?_
 cases a0 with
 |nil=>
  refine trq ?_
  refine kc ?_
  refine ko [0,3] 1 (by simp;rfl) ?_
  refine tops_isnil (by simp) rfl rfl (by simp) Tryz.underlying22 (by simp) (by simp) fun b=>?_
  refine tpN ?_
  refine trc (b:=b) (by simp) (fun cb=>?_) (fun cb=>?_)
  ·refine kr [2] (by simp;rfl) ?_
   exact trr ⟨[],by simp,rfl,by simp⟩
  ·refine trk ?_
   refine kr [2] (by simp;rfl) ?_
   exact trr ⟨[7],by simp,rfl,by simp⟩
 |cons x l=>
  refine trq ?_
  refine kr [0,4] (by simp;rfl) ?_
  refine trc (b:=false) (by simp) (fun h=>by cases h) (fun _=>?_)
  refine trk ?_
  have p2:=p1;simp at p2
  refine kr [2] (by simp[p1,p2];rfl) ?_
  exact trr ⟨[7],by simp,rfl,by simp⟩
theorem rYascending_ok {a0:zR} {a1:List (Int×Bool)} {r:(List Int)} (h0:rYascending a0 a1=some r):FnOK Tryz.prog 57 [] [.agg (zRa a0),.d (.mp (mTag 75 1 false false) 2 (rowsF (mRow (iRow .i64) bRow) a1))] (.d (.slice (rowsF (iRow .i64) r))) []:=by
 unfold rYascending at h0
 refine fn_ok (nt:=55) (rs:=[.tmp 4]) Tryz.func57 rfl Tryz.ntmps57 rfl (by simp) (by decide) rfl fun K=>?_
 refine kr [1,2] (by simp;rfl) ?_
 refine kr [1,2,5] (by simp;rfl) ?_
 refine trq ?_
 refine kr [1,2,5,6] (by simp;rfl) ?_
 refine tr_wk (wk_own 5 53 3 1 (by simp) (by simp)) ?_
 replace h0:=bnd h0;obtain⟨e1,hI1,h0⟩:=h0
 refine tjv (fun v1:(List Int)=>({ nt:=55,env:=[(5,.vec 53)],box:=[],vec:=[(53,⟨3,1,rowsF (iRow .i64) v1⟩)]}:St)) (fun v1=>v1=e1) (fun v1 hI1e _ W1=>?_) ?_
 ·subst hI1e
  refine tr_wk W1 ?_
  refine kr [4] (by simp;rfl) ?_
  cases h0
  exact trr ⟨[53],by simp,rfl,by simp⟩
 ·refine trb (tr_iter (fun s2:Int×(List Int)=>({ nt:=55,env:=[(1,.d (.mp (mTag 75 1 false false) 2 (rowsF (mRow (iRow .i64) bRow) a1))),(2,.ptr 2 0),(5,.vec 53),(6,.d (.int .i64 s2.1))],box:=[(2,[.d (.slice (rowsF zOr a0.Objects)),.d (.slice (rowsF zEr a0.Events))])],vec:=[(53,⟨3,1,rowsF (iRow .i64) s2.2⟩)]}:St)) hI1 (wk (by simp[wkI])) fun G1 s2 o1 h1 hg1 he1=>?_)
  unfold rYascending_l0 at h1
  refine trq ?_
  refine kr [1,2,5,6,14] (by simp;rfl) ?_
  refine trc (b:=(decide (s2.1 < ((a0.Objects).length:Int)))) (by simp) (fun c19=>?_) (fun c19=>?_)
  ·rw[if_pos c19] at h1
   refine trk ?_
   refine trq ?_
   refine trb ?_
   replace h1:=bnd h1;obtain⟨x3,p38,h1⟩:=h1
   replace p38:=idx_some p38
   have p38':=p38;try simp at p38'
   refine kr [1,2,5,6,7] (by simp[p38,p38'];rfl) ?_
   refine trq ?_
   refine kr [1,2,5,6,7,26] (by simp;rfl) ?_
   refine trc (b:=(!((mget inE a1 x3.ID).getD false))) (by simp) (fun c20=>?_) (fun c20=>?_)
   ·rw[if_pos c20] at h1
    refine tr_exit ?_
    refine lr (by simp;rfl) ?_
    exact⟨_,hg1 _ (Option.some.inj h1),wk (by simp[wkI])⟩
   ·rw[if_neg (by rw[c20];decide)] at h1
    refine trk ?_
    refine kr [1,2,5,6,7,8] (by simp;rfl) ?_
    replace h1:=bnd h1;obtain⟨e2,hI2,h1⟩:=h1
    refine sjv (fun v4:Int=>({ nt:=55,env:=[(1,.d (.mp (mTag 75 1 false false) 2 (rowsF (mRow (iRow .i64) bRow) a1))),(2,.ptr 2 0),(5,.vec 53),(6,.d (.int .i64 s2.1)),(7,.d (.int .i64 x3.ID)),(8,.d (.int .i64 v4))],box:=[(2,[.d (.slice (rowsF zOr a0.Objects)),.d (.slice (rowsF zEr a0.Events))])],vec:=[(53,⟨3,1,rowsF (iRow .i64) s2.2⟩)]}:St)) (fun v4=>v4=e2) (fun v4 hI2e=>?_) ?_
    ·subst hI2e
     replace h1:=bnd h1;obtain⟨_,p46,h1⟩:=h1
     replace p46:=ck_some p46
     have p46':=p46;try simp at p46'
     replace h1:=bnd h1;obtain⟨_,p47,h1⟩:=h1
     replace p47:=ck_some p47
     have p47':=p47;try simp at p47'
     replace h1:=bnd h1;obtain⟨_,p48,h1⟩:=h1
     replace p48:=ck_some p48
     have p48':=p48;try simp at p48'
     refine kr [1,2,5,6,8,9] (by simp[p46,p47,p48,p46',p47',p48'];rfl) ?_
     refine kc1 ?_
     refine ko [1,2,6,9,48,49,50] 3 (by simp;rfl) ?_
     refine tops_frz 53 ?_
     replace h1:=bnd h1;obtain⟨_,p49,h1⟩:=h1
     replace p49:=ck_some p49
     have p49':=p49;try simp at p49'
     replace h1:=bnd h1;obtain⟨_,p50,h1⟩:=h1
     replace p50:=ck_some p50
     have p50':=p50;try simp at p50'
     have q50:v4.toNat+(s2.2.length - v4.toNat+1)≤268435456:=by
      have h1:=p46.1;have h2:=p46.2.1;have h3:=p48
      have h4:=p50
      simp at h3 h4
      omega
     refine ko [1,2,5,6] 4 (by simp[p49,p50,p49',p50',q50];rfl) ?_
     refine tpN ?_
     refine lr (by simp;rfl) ?_
     exact⟨_,hg1 _ (Option.some.inj h1),wk (by simp[wkI])⟩
    ·refine trb (tr_iter (fun s5:Int=>({ nt:=55,env:=[(1,.d (.mp (mTag 75 1 false false) 2 (rowsF (mRow (iRow .i64) bRow) a1))),(2,.ptr 2 0),(5,.vec 53),(6,.d (.int .i64 s2.1)),(7,.d (.int .i64 x3.ID)),(8,.d (.int .i64 s5))],box:=[(2,[.d (.slice (rowsF zOr a0.Objects)),.d (.slice (rowsF zEr a0.Events))])],vec:=[(53,⟨3,1,rowsF (iRow .i64) s2.2⟩)]}:St)) hI2 (wk (by simp[wkI])) fun G2 s5 o2 h2 hg2 he2=>?_)
     unfold rYascending_l1 at h2
     refine trq ?_
     replace h2:=bnd h2;obtain⟨v6,hvv6,h2⟩:=h2
     refine sjv (fun v6_:Bool=>({ nt:=55,env:=[(1,.d (.mp (mTag 75 1 false false) 2 (rowsF (mRow (iRow .i64) bRow) a1))),(2,.ptr 2 0),(5,.vec 53),(6,.d (.int .i64 s2.1)),(7,.d (.int .i64 x3.ID)),(8,.d (.int .i64 s5)),(39,.d (.bool v6_))],box:=[(2,[.d (.slice (rowsF zOr a0.Objects)),.d (.slice (rowsF zEr a0.Events))])],vec:=[(53,⟨3,1,rowsF (iRow .i64) s2.2⟩)]}:St)) (fun v6_=>v6=v6_) (fun v6_ e=>?_) ?_
     ·subst e
      refine trc (b:=v6) (by simp) (fun c27=>?_) (fun c27=>?_)
      ·rw[if_pos c27] at h2
       refine trk ?_
       refine trb ?_
       refine lr (by simp;rfl) ?_
       exact⟨_,hg2 _ (Option.some.inj h2),wk (by simp[wkI])⟩
      ·rw[if_neg (by rw[c27];decide)] at h2
       refine tr_exit ?_
       exact⟨_,he2 _ (Option.some.inj h2),wk (by simp[wkI])⟩
     ·refine kc1 ?_
      refine ko [1,2,5,6,7,8,31] 3 (by simp;rfl) ?_
      refine tops_split 31 (decide (0 < s5)) (by simp) (fun c28=>?_) (fun c28=>?_)
      ·rw[if_pos c28] at hvv6
       replace hvv6:=bnd hvv6;obtain⟨_,p55,hvv6⟩:=hvv6
       replace p55:=ck_some p55
       have p55':=p55;try simp at p55'
       have p55o:IntKind.i64.wrap (s5 - 1) < (((s2.2)).length:Int):=by omega
       replace hvv6:=bnd hvv6;obtain⟨x7,p56,hvv6⟩:=hvv6
       replace p56:=idx_some p56
       have p56':=p56;try simp at p56'
       refine ko [1,2,5,6,7,8,32,33,34,35,36,37,38,39] 8 (by simp[-getElem?_pos,List.getElem?_cons_zero,List.getElem?_cons_succ,p55,p55o,p56,p55',p56'];rfl) ?_
       refine tpN ?_
       cases hvv6
       exact⟨_,rfl,wk (by simp[wkI])⟩
      ·rw[if_neg (by rw[c28];decide)] at hvv6
       refine kskip 7 [] (by kernel_rfl) ?_
       refine ko [1,2,5,6,7,8,39] 1 (by simp;rfl) ?_
       refine tpN ?_
       cases hvv6
       exact⟨_,rfl,wk (by simp[wkI])⟩
  ·rw[if_neg (by rw[c19];decide)] at h1
   refine tr_exit ?_
   exact⟨_,he1 _ (Option.some.inj h1),wk (by simp[wkI])⟩
theorem sYClone_byte_ok {a0:List Int} {r:List Int} (h0:sYClone_byte a0=some r):FnOK Tryz.prog 93 [] [.d (.slice (rowsF (iRow .u8) a0))] (.d (.slice (rowsF (iRow .u8) r))) []:=by
 unfold sYClone_byte at h0
 replace h0:=bnd h0;obtain⟨_,p1,h0⟩:=h0;replace p1:=ck_some p1;cases h0
 refine fn_ok (nt:=8) (rs:=[.tmp 2]) Tryz.func93 rfl Tryz.ntmps93 rfl (by simp) (by decide) rfl fun K=>?_
 refine kr [0,2] (by simp;rfl) ?_
 cases a0 with
 |nil=>
  refine trq ?_
  refine kc ?_
  refine ko [0,3] 1 (by simp;rfl) ?_
  refine tops_isnil (by simp) rfl rfl (by simp) Tryz.underlying45 (by simp) (by simp) fun b=>?_
  refine tpN ?_
  refine trc (b:=b) (by simp) (fun cb=>?_) (fun cb=>?_)
  ·refine kr [2] (by simp;rfl) ?_
   exact trr ⟨[],by simp,rfl,by simp⟩
  ·refine trk ?_
   refine kr [2] (by simp;rfl) ?_
   exact trr ⟨[7],by simp,rfl,by simp⟩
 |cons x l=>
  refine trq ?_
  refine kr [0,4] (by simp;rfl) ?_
  refine trc (b:=false) (by simp) (fun h=>by cases h) (fun _=>?_)
  refine trk ?_
  have p2:=p1;simp at p2
  refine kr [2] (by simp[p1,p2];rfl) ?_
  exact trr ⟨[7],by simp,rfl,by simp⟩
theorem sYClone_api_Item_ok {a0:List zI} {r:List zI} (h0:sYClone_api_Item a0=some r):FnOK Tryz.prog 94 [] [.d (.slice (rowsF zIr a0))] (.d (.slice (rowsF zIr r))) []:=by
 unfold sYClone_api_Item at h0
 replace h0:=bnd h0;obtain⟨_,p1,h0⟩:=h0;replace p1:=ck_some p1;cases h0
 refine fn_ok (nt:=8) (rs:=[.tmp 2]) Tryz.func94 rfl Tryz.ntmps94 rfl (by simp) (by decide) rfl fun K=>?_
 refine kr [0,2] (by simp;rfl) ?_
 cases a0 with
 |nil=>
  refine trq ?_
  refine kc ?_
  refine ko [0,3] 1 (by simp;rfl) ?_
  refine tops_isnil (by simp) rfl rfl (by simp) Tryz.underlying40 (by simp) (by simp) fun b=>?_
  refine tpN ?_
  refine trc (b:=b) (by simp) (fun cb=>?_) (fun cb=>?_)
  ·refine kr [2] (by simp;rfl) ?_
   exact trr ⟨[],by simp,rfl,by simp⟩
  ·refine trk ?_
   refine kr [2] (by simp;rfl) ?_
   exact trr ⟨[7],by simp,rfl,by simp⟩
 |cons x l=>
  refine trq ?_
  refine kr [0,4] (by simp;rfl) ?_
  refine trc (b:=false) (by simp) (fun h=>by cases h) (fun _=>?_)
  refine trk ?_
  have p2:=p1;simp at p2
  refine kr [2] (by simp[p1,p2];rfl) ?_
  exact trr ⟨[7],by simp,rfl,by simp⟩
theorem oYCopied_ok {a0:zO} {r:zO} (h0:oYCopied a0=some r):FnOK Tryz.prog 61 [] [.agg (zOa a0)] (.agg (zOa r)) []:=by
 unfold oYCopied at h0
 refine fn_ok (nt:=16) (rs:=[.cell 2 47]) Tryz.func61 rfl Tryz.ntmps61 rfl (by simp) (by decide) rfl fun K=>?_
 refine kr [1,2] (by simp;rfl) ?_
 refine kd [[],[0],[1],[],[3],[4],[],[6],[7],[],[1,2,4,7,9],[],[1,4,5,7,10,11],[],[1,4,7,8,10,12,13]] [10,12,14] [(1,[10,12,14])] none [] 15 fol (by decide +kernel) (by simp) ?_
 refine dr_go 0 2 rfl (by simp (maxSteps:=1000000);rfl) ?_
 replace h0:=bnd h0;obtain⟨y1,hy1,h0⟩:=h0
 refine dr_call 2 [] (sYClone_byte_ok hy1) rfl rfl rfl rfl rfl Tryz.call93 (by simp) ?_
 refine dr_go 3 2 rfl (by simp (maxSteps:=1000000);rfl) ?_
 replace h0:=bnd h0;obtain⟨y2,hy2,h0⟩:=h0
 refine dr_call 5 [] (sYClone_api_Item_ok hy2) rfl rfl rfl rfl rfl Tryz.call94 (by simp) ?_
 refine dr_go 6 2 rfl (by simp (maxSteps:=1000000);rfl) ?_
 replace h0:=bnd h0;obtain⟨y3,hy3,h0⟩:=h0
 refine dr_call 8 [] (sYClone_int_ok hy3) rfl rfl rfl rfl rfl Tryz.call95 (by simp) ?_
 refine dr_go 9 2 rfl (by simp (maxSteps:=1000000);rfl) ?_
 refine dr_go 11 2 rfl (by simp (maxSteps:=1000000);rfl) ?_
 refine dr_go 13 2 rfl (by simp (maxSteps:=1000000);rfl) ?_
 refine dr_end rfl (tpN ?_)
 refine kr [2] (by simp;rfl) ?_
 cases h0
 exact trr ⟨[],by simp,rfl,by simp⟩
theorem hYFind_ok {a0:zR} {a1:Int} {r:zO×Bool} (h0:hYFind a0 a1=some r):FnOK Tryz.prog 22 [] [.agg (zRa a0),.d (.int .i64 a1)] (.tup [.agg (zOa r.1),.d (.bool r.2)]) []:=by
 unfold hYFind at h0
 refine fn_ok (nt:=28) (rs:=[.cell 4 47,.tmp 5]) Tryz.func22 rfl Tryz.ntmps22 rfl (by simp) (by decide) rfl fun K=>?_
 refine kr [1,2,4] (by simp;rfl) ?_
 refine trq ?_
 refine kc ?_
 refine ko [1,2,4,10] 1 (by simp;rfl) ?_
 replace h0:=bnd h0;obtain⟨y1,hy1,h0⟩:=h0
 refine kcall [1,2,4,11] [] (hYValid_ok hy1) rfl rfl rfl Tryz.call7 (by simp) (by simp;rfl) ?_
 refine ko [1,2,4,12] 1 (by simp;rfl) ?_
 refine tpN ?_
 refine trc (b:=(y1 != 0)) (by simp) (fun c1=>?_) (fun c1=>?_)
 ·rw[if_pos c1] at h0
  refine kr [4,5] (by simp;rfl) ?_
  cases h0
  exact trr ⟨[],by simp,rfl,by simp⟩
 ·rw[if_neg (by rw[c1];decide)] at h0
  refine trk ?_
  refine kc ?_
  refine ko [1,4,15] 1 (by simp;rfl) ?_
  replace h0:=bnd h0;obtain⟨y2,hy2,h0⟩:=h0
  refine kcall [1,4,16] [] (hYindex_ok hy2) rfl rfl rfl Tryz.call34 (by simp) (by simp;rfl) ?_
  refine ko [1,4,6] 5 (by simp;rfl) ?_
  refine tpN ?_
  refine kr [4,8,9] (by simp;rfl) ?_
  refine kc ?_
  refine ko [4,9,25] 1 (by simp;rfl) ?_
  replace h0:=bnd h0;obtain⟨y3,hy3,h0⟩:=h0
  refine kcall [4,9,26] [] (oYCopied_ok hy3) rfl rfl rfl Tryz.call61 (by simp) (by simp;rfl) ?_
  refine ko [4,5] 3 (by simp;rfl) ?_
  refine tpN ?_
  cases h0
  exact trr ⟨[],by simp,rfl,by simp⟩
theorem lYawake_ok {r:Bool} (h0:lYawake=some r):FnOK Tryz.prog 24 [] [] (.d (.bool r)) []:=by
 unfold lYawake at h0
 refine fn_ok (nt:=28) (rs:=[.tmp 0]) Tryz.func24 rfl Tryz.ntmps24 rfl (by simp) (by decide) rfl fun K=>?_
 refine kr [] (by simp;rfl) ?_
 refine kr [1] (by simp;rfl) ?_
 refine kr [1] (by simp;rfl) ?_
 replace h0:=bnd h0;obtain⟨v1,hvv1,h0⟩:=h0
 refine sjv (fun v1_:Bool=>({ nt:=28,env:=[(0,.d (.bool v1_))],box:=[],vec:=[]}:St)) (fun v1_=>v1=v1_) (fun v1_ e=>?_) ?_
 ·subst e
  cases h0
  exact trr ⟨[],by simp,rfl,by simp⟩
 ·refine kc1 ?_
  refine ko [1,11] 1 (by simp;rfl) ?_
  refine tops_wk (wk_frz 5) ?_
  refine tops_wk (wk_frz 9) ?_
  replace hvv1:=bnd hvv1;obtain⟨y2,hy2,hvv1⟩:=hvv1
  refine kcall [1,12] [] (hYReachable_ok hy2) rfl rfl rfl Tryz.call16 (by simp) (by simp;rfl) ?_
  refine ko [1,15] 3 (by simp;rfl) ?_
  refine tops_split 15 (((y2).length:Int)==2) (by simp) (fun c5=>?_) (fun c5=>?_)
  ·rw[if_pos c5] at hvv1
   refine ko [1,15,16] 1 (by simp;rfl) ?_
   replace hvv1:=bnd hvv1;obtain⟨y3,hy3,hvv1⟩:=hvv1
   refine kcall [1,15,17] [] (hYLost_ok hy3) rfl rfl rfl Tryz.call18 (by simp) (by simp;rfl) ?_
   refine ko [1,21] 4 (by simp;rfl) ?_
   refine tops_split 21 (((y3).length:Int)==1) (by simp) (fun c6=>?_) (fun c6=>?_)
   ·rw[if_pos c6] at hvv1
    refine ko [21,22] 1 (by simp;rfl) ?_
    replace hvv1:=bnd hvv1;obtain⟨y4,hy4,hvv1⟩:=hvv1
    refine kcall [21,23] [] (hYLost_ok hy4) rfl rfl rfl Tryz.call18 (by simp) (by simp;rfl) ?_
    replace hvv1:=bnd hvv1;obtain⟨x5,p3,hvv1⟩:=hvv1
    replace p3:=idx_some p3
    have p3':=p3;try simp at p3'
    refine ko [0] 5 (by simp[p3,p3'];rfl) ?_
    refine tpN ?_
    cases hvv1
    exact⟨_,rfl,wk (by simp[wkI])⟩
   ·rw[if_neg (by rw[c6];decide)] at hvv1
    refine kskip 5 [] (by kernel_rfl) ?_
    refine ko [0] 2 (by simp;rfl) ?_
    refine tpN ?_
    cases hvv1
    exact⟨_,rfl,wk (by simp[wkI])⟩
  ·rw[if_neg (by rw[c5];decide)] at hvv1
   refine kskip 4 [] (by kernel_rfl) ?_
   refine ko [1,21] 2 (by simp;rfl) ?_
   refine kskip 5 [] (by kernel_rfl) ?_
   refine ko [0] 2 (by simp;rfl) ?_
   refine tpN ?_
   cases hvv1
   exact⟨_,rfl,wk (by simp[wkI])⟩
end Go.Vl
