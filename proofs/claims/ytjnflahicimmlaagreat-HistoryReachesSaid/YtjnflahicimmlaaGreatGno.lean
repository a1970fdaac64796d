/- The IDs that an object names: history.named. Conditions: none. -/
import Derived.Test.YtjnflahicimmlaaGreatGs
import Derived.Test.YtjnflahicimmlaaGreatVmSt
import Derived.Test.YtjnflahicimmlaaGreatTyG
import Derived.Test.YtjnflahicimmlaaGreatVmLz
import Derived.Test.YtjnflahicimmlaaGreatPlG
import Derived.Test.YtjnflahicimmlaaGreatGq
set_option maxHeartbeats 1000000
set_option linter.unusedSimpArgs false
set_option linter.unusedVariables false
namespace Go.Vl
open Go
def namesO (o:zO):List Int:=o.Parents++o.Items.map (·.ID)++(if o.Kind=3 then [o.Tree] else [])
def fitO (o:zO):Bool:=decide (o.Parents.length≤1000000)&&decide (o.Items.length≤1000000)
def hYnamed (o:zO):Option (List Int):=if fitO o=true then some (namesO o) else none
end Go.Vl
namespace Go.Vl
open Go Go.Proofs
noncomputable def cloneO (a0:List Int):Option (List Int):=
 (ck ((a0).length≤268435456)).bind fun _=>
 some a0
noncomputable def hnamed_l0 (a0:zO) (s3:Int×(List Int)):Option (Lp (Int×(List Int)) (List Int)):=
 if(decide (s3.1 < ((a0.Items).length:Int)))=true then
  (idx a0.Items s3.1).bind fun x4=>
  (ck ((s3.2).length+([x4.ID]).length≤268435456)).bind fun _=>
  some (.go (IntKind.i64.wrap (s3.1+1),(s3.2++[x4.ID])))
 else
  some (.out s3.2)
noncomputable def hnamed (a0:zO):Option ((List Int)):=
 (cloneO a0.Parents).bind fun y1=>
 (iter (hnamed_l0 a0) (0,y1)).bind fun v2=>
 if(a0.Kind==3)=true then
  (ck ((v2).length+([a0.Tree]).length≤268435456)).bind fun _=>
  some (v2++[a0.Tree])
 else
  some v2
theorem cloneO_ok {a0:List Int} {r:List Int} (h0:cloneO a0=some r):FnOKv Tryz.prog 95 [] [] [.d (.slice (rowsF (iRow .i64) a0))] (.vec (InV 0)) [] [⟨3,1,rowsF (iRow .i64) r⟩]:=by
 unfold cloneO at h0
 replace h0:=bnd h0;obtain⟨_,p1,h0⟩:=h0;replace p1:=ck_some p1;cases h0
 refine fn_okv (nt:=8) (rs:=[.tmp 2]) Tryz.func95 rfl Tryz.ntmps95 rfl (by simp) (by decide) rfl fun K=>?_
 refine kr [0,2] (by simp;rfl) ?_
 cases a0 with
 |nil=>
  refine trq ?_
  refine kc ?_
  refine ko [0,3] 1 (by simp;rfl) ?_
  refine tops_nilq (by simp) rfl rfl (by simp) (by simp) (by simp) Tryz.underlying22 fun b=>?_
  refine tpN ?_
  refine trc (b:=b) (by simp) (fun h=>?_) (fun h=>?_)
  ·refine kr [2] (by simp;rfl) ?_
   refine tr_wk (wk_own 2 7 3 1 (by simp) (by simp)) ?_
   exact trr ⟨[],[7],by simp,by simp,by simp,by simp,by simp⟩
  ·refine trk ?_
   refine kr [2] (by simp;rfl) ?_
   exact trr ⟨[],[7],by simp,by simp,by simp,by simp,by simp⟩
 |cons x l=>
  refine trq ?_
  refine kr [0,4] (by simp;rfl) ?_
  refine trc (b:=false) (by simp) (fun h=>by cases h) (fun _=>?_)
  refine trk ?_
  have p2:=p1;simp at p2
  refine kr [2] (by simp[p1,p2];rfl) ?_
  exact trr ⟨[],[7],by simp,by simp,by simp,by simp,by simp⟩
theorem hnamed_ok {a0:zO} {r:(List Int)} (h0:hnamed a0=some r):FnOK Tryz.prog 72 [] [.agg (zOa a0)] (.d (.slice (rowsF (iRow .i64) r))) []:=by
 unfold hnamed at h0
 refine fn_ok (nt:=31) (rs:=[.tmp 2]) Tryz.func72 rfl Tryz.ntmps72 rfl (by simp) (by decide) rfl fun K=>?_
 refine kr [1] (by simp;rfl) ?_
 refine kc ?_
 refine ko [1,7] 2 (by simp;rfl) ?_
 replace h0:=bnd h0;obtain⟨y1,hy1,h0⟩:=h0
 refine kcallV [1,8] [] [] [600032] (cloneO_ok hy1) rfl rfl rfl Tryz.call95 (by simp) (by simp;rfl) ?_
 refine ko [1,3] 1 (by simp;rfl) ?_
 refine tpN ?_
 refine trq ?_
 refine kr [1,3,10,11,12] (by simp;rfl) ?_
 replace h0:=bnd h0;obtain⟨e1,hI1,h0⟩:=h0
 refine tjv (fun v2:(List Int)=>({ nt:=31,env:=[(1,.ptr 1 0),(3,.vec 600032)],box:=[(1,[.d (.int .i64 a0.ID),.d (.int .i64 a0.Kind),.d (.slice (rowsF (iRow .u8) a0.Data)),.d (.slice (rowsF zIr a0.Items)),.d (.int .i64 a0.Tree),.d (.slice (rowsF (iRow .i64) a0.Parents)),.d (.str a0.Author),.d (.int .i64 a0.Time)])],vec:=[(600032,⟨3,1,rowsF (iRow .i64) v2⟩)]}:St)) (fun v2=>v2=e1) (fun v2 hI1e _ W1=>?_) ?_
 ·subst hI1e
  refine tr_wk W1 ?_
  refine trq ?_
  refine kr [1,3,24] (by simp;rfl) ?_
  refine trc (b:=(a0.Kind==3)) (by simp) (fun c3=>?_) (fun c3=>?_)
  ·rw[if_pos c3] at h0
   replace h0:=bnd h0;obtain⟨_,p5,h0⟩:=h0
   replace p5:=ck_some p5
   have p5':=p5;try simp at p5'
   refine lr (by simp[p5,p5'];rfl) ?_
   refine kr [2] (by simp;rfl) ?_
   cases h0
   exact trr ⟨[29],by simp,rfl,by simp⟩
  ·rw[if_neg (by rw[c3];decide)] at h0
   refine trk ?_
   refine kr [2] (by simp;rfl) ?_
   cases h0
   exact trr ⟨[600032],by simp,rfl,by simp⟩
 ·refine trb (tr_iter (fun s3:Int×(List Int)=>({ nt:=31,env:=[(1,.ptr 1 0),(3,.vec 600032),(10,.d (.slice (rowsF zIr a0.Items))),(11,.d (.int .i64 ((a0.Items).length:Int))),(12,.d (.int .i64 s3.1))],box:=[(1,[.d (.int .i64 a0.ID),.d (.int .i64 a0.Kind),.d (.slice (rowsF (iRow .u8) a0.Data)),.d (.slice (rowsF zIr a0.Items)),.d (.int .i64 a0.Tree),.d (.slice (rowsF (iRow .i64) a0.Parents)),.d (.str a0.Author),.d (.int .i64 a0.Time)])],vec:=[(600032,⟨3,1,rowsF (iRow .i64) s3.2⟩)]}:St)) hI1 (wk (by simp[wkI])) fun G1 s3 o1 h1 hg1 he1=>?_)
  unfold hnamed_l0 at h1
  refine kr [1,3,10,11,12,13] (by simp;rfl) ?_
  refine trq ?_
  refine trc (b:=(decide (s3.1 < ((a0.Items).length:Int)))) (by simp) (fun c4=>?_) (fun c4=>?_)
  ·rw[if_pos c4] at h1
   refine trk ?_
   refine trq ?_
   refine trb ?_
   replace h1:=bnd h1;obtain⟨x4,p6,h1⟩:=h1
   replace p6:=idx_some p6
   have p6':=p6;try simp at p6'
   refine kr [1,3,5,10,11,12] (by simp[p6,p6'];rfl) ?_
   replace h1:=bnd h1;obtain⟨_,p7,h1⟩:=h1
   replace p7:=ck_some p7
   have p7':=p7;try simp at p7'
   refine lr (by simp[p7,p7'];rfl) ?_
   refine lr (by simp;rfl) ?_
   exact⟨_,hg1 _ (Option.some.inj h1),Wk.trans (wk_ren 20 600032) (wk (by simp[wkI]))⟩
  ·rw[if_neg (by rw[c4];decide)] at h1
   refine tr_exit ?_
   exact⟨_,he1 _ (Option.some.inj h1),wk (by simp[wkI])⟩
theorem hnamed_sp {o:zO} (h:fitO o=true):hnamed o=some (namesO o):=by
 unfold fitO at h
 simp only[Bool.and_eq_true,decide_eq_true_eq] at h
 unfold hnamed cloneO namesO
 rw[ck_t (by omega)]
 simp only[Option.bind_some]
 have hl:=iter_foldlS (body:=hnamed_l0 o) o.Items (fun i l=>((i:Int),l)) (fun l x=>l++[x.ID]) (fun l=>l) (fun i l=>l.length=o.Parents.length+i) (fun i hi l h1=>by
  refine⟨?_,by simp[h1];omega⟩
  unfold hnamed_l0
  simp only
  rw[if_pos (by simp <;> omega),idx_lt hi,w64 (by omega) (by omega)]
  simp only[Option.bind_some]
  rw[ck_t (by simp;omega)]
  rfl) (fun l _=>by
  unfold hnamed_l0
  simp only
  rw[if_neg (by simp)]) o.Parents (by simp)
 have hf:∀(l:List zI) (s:List Int),l.foldl (fun l x=>l++[x.ID]) s=s++l.map (·.ID):=fun l=>by
  induction l with
  |nil=>intro s;simp
  |cons x l ih=>intro s;rw[List.foldl_cons,ih];simp
 rw[hf] at hl
 rw[show ((0,o.Parents):Int×List Int)=(((0:Nat):Int),o.Parents) from rfl,hl.1]
 simp only[Option.bind_some]
 by_cases hk:o.Kind=3
 ·rw[if_pos (by simpa using hk),ck_t (by have:=hl.2;simp at this ⊢;omega),if_pos hk];rfl
 ·rw[if_neg (by simpa using hk),if_neg hk];simp
theorem hYnamed_ok {a0:zO} {r:List Int} (h0:hYnamed a0=some r):FnOK Tryz.prog 72 [] [.agg (zOa a0)] (.d (.slice (rowsF (iRow .i64) r))) []:=by
 unfold hYnamed at h0
 split at h0
 case isFalse=>cases h0
 rename_i h
 cases h0
 exact hnamed_ok (hnamed_sp h)
end Go.Vl
namespace Go.Vl
open Go
noncomputable def hYcycle_1_1_cro (a0:Int) (a1:List (Int×zO)):Option (Bool):=
 some ((mget inE a1 a0).isSome)
noncomputable def sYIndexFunc_int_at_history_cycle_1_1_ro_l0 (a0:List Int) (b10:List (Int×zO)) (s2:Int):Option (Lp Int (Unit ⊕ Int)):=
 if(decide (s2 < ((a0).length:Int)))=true then
  (idx a0 s2).bind fun x3=>
  (hYcycle_1_1_cro x3 b10).bind fun y4=>
  if y4=true then
   some (.out (.inr s2))
  else
   some (.go (IntKind.i64.wrap (s2+1)))
 else
  some (.out (.inl ()))
noncomputable def sYIndexFunc_int_at_history_cycle_1_1_ro (a0:List Int) (b10:List (Int×zO)):Option (Int):=
 (iter (sYIndexFunc_int_at_history_cycle_1_1_ro_l0 a0 b10) 0).bind fun q6=>
 match q6 with
 | .inl v1=>
  some (-1)
 | .inr r5=>
  some r5
noncomputable def sYContainsFunc_int_at_history_cycle_1_1_ro (a0:List Int) (b10:List (Int×zO)):Option (Bool):=
 (sYIndexFunc_int_at_history_cycle_1_1_ro a0 b10).bind fun y1=>
 some (decide (0≤y1))
noncomputable def hYcycle_1_cro (a0:Int) (a1:zO) (a2:List (Int×zO)):Option (Bool):=
 (hYnamed a1).bind fun y1=>
 (sYContainsFunc_int_at_history_cycle_1_1_ro y1 a2).bind fun y2=>
 some (!y2)
end Go.Vl
namespace Go.Vl
open Go Go.Proofs
theorem hYcycle_1_1_cro_ok {a0:Int} {a1:List (Int×zO)} {r:Bool} (h0:hYcycle_1_1_cro a0 a1=some r):FnOK Tryz.prog 73 [] [.d (.int .i64 a0),.cptr [.mp (mTag 66 1 false true) 9 (rowsF (mRow (iRow .i64) zOr) a1)] 0] (.d (.bool r)) []:=by
 unfold hYcycle_1_1_cro at h0
 refine fn_ok (nt:=13) (rs:=[.tmp 3]) Tryz.func73 rfl Tryz.ntmps73 rfl (by simp) (by decide) rfl fun K=>?_
 refine kr [0,1] (by simp;rfl) ?_
 refine kr [5] (by simp;rfl) ?_
 refine kr [3] (by simp;rfl) ?_
 cases h0
 exact trr ⟨[],by simp,rfl,by simp⟩
theorem sYIndexFunc_int_at_history_cycle_1_1_ro_ok {a0:List Int} {b10:List (Int×zO)} {r:Int} (h0:sYIndexFunc_int_at_history_cycle_1_1_ro a0 b10=some r):FnOK Tryz.prog 99 [] [.d (.slice (rowsF (iRow .i64) a0)),.fn 73 [.cptr [.mp (mTag 66 1 false true) 9 (rowsF (mRow (iRow .i64) zOr) b10)] 0]] (.d (.int .i64 r)) []:=by
 unfold sYIndexFunc_int_at_history_cycle_1_1_ro at h0
 refine fn_ok (nt:=19) (rs:=[.tmp 4]) Tryz.func99 rfl Tryz.ntmps99 rfl (by simp) (by decide) rfl fun K=>?_
 refine kr [0,1] (by simp;rfl) ?_
 refine trq ?_
 refine kr [0,1,7,8] (by simp;rfl) ?_
 replace h0:=bnd h0;obtain⟨e1,hI1,h0⟩:=h0
 refine tjv (fun v1:Unit=>({ nt:=19,env:=[],box:=[],vec:=[]}:St)) (fun v1=>.inl v1=e1) (fun v1 hI1e _ W1=>?_) ?_
 ·subst hI1e
  dsimp only at h0
  refine tr_wk W1 ?_
  refine kr [4] (by simp;rfl) ?_
  cases h0
  exact trr ⟨[],by simp,rfl,by simp⟩
 ·refine trb (tr_iter (fun s2:Int=>({ nt:=19,env:=[(0,.d (.slice (rowsF (iRow .i64) a0))),(1,.fn 73 [.cptr [.mp (mTag 66 1 false true) 9 (rowsF (mRow (iRow .i64) zOr) b10)] 0]),(7,.d (.int .i64 ((a0).length:Int))),(8,.d (.int .i64 s2))],box:=[],vec:=[]}:St)) hI1 (wk (by simp[wkI])) fun G1 s2 o1 h1 hg1 he1=>?_)
  unfold sYIndexFunc_int_at_history_cycle_1_1_ro_l0 at h1
  refine kr [0,1,7,8,9] (by simp;rfl) ?_
  refine trq ?_
  refine trc (b:=(decide (s2 < ((a0).length:Int)))) (by simp) (fun c5=>?_) (fun c5=>?_)
  ·rw[if_pos c5] at h1
   refine trk ?_
   refine trq ?_
   refine trb ?_
   refine kr [0,1,5,7,8] (by simp;rfl) ?_
   refine kc ?_
   replace h1:=bnd h1;obtain⟨x3,p3,h1⟩:=h1
   replace p3:=idx_some p3
   have p3':=p3;try simp at p3'
   refine ko [0,1,5,7,8,11,15] 5 (by simp[p3,p3'];rfl) ?_
   replace h1:=bnd h1;obtain⟨y4,hy4,h1⟩:=h1
   refine kcallV [0,1,5,7,8,16] [] [] [] (hYcycle_1_1_cro_ok hy4) rfl rfl rfl Tryz.call73 (by simp) (by simp;rfl) ?_
   refine tpN ?_
   refine trc (b:=y4) (by simp) (fun c6=>?_) (fun c6=>?_)
   ·rw[if_pos c6] at h1
    refine kr [4] (by simp;rfl) ?_
    have k1:=he1 _ (Option.some.inj h1)
    subst k1
    dsimp only at h0
    cases h0
    exact trr ⟨[],by simp,rfl,by simp⟩
   ·rw[if_neg (by rw[c6];decide)] at h1
    refine trk ?_
    refine lr (by simp;rfl) ?_
    exact⟨_,hg1 _ (Option.some.inj h1),wk (by simp[wkI])⟩
  ·rw[if_neg (by rw[c5];decide)] at h1
   refine tr_exit ?_
   exact⟨_,he1 _ (Option.some.inj h1),wk (by simp[wkI])⟩
theorem sYContainsFunc_int_at_history_cycle_1_1_ro_ok {a0:List Int} {b10:List (Int×zO)} {r:Bool} (h0:sYContainsFunc_int_at_history_cycle_1_1_ro a0 b10=some r):FnOK Tryz.prog 71 [] [.d (.slice (rowsF (iRow .i64) a0)),.fn 73 [.cptr [.mp (mTag 66 1 false true) 9 (rowsF (mRow (iRow .i64) zOr) b10)] 0]] (.d (.bool r)) []:=by
 unfold sYContainsFunc_int_at_history_cycle_1_1_ro at h0
 refine fn_ok (nt:=9) (rs:=[.tmp 4]) Tryz.func71 rfl Tryz.ntmps71 rfl (by simp) (by decide) rfl fun K=>?_
 refine kr [0,1] (by simp;rfl) ?_
 refine kc ?_
 refine ko [5,6] 2 (by simp;rfl) ?_
 replace h0:=bnd h0;obtain⟨y1,hy1,h0⟩:=h0
 refine kcall [7] [] (sYIndexFunc_int_at_history_cycle_1_1_ro_ok hy1) rfl rfl rfl Tryz.call99 (by simp) (by simp;rfl) ?_
 refine ko [4] 2 (by simp;rfl) ?_
 refine tpN ?_
 cases h0
 exact trr ⟨[],by simp,rfl,by simp⟩
theorem hYcycle_1_cro_ok {a0:Int} {a1:zO} {a2:List (Int×zO)} {r:Bool} (h0:hYcycle_1_cro a0 a1 a2=some r):FnOK Tryz.prog 70 [] [.d (.int .i64 a0),.agg (zOa a1),.cptr [.mp (mTag 66 1 false true) 9 (rowsF (mRow (iRow .i64) zOr) a2)] 0] (.d (.bool r)) []:=by
 unfold hYcycle_1_cro at h0
 refine fn_ok (nt:=11) (rs:=[.tmp 5]) Tryz.func70 rfl Tryz.ntmps70 rfl (by simp) (by decide) rfl fun K=>?_
 refine kr [2,4] (by simp;rfl) ?_
 refine kc ?_
 refine ko [2,6] 1 (by simp;rfl) ?_
 replace h0:=bnd h0;obtain⟨y1,hy1,h0⟩:=h0
 refine kcall [2,7] [] (hYnamed_ok hy1) rfl rfl rfl Tryz.call72 (by simp) (by simp;rfl) ?_
 refine ko [7,8] 1 (by simp;rfl) ?_
 replace h0:=bnd h0;obtain⟨y2,hy2,h0⟩:=h0
 refine kcall [9] [] (sYContainsFunc_int_at_history_cycle_1_1_ro_ok hy2) rfl rfl rfl Tryz.call71 (by simp) (by simp;rfl) ?_
 refine ko [5] 2 (by simp;rfl) ?_
 refine tpN ?_
 cases h0
 exact trr ⟨[],by simp,rfl,by simp⟩
end Go.Vl
