/- The call leakresponselaw15.HistoryReaches returns true for all arguments, and these read afterwards as they did. Conditions: none. -/
import Derived.Test.YtjnflahicimmlaaGreatRows
import Derived.Test.YtjnflahicimmlaaGreatGCw
import Derived.Test.YtjnflahicimmlaaGreatGqT
import Derived.Test.YtjnflahicimmlaaGreatVmW
import Derived.Test.YtjnflahicimmlaaGreatVmZh
set_option linter.unusedSimpArgs false
set_option linter.unusedVariables false
namespace Go.Vl
open Go Go.Proofs
theorem cons_of {ds:List D} {n:Nat} (h:ds.length=n+1):∃d es,ds=d::es∧es.length=n:=by
 cases ds with
 |nil=>cases h
 |cons d es=>exact⟨d,es,rfl,Nat.succ.inj h⟩
theorem shp_57 {m:Nat} {ds:List D} (h:Shp Tryz.prog m 57 ds):∃x:zI,ds=zIr x∧((x.Name.size≤9223372036854775807)):=by
 obtain⟨m',hl,hf⟩:=shp_struct Tryz.underlying57 h
 have hl:ds.length=2:=hl.trans (by kernel_rfl)
 have c3:Tryz.prog.cellsOf 3=1:=by kernel_rfl
 have c9:Tryz.prog.cellsOf 9=1:=by kernel_rfl
 obtain⟨d0,es0,e,hl0⟩:=cons_of hl
 obtain⟨d1,es1,rfl,hl1⟩:=cons_of hl0
 obtain rfl:=List.eq_nil_of_length_eq_zero hl1
 subst e
 simp[c3,c9] at hf
 obtain⟨g0,g1⟩:=hf
 obtain⟨n0,e0,q0⟩:=shp_strw Tryz.underlying9 g0
 obtain⟨n1,e1⟩:=shp_int Tryz.underlying3 g1
 refine⟨⟨n0,n1⟩,?_,q0⟩
 simp[iRow,bRow,sRow,slRow] at e0 e1 ⊢
 simp[e0,e1]
theorem shp_47 {m:Nat} {ds:List D} (h:Shp Tryz.prog m 47 ds):∃x:zO,ds=zOr x∧((∀y7∈x.Items,(y7.Name.size≤9223372036854775807))∧(x.Author.size≤9223372036854775807)):=by
 obtain⟨m',hl,hf⟩:=shp_struct Tryz.underlying47 h
 have hl:ds.length=8:=hl.trans (by kernel_rfl)
 have c3:Tryz.prog.cellsOf 3=1:=by kernel_rfl
 have c9:Tryz.prog.cellsOf 9=1:=by kernel_rfl
 have c22:Tryz.prog.cellsOf 22=1:=by kernel_rfl
 have c40:Tryz.prog.cellsOf 40=1:=by kernel_rfl
 have c45:Tryz.prog.cellsOf 45=1:=by kernel_rfl
 obtain⟨d0,es0,e,hl0⟩:=cons_of hl
 obtain⟨d1,es1,rfl,hl1⟩:=cons_of hl0
 obtain⟨d2,es2,rfl,hl2⟩:=cons_of hl1
 obtain⟨d3,es3,rfl,hl3⟩:=cons_of hl2
 obtain⟨d4,es4,rfl,hl4⟩:=cons_of hl3
 obtain⟨d5,es5,rfl,hl5⟩:=cons_of hl4
 obtain⟨d6,es6,rfl,hl6⟩:=cons_of hl5
 obtain⟨d7,es7,rfl,hl7⟩:=cons_of hl6
 obtain rfl:=List.eq_nil_of_length_eq_zero hl7
 subst e
 simp[c3,c9,c22,c40,c45] at hf
 obtain⟨g0,g1,g2,g3,g4,g5,g6,g7⟩:=hf
 obtain⟨n0,e0⟩:=shp_int Tryz.underlying3 g0
 obtain⟨n1,e1⟩:=shp_int Tryz.underlying3 g1
 obtain⟨n2,e2⟩:=shp_slice Tryz.underlying45 (f:=(iRow .u8)) (fun _ _ h=>shp_int Tryz.underlying5 h) g2
 obtain⟨n3,e3,q3⟩:=shp_slicep Tryz.underlying40 (f:=zIr) (q:=fun y=>(y.Name.size≤9223372036854775807)) (fun _ _ h=>shp_57 h) g3
 obtain⟨n4,e4⟩:=shp_int Tryz.underlying3 g4
 obtain⟨n5,e5⟩:=shp_slice Tryz.underlying22 (f:=(iRow .i64)) (fun _ _ h=>shp_int Tryz.underlying3 h) g5
 obtain⟨n6,e6,q6⟩:=shp_strw Tryz.underlying9 g6
 obtain⟨n7,e7⟩:=shp_int Tryz.underlying3 g7
 refine⟨⟨n0,n1,n2,n3,n4,n5,n6,n7⟩,?_,⟨q3,q6⟩⟩
 simp[iRow,bRow,sRow,slRow] at e0 e1 e2 e3 e4 e5 e6 e7 ⊢
 simp[e0,e1,e2,e3,e4,e5,e6,e7]
theorem shp_60 {m:Nat} {ds:List D} (h:Shp Tryz.prog m 60 ds):∃x:zE,ds=zEr x∧((x.Name.size≤9223372036854775807)):=by
 obtain⟨m',hl,hf⟩:=shp_struct Tryz.underlying60 h
 have hl:ds.length=4:=hl.trans (by kernel_rfl)
 have c3:Tryz.prog.cellsOf 3=1:=by kernel_rfl
 have c9:Tryz.prog.cellsOf 9=1:=by kernel_rfl
 obtain⟨d0,es0,e,hl0⟩:=cons_of hl
 obtain⟨d1,es1,rfl,hl1⟩:=cons_of hl0
 obtain⟨d2,es2,rfl,hl2⟩:=cons_of hl1
 obtain⟨d3,es3,rfl,hl3⟩:=cons_of hl2
 obtain rfl:=List.eq_nil_of_length_eq_zero hl3
 subst e
 simp[c3,c9] at hf
 obtain⟨g0,g1,g2,g3⟩:=hf
 obtain⟨n0,e0⟩:=shp_int Tryz.underlying3 g0
 obtain⟨n1,e1,q1⟩:=shp_strw Tryz.underlying9 g1
 obtain⟨n2,e2⟩:=shp_int Tryz.underlying3 g2
 obtain⟨n3,e3⟩:=shp_int Tryz.underlying3 g3
 refine⟨⟨n0,n1,n2,n3⟩,?_,q1⟩
 simp[iRow,bRow,sRow,slRow] at e0 e1 e2 e3 ⊢
 simp[e0,e1,e2,e3]
theorem shp_26 {m:Nat} {ds:List D} (h:Shp Tryz.prog m 26 ds):∃x:zR,ds=zRr x∧((∀y9∈x.Objects,(∀y8∈y9.Items,(y8.Name.size≤9223372036854775807))∧(y9.Author.size≤9223372036854775807))∧(∀y8∈x.Events,(y8.Name.size≤9223372036854775807))):=by
 obtain⟨m',hl,hf⟩:=shp_struct Tryz.underlying26 h
 have hl:ds.length=2:=hl.trans (by kernel_rfl)
 have c23:Tryz.prog.cellsOf 23=1:=by kernel_rfl
 have c24:Tryz.prog.cellsOf 24=1:=by kernel_rfl
 obtain⟨d0,es0,e,hl0⟩:=cons_of hl
 obtain⟨d1,es1,rfl,hl1⟩:=cons_of hl0
 obtain rfl:=List.eq_nil_of_length_eq_zero hl1
 subst e
 simp[c23,c24] at hf
 obtain⟨g0,g1⟩:=hf
 obtain⟨n0,e0,q0⟩:=shp_slicep Tryz.underlying23 (f:=zOr) (q:=fun y=>(∀y7∈y.Items,(y7.Name.size≤9223372036854775807))∧(y.Author.size≤9223372036854775807)) (fun _ _ h=>shp_47 h) g0
 obtain⟨n1,e1,q1⟩:=shp_slicep Tryz.underlying24 (f:=zEr) (q:=fun y=>(y.Name.size≤9223372036854775807)) (fun _ _ h=>shp_60 h) g1
 refine⟨⟨n0,n1⟩,?_,⟨q0,q1⟩⟩
 simp[iRow,bRow,sRow,slRow] at e0 e1 ⊢
 simp[e0,e1]
end Go.Vl
namespace Go.Proofs.YtjnflahicimmlaaGreat.historyReaches
open Go.ChangeShapes Go.WideShapes Go.ChangeAt Go.RowKit
set_option linter.unusedVariables false
theorem own:ownKnob Tryz.prog.godebug=none:=by kernel_rfl
theorem laidOut:laidOutB Tryz.prog=true:=by kernel_rfl
set_option maxRecDepth 100000 in
theorem lifted (os:Os) (started:os.Started) (H:Type) (enc:TypeId×Value→H):
  ReturnsInHanded {} Tryz.checked os 3 .any (Rows.historyReachesSpec.pre6 enc Tryz.prog Tryz.f3 Rows.historyReachesRow.domain false) (Rows.historyReachesSpec.post enc Tryz.prog Tryz.f3 false true false false):=by
 refine returnsInHanded_of_change (C:=Tryz.checked) own started (by kernel_rfl) Tryz.func3
  (ChangeSpec.witness6 (enc:=enc) (C:=Tryz.checked) false ⟨#[],#[.slice none 0 0,.agg #[.slice none 0 0,.slice none 0 0],.int .i64 0,.int .i64 0],[]⟩ 8 (by kernel_rfl) (by kernel_rfl) (by kernel_rfl) (by kernel_rfl)) ?_
 intro W base args ds gs before hval0 hW hcnd _
 have hgl:Vl.GlobAt Tryz.prog W (· < W.heap.size):=Vl.globAt_none (by kernel_rfl)
 have hval:∀(j:Nat) t v,Tryz.f3.params[j]? =some t→args[j]? =some v→Value.okWide Tryz.prog W .any base t v:=hval0
 have hW':=hW
 obtain⟨p,q,hA0,hV,rfl,hfz,hnd⟩:=hW
 have hA:DataW.TrodAll enc Tryz.prog W 0 (fun _=>true) true Tryz.f3.params.toList args.toList ds p:=hA0
 rw[Tryz.params3] at hA hval
 obtain⟨v0,vs0,d0,ds0,p0,q0,hargs,rfl,rfl,h0,r0⟩:=trodAll_cons hA
 obtain⟨v1,vs1,d1,ds1,p1,q1,rfl,rfl,rfl,h1,r1⟩:=trodAll_cons r0
 obtain⟨v2,vs2,d2,ds2,p2,q2,rfl,rfl,rfl,h2,r2⟩:=trodAll_cons r1
 obtain⟨v3,vs3,d3,ds3,p3,q3,rfl,rfl,rfl,h3,r3⟩:=trodAll_cons r2
 obtain⟨rfl,rfl,rfl⟩:=trodAll_nil r3
 obtain rfl:args= #[v0,v1,v2,v3]:=by cases args;simp_all
 obtain⟨rfl,rfl⟩:=trodVars_none hV
 obtain⟨z0,s0,A0,B0⟩:=Vl.in_any (P:=Tryz.prog) (pl:=Vl.ioPl [] []) 2 (by simp[Vl.plainB,Vl.plainB.go,Tryz.underlying3,Tryz.underlying22,show Tryz.prog.cellsOf 3=1 from by kernel_rfl,show Tryz.prog.cellsOf 22=1 from by kernel_rfl]) (hval 0 22 v0 rfl rfl) h0
 obtain⟨a0,rfl⟩:=Vl.shp_slice Tryz.underlying22 (f:=(Vl.iRow .i64)) (fun _ _ h=>Vl.shp_int Tryz.underlying3 h) s0
 obtain⟨x0,e0,R0⟩:=B0 (fun fs h=>by rw[Tryz.underlying22] at h;cases h)
 simp only[Vl.iRow,Vl.bRow,Vl.sRow,Vl.slRow,List.cons.injEq,and_true] at e0;subst e0
 obtain⟨z1,s1,A1,B1⟩:=Vl.in_any (P:=Tryz.prog) (pl:=Vl.ioPl [] []) 6 (by simp[Vl.plainB,Vl.plainB.go,Tryz.underlying3,Tryz.underlying5,Tryz.underlying9,Tryz.underlying22,Tryz.underlying23,Tryz.underlying24,Tryz.underlying26,Tryz.underlying40,Tryz.underlying45,Tryz.underlying47,Tryz.underlying57,Tryz.underlying60,show Tryz.prog.cellsOf 3=1 from by kernel_rfl,show Tryz.prog.cellsOf 5=1 from by kernel_rfl,show Tryz.prog.cellsOf 9=1 from by kernel_rfl,show Tryz.prog.cellsOf 22=1 from by kernel_rfl,show Tryz.prog.cellsOf 23=1 from by kernel_rfl,show Tryz.prog.cellsOf 24=1 from by kernel_rfl,show Tryz.prog.cellsOf 26=2 from by kernel_rfl,show Tryz.prog.cellsOf 40=1 from by kernel_rfl,show Tryz.prog.cellsOf 45=1 from by kernel_rfl,show Tryz.prog.cellsOf 47=8 from by kernel_rfl,show Tryz.prog.cellsOf 57=2 from by kernel_rfl,show Tryz.prog.cellsOf 60=4 from by kernel_rfl]) (hval 1 26 v1 rfl rfl) h1
 obtain⟨a1,rfl,w1⟩:=Vl.shp_26 s1
 have R1:=A1 ⟨_,Tryz.underlying26⟩
 obtain⟨z2,s2,A2,B2⟩:=Vl.in_any (P:=Tryz.prog) (pl:=Vl.ioPl [] []) 1 (by simp[Vl.plainB,Vl.plainB.go,Tryz.underlying3,show Tryz.prog.cellsOf 3=1 from by kernel_rfl]) (hval 2 3 v2 rfl rfl) h2
 obtain⟨a2,rfl⟩:=Vl.shp_int Tryz.underlying3 s2
 obtain⟨x2,e2,R2⟩:=B2 (fun fs h=>by rw[Tryz.underlying3] at h;cases h)
 simp only[Vl.iRow,Vl.bRow,Vl.sRow,Vl.slRow,List.cons.injEq,and_true] at e2;subst e2
 obtain⟨z3,s3,A3,B3⟩:=Vl.in_any (P:=Tryz.prog) (pl:=Vl.ioPl [] []) 1 (by simp[Vl.plainB,Vl.plainB.go,Tryz.underlying3,show Tryz.prog.cellsOf 3=1 from by kernel_rfl]) (hval 3 3 v3 rfl rfl) h3
 obtain⟨a3,rfl⟩:=Vl.shp_int Tryz.underlying3 s3
 obtain⟨x3,e3,R3⟩:=B3 (fun fs h=>by rw[Tryz.underlying3] at h;cases h)
 simp only[Vl.iRow,Vl.bRow,Vl.sRow,Vl.slRow,List.cons.injEq,and_true] at e3;subst e3
 refine((Vl.lYHistoryReaches_ok (Vl.HistoryReaches_law a0 a1 w1 a2 a3)).run W #[v0,v1,v2,v3] rfl (fun i x v hx hv=>?_) hgl).mono fun e W' ⟨v,he,hr,hb⟩=>?_
 ·match i,hx,hv with
  |0,hx,hv=>simp at hx hv;subst hx hv;exact R0
  |1,hx,hv=>simp at hx hv;subst hx hv;exact by simpa using R1
  |2,hx,hv=>simp at hx hv;subst hx hv;exact R2
  |3,hx,hv=>simp at hx hv;subst hx hv;exact R3
 ·obtain rfl:=hr.bool_inv
  exact⟨_,he,Vl.post_true laidOut (by kernel_rfl) rfl Tryz.underlying4 rfl hW' rfl rfl rfl hb⟩
theorem closed:joinedFacts Tryz.pinned.checked.prog 3 Tryz.f3 Rows.historyReachesSpec Rows.historyReachesRow=true:=by kernel_rfl
theorem inst:Tryz.f3.isInstance Tryz.pinned.checked.prog Rows.historyReachesRow.origin Rows.historyReachesRow.targs:=of_decide_eq_true (by kernel_rfl)
theorem wraps:Tryz.f3.isWrapper Tryz.pinned.checked.prog Rows.historyReachesRow.wrapper Rows.historyReachesRow.mainSum:=by
 unfold Func.isWrapper;first |(rw [if_pos (by decide +kernel)];kernel_rfl) |(rw [if_neg (by decide +kernel)];exact⟨rfl,rfl⟩)
theorem named:Tryz.pinned.checked.prog.funcNamed Rows.historyReachesRow.func=some 3:=by kernel_rfl
theorem over:Rows.historyReachesRow.holds Tryz.pinned (OpenSpec.ofChange Rows.historyReachesSpec):=
 OpenClaim.holds_of_wide 3 Tryz.f3 rfl rfl rfl rfl rfl rfl rfl ⟨rfl,rfl,rfl,rfl,rfl⟩ rfl rfl rfl rfl rfl named Tryz.func3 closed inst wraps
  (fun os started H enc _=>lifted os started H enc)
theorem proved:Rows.HistoryReachesSaid:=
 over
#print axioms proved
end Go.Proofs.YtjnflahicimmlaaGreat.historyReaches
