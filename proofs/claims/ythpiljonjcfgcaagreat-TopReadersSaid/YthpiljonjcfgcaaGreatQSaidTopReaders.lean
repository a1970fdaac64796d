/- The call leakresponsetop.TopReaders returns true for all arguments, and these read afterwards as they did. Conditions: none. -/
import Derived.Test.YthpiljonjcfgcaaGreatRows
import Derived.Test.YthpiljonjcfgcaaGreatQBx
import Derived.Test.YthpiljonjcfgcaaGreatQp3
import Derived.Test.YthpiljonjcfgcaaGreatVmW
import Derived.Test.YthpiljonjcfgcaaGreatVmZh
set_option linter.unusedSimpArgs false
set_option linter.unusedVariables false
namespace Go.Vl
open Go Go.Proofs
end Go.Vl
namespace Go.Proofs.YthpiljonjcfgcaaGreat.topReaders
open Go.ChangeShapes Go.WideShapes Go.ChangeAt Go.RowKit
set_option linter.unusedVariables false
theorem own:ownKnob Tryz.prog.godebug=none:=by kernel_rfl
theorem laidOut:laidOutB Tryz.prog=true:=by kernel_rfl
set_option maxRecDepth 100000 in
theorem lifted (os:Os) (started:os.Started) (H:Type) (enc:TypeId×Value→H):
  ReturnsInHanded {} Tryz.checked os 3 .any (Rows.topReadersSpec.pre6 enc Tryz.prog Tryz.f3 Rows.topReadersRow.domain false) (Rows.topReadersSpec.post enc Tryz.prog Tryz.f3 false true false false):=by
 refine returnsInHanded_of_change (C:=Tryz.checked) own started (by kernel_rfl) Tryz.func3
  (ChangeSpec.witness6 (enc:=enc) (C:=Tryz.checked) false ⟨#[],#[.slice none 0 0],[]⟩ 8 (by kernel_rfl) (by kernel_rfl) (by kernel_rfl) (by kernel_rfl)) ?_
 intro W base args ds gs before hval0 hW hcnd _
 have hgl:Vl.GlobAt Tryz.prog W (· < W.heap.size):=Vl.globAt_none (by kernel_rfl)
 have hval:∀(j:Nat) t v,Tryz.f3.params[j]? =some t→args[j]? =some v→Value.okWide Tryz.prog W .any base t v:=hval0
 have hW':=hW
 obtain⟨p,q,hA0,hV,rfl,hfz,hnd⟩:=hW
 have hA:DataW.TrodAll enc Tryz.prog W 0 (fun _=>true) true Tryz.f3.params.toList args.toList ds p:=hA0
 rw[Tryz.params3] at hA hval
 obtain⟨v0,vs0,d0,ds0,p0,q0,hargs,rfl,rfl,h0,r0⟩:=trodAll_cons hA
 obtain⟨rfl,rfl,rfl⟩:=trodAll_nil r0
 obtain rfl:args= #[v0]:=by cases args;simp_all
 obtain⟨rfl,rfl⟩:=trodVars_none hV
 obtain⟨z0,s0,A0,B0⟩:=Vl.in_any (P:=Tryz.prog) (pl:=Vl.ioPl [] []) 2 (by simp[Vl.plainB,Vl.plainB.go,Tryz.underlying3,Tryz.underlying22,show Tryz.prog.cellsOf 3=1 from by kernel_rfl,show Tryz.prog.cellsOf 22=1 from by kernel_rfl]) (hval 0 22 v0 rfl rfl) h0
 obtain⟨a0,rfl⟩:=Vl.shp_slice Tryz.underlying22 (f:=(Vl.iRow .i64)) (fun _ _ h=>Vl.shp_int Tryz.underlying3 h) s0
 obtain⟨x0,e0,R0⟩:=B0 (fun fs h=>by rw[Tryz.underlying22] at h;cases h)
 simp only[Vl.iRow,Vl.bRow,Vl.sRow,Vl.slRow,List.cons.injEq,and_true] at e0;subst e0
 refine((Vl.top_TopReaders_ok (Vl.TopReaders_law a0)).run W #[v0] rfl (fun i x v hx hv=>?_) hgl).mono fun e W' ⟨v,he,hr,hb⟩=>?_
 ·match i,hx,hv with
  |0,hx,hv=>simp at hx hv;subst hx hv;exact R0
 ·obtain rfl:=hr.bool_inv
  exact⟨_,he,Vl.post_true laidOut (by kernel_rfl) rfl Tryz.underlying4 rfl hW' rfl rfl rfl hb⟩
theorem closed:joinedFacts Tryz.pinned.checked.prog 3 Tryz.f3 Rows.topReadersSpec Rows.topReadersRow=true:=by kernel_rfl
theorem inst:Tryz.f3.isInstance Tryz.pinned.checked.prog Rows.topReadersRow.origin Rows.topReadersRow.targs:=of_decide_eq_true (by kernel_rfl)
theorem wraps:Tryz.f3.isWrapper Tryz.pinned.checked.prog Rows.topReadersRow.wrapper Rows.topReadersRow.mainSum:=by
 unfold Func.isWrapper;first |(rw [if_pos (by decide +kernel)];kernel_rfl) |(rw [if_neg (by decide +kernel)];exact⟨rfl,rfl⟩)
theorem named:Tryz.pinned.checked.prog.funcNamed Rows.topReadersRow.func=some 3:=by kernel_rfl
theorem over:Rows.topReadersRow.holds Tryz.pinned (OpenSpec.ofChange Rows.topReadersSpec):=
 OpenClaim.holds_of_wide 3 Tryz.f3 rfl rfl rfl rfl rfl rfl rfl ⟨rfl,rfl,rfl,rfl,rfl⟩ rfl rfl rfl rfl rfl named Tryz.func3 closed inst wraps
  (fun os started H enc _=>lifted os started H enc)
theorem proved:Rows.TopReadersSaid:=
 over
#print axioms proved
end Go.Proofs.YthpiljonjcfgcaaGreat.topReaders
