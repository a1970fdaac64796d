/- The call leakresponsetop.TopBehind returns true for all arguments, and these read afterwards as they did. Conditions: none. -/
import Derived.Test.YthpiljonjcfgcaaDoorTie
import Derived.Test.YthpiljonjcfgcaaDoorCards
import Derived.Lib.LaidTab
import Derived.Handed
import Derived.ProofKit
import Derived.Test.YthpiljonjcfgcaaDoorRows
import Derived.Test.YthpiljonjcfgcaaDoorKBx
import Derived.Test.YthpiljonjcfgcaaDoorTbS
import Derived.Test.YthpiljonjcfgcaaDoorVmW
import Derived.Test.YthpiljonjcfgcaaDoorVmZh
set_option linter.unusedSimpArgs false
set_option linter.unusedVariables false
namespace Go.Vl
open Go Go.Proofs
end Go.Vl
namespace Go.Proofs.YthpiljonjcfgcaaDoor.topBehind
open Go.ChangeShapes Go.WideShapes Go.ChangeAt Go.RowKit
set_option linter.unusedVariables false
theorem own:ownKnob Tryd.prog.godebug=none:=by kernel_rfl
theorem laidOut:laidOutB Tryd.prog=true:=by kernel_rfl
theorem gName:Tryd.prog.globalNamed "leakresponse/severity.levels" =some 0:=by kernel_rfl
theorem gType:(Tryd.prog.globals[0]?).map (·.type)=some 89:=by kernel_rfl
theorem gOf:Vl.globOf Tryd.prog 0=[1,100,1000,10000]:=by kernel_rfl
theorem gK:Vl.globK Tryd.prog 0=.i64:=by kernel_rfl
theorem tab_at {P:Program} {W:World} {nm:String} {k:IntKind} {zs:List Int} {g:Nat} (h:Lib.TabIs P W nm k zs) (hg:P.globalNamed nm=some g) (i:Nat) (x:Int) (hx:zs[i]? =some x):W.cell? ⟨g,i,none⟩=some (.int k x):=by
 rw[World.var?_cell hg h i];simp[hx]
theorem tab_end {P:Program} {W:World} {nm:String} {k:IntKind} {zs:List Int} {g:Nat} (h:Lib.TabIs P W nm k zs) (hg:P.globalNamed nm=some g):W.cell? ⟨g,zs.length,none⟩=none:=by
 rw[World.var?_cell hg h];simp
noncomputable def tabWorld (os:Os):World:=
 let w0:=World.holding Tryd.prog os ⟨#[],#[],[]⟩
 {w0 with heap:=(w0.heap.modify 0 fun
   | .cells _ t frozen=>.cells #[.int .i64 1,.int .i64 100,.int .i64 1000,.int .i64 10000] t frozen
   |o=>o)}
set_option maxRecDepth 100000 in
theorem laid_met (os:Os) (args:Array Value):laidMet Tryd.prog Rows.topBehindRow.laid ((tabWorld os).forCall (fun _ _=>0) ⟨#[],args,[]⟩).memory:=
 laidMet_of_run (ps:=[.cell 0 0,.cell 0 1,.cell 0 2,.cell 0 3]) 8 (by kernel_rfl) (by kernel_rfl) (by kernel_rfl)
set_option maxRecDepth 100000 in
theorem glob {W:World} (h:laidMet Tryd.prog Rows.topBehindRow.laid W):Vl.GlobAt Tryd.prog W (· < W.heap.size):=by
 have hT:Lib.TabIs Tryd.prog W "leakresponse/severity.levels" .i64 [1,100,1000,10000]:=Lib.tabIs_of_head gName gType Tryd.underlying89 Tryd.underlying3 (by kernel_rfl) (by kernel_rfl) h
 exact Vl.globAt_one (g:=0) (by kernel_rfl) gOf (fun i x hx=>by rw[gK];exact tab_at hT gName i x hx) fun _=>tab_end hT gName
set_option maxRecDepth 100000 in
theorem lifted (os:Os) (started:os.Started) (H:Type) (enc:TypeId×Value→H):
  ReturnsInHanded {} Tryd.checked os 3 .any (fun w args=>(Rows.topBehindSpec.pre enc Tryd.prog Tryd.f3 Rows.topBehindRow.domain false w args∧laidMet Tryd.prog Rows.topBehindRow.laid w)∧sizedMet enc Tryd.prog Tryd.f3 (OpenSpec.ofChange Rows.topBehindSpec) false w args) (Rows.topBehindSpec.post enc Tryd.prog Tryd.f3 false true false false):=by
 refine returnsInHanded_of_change_and (C:=Tryd.checked) (X:=fun w _=>laidMet Tryd.prog Rows.topBehindRow.laid w) (fun _ _ _ hh h=>h.of_heap hh) own started (by kernel_rfl) Tryd.func3
  (ChangeSpec.witness_at (enc:=enc) (C:=Tryd.checked) (os:=os) (X:=fun w _=>laidMet Tryd.prog Rows.topBehindRow.laid w) false (tabWorld os) #[.slice none 0 0] 8 rfl (by kernel_rfl) (by kernel_rfl) (by kernel_rfl) (by kernel_rfl) (by kernel_rfl) (laid_met os _)) ?_
 intro W base args ds gs before hval0 hW hcnd _ hL _
 have hgl:Vl.GlobAt Tryd.prog W (· < W.heap.size):=glob hL
 have hval:∀(j:Nat) t v,Tryd.f3.params[j]? =some t→args[j]? =some v→Value.okWide Tryd.prog W .any base t v:=hval0
 have hW':=hW
 obtain⟨p,q,hA0,hV,rfl,hfz,hnd⟩:=hW
 have hA:DataW.TrodAll enc Tryd.prog W 0 (fun _=>true) true Tryd.f3.params.toList args.toList ds p:=hA0
 rw[Tryd.params3] at hA hval
 obtain⟨v0,vs0,d0,ds0,p0,q0,hargs,rfl,rfl,h0,r0⟩:=trodAll_cons hA
 obtain⟨rfl,rfl,rfl⟩:=trodAll_nil r0
 obtain rfl:args= #[v0]:=by cases args;simp_all
 obtain⟨rfl,rfl⟩:=trodVars_none hV
 obtain⟨z0,s0,A0,B0⟩:=Vl.in_any (P:=Tryd.prog) (pl:=Vl.ioPl [] []) 2 (by simp[Vl.plainB,Vl.plainB.go,Tryd.underlying3,Tryd.underlying22,show Tryd.prog.cellsOf 3=1 from by kernel_rfl,show Tryd.prog.cellsOf 22=1 from by kernel_rfl]) (hval 0 22 v0 rfl rfl) h0
 obtain⟨a0,rfl⟩:=Vl.shp_slice Tryd.underlying22 (f:=(Vl.iRow .i64)) (fun _ _ h=>Vl.shp_int Tryd.underlying3 h) s0
 obtain⟨x0,e0,R0⟩:=B0 (fun fs h=>by rw[Tryd.underlying22] at h;cases h)
 simp only[Vl.iRow,Vl.bRow,Vl.sRow,Vl.slRow,List.cons.injEq,and_true] at e0;subst e0
 refine((Vl.top_TopBehind_ok (Vl.TopBehind_law a0)).run W #[v0] rfl (fun i x v hx hv=>?_) hgl).mono fun e W' ⟨v,he,hr,hb⟩=>?_
 ·match i,hx,hv with
  |0,hx,hv=>simp at hx hv;subst hx hv;exact R0
 ·obtain rfl:=hr.bool_inv
  exact⟨_,he,Vl.post_true laidOut (by kernel_rfl) rfl Tryd.underlying4 rfl hW' rfl rfl rfl hb⟩
theorem closed:joinedFacts Tryd.pinned.checked.prog 3 Tryd.f3 Rows.topBehindSpec Rows.topBehindRow=true:=by kernel_rfl
theorem inst:Tryd.f3.isInstance Tryd.pinned.checked.prog Rows.topBehindRow.origin Rows.topBehindRow.targs:=of_decide_eq_true (by kernel_rfl)
theorem wraps:Tryd.f3.isWrapper Tryd.pinned.checked.prog Rows.topBehindRow.wrapper Rows.topBehindRow.mainSum:=by
 unfold Func.isWrapper;first |(rw [if_pos (by decide +kernel)];kernel_rfl) |(rw [if_neg (by decide +kernel)];exact⟨rfl,rfl⟩)
theorem named:Tryd.pinned.checked.prog.funcNamed Rows.topBehindRow.func=some 3:=by kernel_rfl
theorem over:Rows.topBehindRow.holds Tryd.pinned (OpenSpec.ofChange Rows.topBehindSpec):=
 OpenClaim.holds_of_wide 3 Tryd.f3 rfl rfl rfl rfl rfl rfl rfl ⟨rfl,rfl,rfl,rfl,rfl⟩ rfl rfl rfl rfl rfl named Tryd.func3 closed inst wraps
  (fun os started H enc _=>lifted os started H enc)
theorem wants:∀(j:Nat) (t:TypeId),Tryd.f3.params[j]? =some t→Tryd.pinned.checked.prog.wantsStandIn t=false:=fun j t ht=>by
 have h:(Tryd.f3.params.all fun t=>!Tryd.pinned.checked.prog.wantsStandIn t)=true:=by kernel_rfl
 have:=(Array.all_eq_true.1 h) j (Array.getElem?_eq_some_iff.1 ht).1
 rw[(Array.getElem?_eq_some_iff.1 ht).2] at this
 simpa using this
theorem proved:Rows.TopBehindCardSaid:=
 Claim7.holds_tied_plain_at .later [] [.data] true Rows.topBehindCard.stood.harness Rows.topBehindCard.stood.looks over (fun _ h=>by cases h) (by kernel_rfl) (fun _ h=>by cases h) topBehind_row_tie rfl ⟨rfl,rfl⟩ (by kernel_rfl) rfl
  (fun f fn hf hfn=>by
   obtain rfl:f=3:=(Option.some.inj (named.symm.trans hf)).symm
   obtain rfl:fn=Tryd.f3:=(Option.some.inj (Tryd.func3.symm.trans hfn)).symm
   exact⟨by kernel_rfl,wants⟩)
  (by kernel_rfl)
#print axioms proved
end Go.Proofs.YthpiljonjcfgcaaDoor.topBehind
