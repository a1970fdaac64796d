/- The call leakresponsetop.TopDead returns true for all arguments, and these read afterwards as they did. Conditions: none. -/
import Derived.Test.YtbnfogbfphakmaaGreatDoorTie
import Derived.Test.YtbnfogbfphakmaaGreatDoorCards
import Derived.Lay
import Derived.LaidOnce
import Derived.SevenTiedAt
import Derived.Handed
import Derived.ProofKit
import Derived.Test.YtbnfogbfphakmaaGreatDoorRows
import Derived.Test.YtbnfogbfphakmaaGreatDoorLDx
import Derived.Test.YtbnfogbfphakmaaGreatDoorLd1
import Derived.Test.YtbnfogbfphakmaaGreatDoorVmW
import Derived.Test.YtbnfogbfphakmaaGreatDoorVmZh
set_option linter.unusedSimpArgs false
set_option linter.unusedVariables false
namespace Go.Vl
open Go Go.Proofs
end Go.Vl
namespace Go.Proofs.YtbnfogbfphakmaaGreatDoor.topDead
open Go.ChangeShapes Go.WideShapes Go.ChangeAt Go.RowKit
set_option linter.unusedVariables false
theorem own:ownKnob Tryz.prog.godebug=none:=by kernel_rfl
theorem laidOut:laidOutB Tryz.prog=true:=by kernel_rfl
set_option maxRecDepth 100000 in
theorem lifted (os:Os) (started:os.Started) (H:Type) (enc:TypeId×Value→H):
  ReturnsInHanded {} Tryz.checked os 4 .any (fun w args=>(Rows.topDeadSpec.pre enc Tryz.prog Tryz.f4 Rows.topDeadRow.domain false w args∧laidMetH Tryz.prog Rows.topDeadRow.laid w)∧sizedMet enc Tryz.prog Tryz.f4 (OpenSpec.ofChange Rows.topDeadSpec) false w args) (Rows.topDeadSpec.post enc Tryz.prog Tryz.f4 false true false false):=by
 refine returnsInHanded_of_change_and (C:=Tryz.checked) (X:=fun w _=>laidMetH Tryz.prog Rows.topDeadRow.laid w) (fun _ _ _ hh h=>h.of_heap hh) own started (by kernel_rfl) Tryz.func4
  (ChangeSpec.witness_shaped (enc:=enc) (C:=Tryz.checked) (os:=os) (X:=fun w _=>laidMetH Tryz.prog Rows.topDeadRow.laid w) false (World.laidAll Tryz.prog os Rows.topDeadRow.laid) #[.slice none 0 0] 8 (World.laidAll_os _ _ _) (World.shaped_of_ZipB (by kernel_rfl) (by kernel_rfl)) (by kernel_rfl) (by kernel_rfl) (by kernel_rfl)
   (by rw[MakeChecks.laidMetH_plain _ _ _ (by kernel_rfl)];exact laidMet_laidAll _ (by kernel_rfl) (by kernel_rfl))) ?_
 intro W base args ds gs before hval0 hW hcnd _ _ _
 have hgl:Vl.DX Tryz.prog W (· < W.heap.size):=Vl.ID (by kernel_rfl)
 have hval:∀(j:Nat) t v,Tryz.f4.params[j]? =some t→args[j]? =some v→Value.okWide Tryz.prog W .any base t v:=hval0
 have hW':=hW
 obtain⟨p,q,hA0,hV,rfl,hfz,hnd⟩:=hW
 have hA:DataW.TrodAll enc Tryz.prog W 0 (fun _=>true) true Tryz.f4.params.toList args.toList ds p:=hA0
 rw[Tryz.params4] at hA hval
 obtain⟨v0,vs0,d0,ds0,p0,q0,hargs,rfl,rfl,h0,r0⟩:=trodAll_cons hA
 obtain⟨rfl,rfl,rfl⟩:=trodAll_nil r0
 obtain rfl:args= #[v0]:=by cases args;simp_all
 obtain⟨rfl,rfl⟩:=trodVars_none hV
 obtain⟨z0,s0,A0,B0⟩:=Vl.Yx (P:=Tryz.prog) (pl:=Vl.Ag [] []) 2 (by simp[Vl.CM,Vl.CM.go,Tryz.underlying3,Tryz.underlying22,show Tryz.prog.cellsOf 3=1 from by kernel_rfl,show Tryz.prog.cellsOf 22=1 from by kernel_rfl]) (hval 0 22 v0 rfl rfl) h0
 obtain⟨a0,rfl⟩:=Vl.Pz Tryz.underlying22 (f:=(Vl.AH .i64)) (fun _ _ h=>Vl.WJ Tryz.underlying3 h) s0
 obtain⟨x0,e0,R0⟩:=B0 (fun fs h=>by rw[Tryz.underlying22] at h;cases h)
 simp only[Vl.AH,Vl.B2,Vl.Qc,Vl.DJ,List.cons.injEq,and_true] at e0;subst e0
 refine((Vl.J3 (Vl.Mu a0)).run W #[v0] rfl (fun i x v hx hv=>?_) hgl).mono fun e W' ⟨v,he,hr,hb⟩=>?_
 ·match i,hx,hv with
  |0,hx,hv=>simp at hx hv;subst hx hv;exact R0
 ·obtain rfl:=hr.bool_inv
  exact⟨_,he,Vl.Pq laidOut (by kernel_rfl) rfl Tryz.underlying4 rfl hW' rfl rfl rfl hb⟩
theorem closed:joinedFacts Tryz.pinned.checked.prog 4 Tryz.f4 Rows.topDeadSpec Rows.topDeadRow=true:=by kernel_rfl
theorem inst:Tryz.f4.isInstance Tryz.pinned.checked.prog Rows.topDeadRow.origin Rows.topDeadRow.targs:=of_decide_eq_true (by kernel_rfl)
theorem wraps:Tryz.f4.isWrapper Tryz.pinned.checked.prog Rows.topDeadRow.wrapper Rows.topDeadRow.mainSum:=by
 unfold Func.isWrapper;first |(rw [if_pos (by decide +kernel)];kernel_rfl) |(rw [if_neg (by decide +kernel)];exact⟨rfl,rfl⟩)
theorem named:Tryz.pinned.checked.prog.funcNamed Rows.topDeadRow.func=some 4:=by kernel_rfl
theorem over:Rows.topDeadRow.holds Tryz.pinned (OpenSpec.ofChange Rows.topDeadSpec):=
 OpenClaim.holds_of_wide 4 Tryz.f4 rfl rfl rfl rfl rfl rfl rfl ⟨rfl,rfl,rfl,rfl,rfl⟩ rfl rfl rfl rfl rfl named Tryz.func4 closed inst wraps
  (fun os started H enc _=>lifted os started H enc)
theorem wants:∀(j:Nat) (t:TypeId),Tryz.f4.params[j]? =some t→Tryz.pinned.checked.prog.wantsStandIn t=false:=fun j t ht=>by
 have h:(Tryz.f4.params.all fun t=>!Tryz.pinned.checked.prog.wantsStandIn t)=true:=by kernel_rfl
 have:=(Array.all_eq_true.1 h) j (Array.getElem?_eq_some_iff.1 ht).1
 rw[(Array.getElem?_eq_some_iff.1 ht).2] at this
 simpa using this
theorem proved:Rows.TopDeadCardSaid:=
 Claim7.holds_tied_plain_at .later [] [.data,.data,.data,.data,.sentinel,.sentinel,.pinned] true Rows.topDeadCard.stood.harness Rows.topDeadCard.stood.looks over (fun _ h=>by cases h) (by kernel_rfl) (fun _ h=>by cases h) topDead_row_tie rfl ⟨rfl,rfl⟩ (by kernel_rfl) rfl
  (fun f fn hf hfn=>by
   obtain rfl:f=4:=(Option.some.inj (named.symm.trans hf)).symm
   obtain rfl:fn=Tryz.f4:=(Option.some.inj (Tryz.func4.symm.trans hfn)).symm
   exact⟨by kernel_rfl,wants⟩)
  (by kernel_rfl)
#print axioms proved
end Go.Proofs.YtbnfogbfphakmaaGreatDoor.topDead
