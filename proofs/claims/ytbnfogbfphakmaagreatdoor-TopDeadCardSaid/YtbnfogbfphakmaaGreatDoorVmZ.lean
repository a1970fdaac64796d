/- Walks over functions of the given program in the value logic: what each computes, and plain laws of it. Conditions: none. -/
import Derived.Test.YtbnfogbfphakmaaGreatDoorVmMb
import Derived.WalkKit
import Derived.ProofKit
import Derived.OpenShut
import Derived.Below
import Derived.Carry
import Derived.ChangeSame
set_option linter.unusedSimpArgs false
set_option linter.unusedVariables false
namespace Go.Vl
open Go Go.RowKit Go.WideShapes Go.ChangeShapes Go.ChangeAt
variable {H:Type} {enc:TypeId×Value→H} {P:Program}
theorem Ac.run {f:FuncId} {args:List AV} {res:AV} (hF:Ac P f [] args res []) (W:World) (vs:Array Value) (hs:vs.size=args.length)
  (hra:∀(i:Nat) (x:AV) (v:Value),args[i]? =some x→vs[i]? =some v→RA W (· < W.heap.size) (Ag [] []) x v) (hgl:DX P W (· < W.heap.size)):
  Calls P f vs W fun e W'=>∃v,e=.returned v∧RA W' (okn (· < W.heap.size) [] [] W W') (Ag [] []) res v∧Below W.heap.size W W':=by
 refine(hF W (· < W.heap.size) [] [] vs ⟨rfl,List.nodup_nil,fun b hb=>⟨hb,by simp,by simp⟩,fun i b cs h=>by simp at h,rfl,fun i b cs h=>by simp at h,fun i j v u h=>by simp at h,fun v h=>by simp at h⟩ hs hra hgl).mono fun e W' h=>?_
 obtain⟨v,iv',he,hv,hpre,_,hf⟩:=h
 have hiv:iv'=[]:=List.eq_nil_of_length_eq_zero hpre.lenv
 subst hiv
 exact⟨v,he,hv,hf.os,hf.tape,hf.output,hf.size,fun k hk=>hf.block k hk (by simp) (by simp)⟩
theorem RA.bool_inv {w:World} {ok:Nat→Prop} {p:Pl} {b:Bool} {v:Value} (h:RA w ok p (.d (.bool b)) v):v=.bool b:=by
 cases h with |d h=>cases h;rfl
theorem Mi (hl:laidOutB P=true) {W W':World} (hb:Below W.heap.size W W') {sp:Nat→Bool}:∀{ts:List TypeId} {vs:List Value} {ds:List (DataW H)} {ps:List MemPlace},
  (ts.all fun t=>P.readableRec t&&decide (t < P.types.size))=true→DataW.TrodAll enc P W 0 (fun _=>true) true ts vs ds ps→(∀x∈ps,x.block < W.heap.size)→(∀x∈ps,sp x.block=true)→
  DataW.TrodAll enc P W' 0 sp true ts vs ds ps
 |[],vs,ds,ps,_,h,_,_=>by
  obtain⟨rfl,rfl,rfl⟩:=trodAll_nil h
  exact trodAll_mk0
 |t::ts,vs,ds,ps,ha,h,hlt,hsp=>by
  obtain⟨v,vs',d,ds',p,q,rfl,rfl,rfl,h0,r⟩:=trodAll_cons h
  simp only[List.all_cons,Bool.and_eq_true,decide_eq_true_eq] at ha
  refine⟨p,q,WideElems.Trod_stays hl ha.1.1 ha.1.2 h0 (fun x hx=>hb.same (hlt x (by simp[hx]))) (fun x hx=>hsp x (by simp[hx])),?_,rfl⟩
  exact Mi hl hb (by simpa using ha.2) r (fun x hx=>hlt x (by simp[hx])) (fun x hx=>hsp x (by simp[hx]))
theorem Pq {f:Func} {s:ChangeSpec} {apart fresh handsOn again:Bool} {W W':World} {args:Array Value} {ds gs:List (DataW H)} {before:List MemPlace} {bt:TypeId}
  (hl:laidOutB P=true) (hf:(f.params.toList.all fun t=>P.readableRec t&&decide (t < P.types.size))=true) (hrt:f.resultTypes= #[bt]) (hbt:P.underlying bt=some .bool) (hv:s.vars=[])
  (hW:DataW.Whole enc P f.params.toList s.vars apart W args.toList ds gs before)
  (hres:(s.fn H (ds++gs)).results=[.lit (.bool true)]) (hargs:(s.fn H (ds++gs)).args=ds) (hvar:(s.fn H (ds++gs)).vars=[])
  (hb:Below W.heap.size W W'):s.post enc P f apart fresh handsOn again W args (.bool true) W':=by
 have hlt:∀p∈before,p.block < W.heap.size:=fun p hp=>hW.lt p hp
 have hold:∀p∈before,(fun b=>decide (b < W.heap.size)) p.block=true:=fun p hp=>by simpa using hlt p hp
 have hW':=hW
 obtain⟨p,q,hA,hV,rfl,hz,hn⟩:=hW
 rw[hv] at hV
 obtain⟨rfl,rfl⟩:=trodVars_none hV
 have hr:∀(b:Nat) (sp:Nat→Bool) (hd:Bool),DataW.TrodAll enc P W' b sp hd f.resultTypes.toList ((Value.bool true).resultList f.resultTypes.size) (s.fn H (ds++[])).results []:=by
  intro b sp hd
  rw[hrt,hres]
  exact trodAll_mk1 (shut_bool hbt true)
 have ha:∀sp:Nat→Bool,(∀x∈p++[],sp x.block=true)→DataW.TrodAll enc P W' 0 sp true f.params.toList args.toList (s.fn H (ds++[])).args p:=by
  intro sp hsp
  rw[hargs]
  exact Mi hl hb hf hA (fun x hx=>hlt x (by simp[hx])) (fun x hx=>hsp x (by simp[hx]))
 have hvs:∀sp:Nat→Bool,DataW.TrodVars enc P W' sp s.vars (s.fn H (ds++[])).vars []:=by
  intro sp;rw[hv,hvar];rfl
 refine⟨ds,[],p++[],[],p,[],hW',hr _ _ _,ha _ hold,hvs _,World.keptBut_mono (fun x hx=>⟨hx,?_⟩) (hb.frame (·∈p++[])),fun _=>?_⟩
 ·rw[List.mem_append] at hx
  exact Or.inr hx
 ·refine⟨ok_one hrt rfl (okWide_bool_mk hbt true),_,_,([]++p)++[],⟨[]++p,[],trodAll_append (ha _ (fun _ _=>rfl)) (hr _ _ _),hvs _,rfl,?_,?_⟩,?_⟩
  ·intro b off hp
   have hin:MemPlace.cell b off∈p++[]:=by simpa using hp
   rw[hb.frozen (hlt _ hin)]
   exact hz b off hin
  ·intro h;simpa using hn h
  ·intro x hx _
   simpa using hx
end Go.Vl
