/- Walks over functions of the given program in the value logic: what each computes, and plain laws of it. Conditions: none. -/
import Derived.Test.YtjnflahicimmlaaGreatDoorVmMb
import Derived.ProofKit
import Derived.OpenShut
import Derived.Carry
import Derived.ChangeSame
set_option linter.unusedSimpArgs false
set_option linter.unusedVariables false
namespace Go.Vl
open Go Go.RowKit Go.WideShapes Go.ChangeShapes Go.ChangeAt
variable {H:Type} {enc:TypeId×Value→H} {P:Program}
theorem dY.run {f:FuncId} {args:List AV} {res:AV} (hF:dY P f [] args res []) (W:World) (vs:Array Value) (hs:vs.size=args.length)
  (tV:∀(i:Nat) (x:AV) (v:Value),args[i]? =some x→vs[i]? =some v→RA W (· < W.heap.size) (dM [] []) x v) (xh:mB P W (· < W.heap.size)):
  Calls P f vs W λe W'=>∃v,e=.returned v∧RA W' (Av (· < W.heap.size) [] [] W W') (dM [] []) res v∧Below W.heap.size W W':=by
 refine(hF W (· < W.heap.size) [] [] vs ⟨rfl,dL,λb hb=>⟨hb,by simp,by simp⟩,λi b cs h=>by simp at h,rfl,λi b cs h=>by simp at h,λi j v u h=>by simp at h,λv h=>by simp at h⟩ hs tV xh).mono λe W' h=>?_
 obtain⟨v,iv',he,hv,dN,_,hf⟩:=h;have Hv:iv'=[]:=aI dN.xj;subst Hv;exact⟨v,he,hv,hf.os,hf.tape,hf.output,hf.size,λk hk=>hf.block k hk (by simp) (by simp)⟩
theorem RA.TP {w:World} {ok:Nat→Prop} {p:Pl} {b:Bool} {v:Value} (h:RA w ok p (.d (.bool b)) v):v=.bool b:=by
 cases h with |d h=>cases h;rfl
theorem Lo (hl:laidOutB P=true) {W W':World} (hb:Below W.heap.size W W') {sp:Nat→Bool}:∀{ts:List TypeId} {vs:List Value} {ds:List (DataW H)} {ps:List MemPlace},
  (ts.all λt=>P.readableRec t&&decide (t < P.types.size))=true→DataW.TrodAll enc P W 0 (λ_=>true) true ts vs ds ps→(∀x∈ps,x.block < W.heap.size)→(∀x∈ps,sp x.block=true)→
  DataW.TrodAll enc P W' 0 sp true ts vs ds ps
 |[],vs,ds,ps,_,h,_,_=>by
  obtain⟨rfl,rfl,rfl⟩:=trodAll_nil h;exact trodAll_mk0
 |t::ts,vs,ds,ps,ha,h,iN,LG=>by
  obtain⟨v,vs',d,ds',p,q,rfl,rfl,rfl,h0,r⟩:=trodAll_cons h;simp only[List.all_cons,aR,bg] at ha;refine⟨p,q,WideElems.Trod_stays hl ha.1.1 ha.1.2 h0 (λx hx=>hb.same (iN x (by simp[hx]))) (λx hx=>LG x (by simp[hx])),?_,rfl⟩;exact Lo hl hb (by simpa using ha.2) r (λx hx=>iN x (by simp[hx])) (λx hx=>LG x (by simp[hx]))
theorem Pd {f:Func} {s:ChangeSpec} {apart fresh handsOn again:Bool} {W W':World} {args:Array Value} {ds gs:List (DataW H)} {before:List MemPlace} {bt:TypeId}
  (hl:laidOutB P=true) (hf:(f.params.toList.all λt=>P.readableRec t&&decide (t < P.types.size))=true) (hrt:f.resultTypes= #[bt]) (hbt:P.underlying bt=some .bool) (hv:s.vars=[])
  (hW:DataW.Whole enc P f.params.toList s.vars apart W args.toList ds gs before)
  (rV:(s.fn H (ds++gs)).results=[.lit (.bool true)]) (eZ:(s.fn H (ds++gs)).args=ds) (afq:(s.fn H (ds++gs)).vars=[])
  (hb:Below W.heap.size W W'):s.post enc P f apart fresh handsOn again W args (.bool true) W':=by
 have iN:∀p∈before,p.block < W.heap.size:=λp hp=>hW.lt p hp
 have hold:∀p∈before,(λb=>decide (b < W.heap.size)) p.block=true:=λp hp=>by simpa using iN p hp
 have hW':=hW;obtain⟨p,q,hA,hV,rfl,hz,hn⟩:=hW;rw[hv] at hV;obtain⟨rfl,rfl⟩:=trodVars_none hV;have hr:∀(b:Nat) (sp:Nat→Bool) (hd:Bool),DataW.TrodAll enc P W' b sp hd f.resultTypes.toList ((Value.bool true).resultList f.resultTypes.size) (s.fn H (ds++[])).results []:=by
  intro b sp hd;rw[hrt,rV];exact trodAll_mk1 (shut_bool hbt true)
 have ha:∀sp:Nat→Bool,(∀x∈p++[],sp x.block=true)→DataW.TrodAll enc P W' 0 sp true f.params.toList args.toList (s.fn H (ds++[])).args p:=by
  intro sp LG;rw[eZ];exact Lo hl hb hf hA (λx hx=>iN x (by simp[hx])) (λx hx=>LG x (by simp[hx]))
 have zw:∀sp:Nat→Bool,DataW.TrodVars enc P W' sp s.vars (s.fn H (ds++[])).vars []:=by
  intro sp;rw[hv,afq];rfl
 refine⟨ds,[],p++[],[],p,[],hW',hr _ _ _,ha _ hold,zw _,World.keptBut_mono (λx hx=>⟨hx,?_⟩) (hb.frame (·∈p++[])),λ_=>?_⟩
 ·rw[aQ] at hx
  exact Or.inr hx
 ·refine⟨ok_one hrt rfl (okWide_bool_mk hbt true),_,_,([]++p)++[],⟨[]++p,[],trodAll_append (ha _ (λ_ _=>rfl)) (hr _ _ _),zw _,rfl,?_,?_⟩,?_⟩
  ·intro b off hp
   have Dz:MemPlace.cell b off∈p++[]:=by simpa using hp
   rw[hb.frozen (iN _ Dz)];exact hz b off Dz
  ·intro h;simpa using hn h
  ·intro x hx _
   simpa using hx
end Go.Vl
