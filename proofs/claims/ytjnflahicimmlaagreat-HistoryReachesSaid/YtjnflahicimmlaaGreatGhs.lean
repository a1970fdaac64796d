/- history.reachable: what is reachable, in whatever order it is met. Conditions: none. -/
import Derived.Test.YtjnflahicimmlaaGreatGAx
import Derived.Test.YtjnflahicimmlaaGreatGvp
import Derived.Test.YtjnflahicimmlaaGreatVmCc
import Derived.Test.YtjnflahicimmlaaGreatPlG
set_option maxHeartbeats 2000000
set_option linter.unusedSimpArgs false
set_option linter.unusedVariables false
namespace Go.Vl
open Go Go.Proofs
noncomputable def hYreachable_l0 (a1:List (Int×zO)) (s5:(List (Int×Bool))×(List Int)):Option (Lp ((List (Int×Bool))×(List Int)) (List (Int×Bool))):=
 if(decide (0 < ((s5.2).length:Int)))=true then
  (ck (0≤IntKind.i64.wrap (((s5.2).length:Int) - 1)∧(Int.toNat (IntKind.i64.wrap (((s5.2).length:Int) - 1))) < (s5.2).length)).bind fun _=>
  (idx s5.2 (IntKind.i64.wrap (((s5.2).length:Int) - 1))).bind fun x6=>
  (ck (0≤0∧0≤IntKind.i64.wrap (((s5.2).length:Int) - 1)∧IntKind.i64.wrap (((s5.2).length:Int) - 1)≤(((s5.2).length:Nat):Int))).bind fun _=>
  if(!((mget inE s5.1 x6).getD false))=true then
   (hYnamed ((mget inE a1 x6).getD (⟨0,0,[],[],0,[],ByteArray.empty,0⟩:zO))).bind fun y7=>
   (ck ((((s5.2).take (Int.toNat (IntKind.i64.wrap (((s5.2).length:Int) - 1))))).length+(y7).length≤268435456)).bind fun _=>
   some (.go ((mset inE s5.1 x6 true),(((s5.2).take (Int.toNat (IntKind.i64.wrap (((s5.2).length:Int) - 1))))++y7)))
  else
   some (.go (s5.1,((s5.2).take (Int.toNat (IntKind.i64.wrap (((s5.2).length:Int) - 1))))))
 else
  some (.out s5.1)
theorem hYreachable_ok {a0:zR} {a1:List (Int×zO)} {a2:Int} {m:List (ByteArray×Int)} (h1m:hYrefs a0 a2=some m) (hm:m.length≤1000000) {Φ:List (Int×Bool)→Prop}
  (h0:∀ss:List Int,ss.Perm (m.map (·.2))→∃r,iter (hYreachable_l0 a1) ([],ss)=some r∧Φ r):
  FnOKr Tryz.prog 56 [.agg (zRa a0),.d (.mp (mTag 66 1 false true) 9 (rowsF (mRow (iRow .i64) zOr) a1)),.d (.int .i64 a2)] Φ (fun r=>.d (.mp (mTag 75 1 false false) 2 (rowsF (mRow (iRow .i64) bRow) r))) (fun _=>[]):=by
 refine fn_okrK (nt:=43) (rs:=[.tmp 6]) Tryz.func56 rfl Tryz.ntmps56 rfl (by simp) (by decide) fun K _=>?_
 refine kr [1,2,3] (by simp;rfl) ?_
 refine kr [1,2,3,7] (by simp;rfl) ?_
 refine kc ?_
 refine ko [1,7,11,12] 2 (by simp;rfl) ?_
 refine kcall [1,7,13] [] (hYrefs_ok h1m) rfl rfl rfl Tryz.call50 (by simp) (by simp;rfl) ?_
 refine kcall [1,7,14] [] (pYValues_ok (e:=mTag 82 1 false false) (z:=2) (rows:=rowsF (mRow sRow (iRow .i64)) m)) rfl rfl rfl Tryz.call90 (by simp) (by simp;rfl) ?_
 refine kcallR [1,7,15] [600060] (sYCollect_ok hm) rfl rfl rfl Tryz.call84 (by simp) (fun _=>rfl) (fun ss=>by simp;rfl) fun ss hss=>?_
 refine ko [1,7,8] 1 (by simp;rfl) ?_
 refine tpN ?_
 obtain⟨e1,hI1,hΦ⟩:=h0 ss hss
 refine sjv (fun v4:(List (Int×Bool))=>({ nt:=43,env:=[(7,.vec 10)],box:=[],vec:=[(10,⟨mTag 75 1 false false,2,rowsF (mRow (iRow .i64) bRow) v4⟩)]}:St)) (fun v4=>v4=e1) (fun v4 hI1e=>?_) ?_
 ·subst hI1e
  refine kr [6] (by simp;rfl) ?_
  exact trr ⟨_,hΦ,[10],[],by simp,by simp,by simp,by simp,by simp⟩
 ·refine trb (tr_iter (fun s5:(List (Int×Bool))×(List Int)=>({ nt:=43,env:=[(1,.d (.mp (mTag 66 1 false true) 9 (rowsF (mRow (iRow .i64) zOr) a1))),(7,.vec 10),(8,.vec 600060)],box:=[],vec:=[(10,⟨mTag 75 1 false false,2,rowsF (mRow (iRow .i64) bRow) s5.1⟩),(600060,⟨3,1,rowsF (iRow .i64) s5.2⟩)]}:St)) hI1 (wk (by simp[wkI])) fun G1 s5 o1 h1 hg1 he1=>?_)
  unfold hYreachable_l0 at h1
  refine trq ?_
  refine kr [1,7,8,18] (by simp;rfl) ?_
  refine trc (b:=(decide (0 < ((s5.2).length:Int)))) (by simp) (fun c5=>?_) (fun c5=>?_)
  ·rw[if_pos c5] at h1
   refine trk ?_
   refine trb ?_
   replace h1:=bnd h1;obtain⟨_,p9,h1⟩:=h1
   replace p9:=ck_some p9
   have p9':=p9;try simp at p9'
   have p9o:IntKind.i64.wrap (((s5.2).length:Int) - 1) < (((s5.2)).length:Int):=by omega
   replace h1:=bnd h1;obtain⟨x6,p10,h1⟩:=h1
   replace p10:=idx_some p10
   have p10':=p10;try simp at p10'
   refine kr [1,7,8,9] (by simp[-getElem?_pos,List.getElem?_cons_zero,List.getElem?_cons_succ,p9,p9o,p10,p9',p10'];rfl) ?_
   replace h1:=bnd h1;obtain⟨_,p11,h1⟩:=h1
   replace p11:=ck_some p11
   have p11':=p11;try simp at p11'
   refine kr [1,7,8,9] (by simp[p11,p11'];rfl) ?_
   refine tr_wk (wk_cut (z:=1) (k:=Int.toNat (IntKind.i64.wrap (((s5.2).length:Int) - 1))) 8 600060 600060 (by simp) (by simp;rfl) (by simp)) ?_
   refine kr [1,7,8,9,33] (by simp;rfl) ?_
   refine trc (b:=(!((mget inE s5.1 x6).getD false))) (by simp) (fun c6=>?_) (fun c6=>?_)
   ·rw[if_pos c6] at h1
    refine kr [1,7,8,9] (by simp;rfl) ?_
    refine kc1 ?_
    refine ko [1,7,36,39] 4 (by simp;rfl) ?_
    replace h1:=bnd h1;obtain⟨y7,hy7,h1⟩:=h1
    refine kcall [1,7,36,40] [] (hYnamed_ok hy7) rfl rfl rfl Tryz.call72 (by simp) (by simp;rfl) ?_
    replace h1:=bnd h1;obtain⟨_,p12,h1⟩:=h1
    replace p12:=ck_some p12
    have p12':=p12;try simp at p12'
    refine ko [1,7,8] 2 (by simp[p12,p12'];rfl) ?_
    refine tpN ?_
    exact⟨_,hg1 _ (Option.some.inj h1),Wk.trans (wk_ren 41 600060) (wk (by simp[wkI]))⟩
   ·rw[if_neg (by rw[c6];decide)] at h1
    refine trk ?_
    exact⟨_,hg1 _ (Option.some.inj h1),wk (by simp[wkI])⟩
  ·rw[if_neg (by rw[c5];decide)] at h1
   refine tr_exit ?_
   exact⟨_,he1 _ (Option.some.inj h1),wk (by simp[wkI])⟩
end Go.Vl
namespace Go.Vl
open Go
theorem iter_meas {σ ε:Type} {body:σ→Option (Lp σ ε)} (Inv:σ→Prop) (μ:σ→Nat) (Φ:ε→Prop)
  (h:∀s,Inv s→(∃s',body s=some (.go s')∧Inv s'∧μ s' < μ s)∨(∃e,body s=some (.out e)∧Φ e)):∀s,Inv s→∃e,iter body s=some e∧Φ e:=by
 suffices H:∀n s,μ s≤n→Inv s→∃m e,itN body m s=some e∧Φ e from fun s hs=>by
  obtain⟨m,e,h1,h2⟩:=H (μ s) s (Nat.le_refl _) hs
  exact⟨e,iter_iff.2 ⟨m,h1⟩,h2⟩
 intro n
 induction n with
 |zero=>
  intro s hn hs
  rcases h s hs with ⟨s',h1,h2,h3⟩ |⟨e,h1,h2⟩
  ·omega
  ·exact⟨1,e,by simp[itN,h1],h2⟩
 |succ n ih=>
  intro s hn hs
  rcases h s hs with ⟨s',h1,h2,h3⟩ |⟨e,h1,h2⟩
  ·obtain⟨m,e,h4,h5⟩:=ih s' (by omega) h2
   exact⟨m+1,e,by simp[itN,h1,h4],h5⟩
  ·exact⟨1,e,by simp[itN,h1],h2⟩
def nmO (all:List (Int×zO)) (id:Int):List Int:=namesO ((mget inE all id).getD (⟨0,0,[],[],0,[],ByteArray.empty,0⟩:zO))
inductive Rch (all:List (Int×zO)) (seeds:List Int):Int→Prop
 |seed {id:Int}:id∈seeds→Rch all seeds id
 |step {id j:Int}:Rch all seeds id→j∈nmO all id→Rch all seeds j
def wgt (p:Int→Bool):List (Int×zO)→Nat
 |[]=>0
 |q::l=>(if p q.1=true then 0 else(namesO q.2).length)+wgt p l
theorem wgt_congr {p p':Int→Bool}:∀{l:List (Int×zO)},(∀q∈l,p q.1=p' q.1)→wgt p l=wgt p' l
 |[],_=>rfl
 |q::l,h=>by simp only[wgt];rw[h q (by simp),wgt_congr fun q hq=>h q (by simp[hq])]
theorem wgt_take {p p':Int→Bool} {x:Int} (hx:p x=false) (hp:∀c,p' c=(c==x||p c)):∀{l:List (Int×zO)},(l.map (·.1)).Nodup→wgt p' l+(nmO l x).length=wgt p l
 |[],_=>rfl
 |q::l,hn=>by
  rw[List.map_cons,List.nodup_cons] at hn
  unfold nmO
  rw[mget_cons]
  by_cases h:x=q.1
  ·rw[if_pos ((inE_eq _ _).2 h)]
   have h2:wgt p' l=wgt p l:=wgt_congr fun r hr=>by
    rw[hp]
    have:r.1≠x:=fun e=>hn.1 (by rw[← h,←e];exact List.mem_map_of_mem hr)
    simp[this]
   simp only[wgt,Option.getD_some]
   rw[h2,hp,←h,hx]
   simp
   omega
  ·rw[if_neg (fun e=>h ((inE_eq _ _).1 e))]
   have h2:=wgt_take hx hp hn.2
   unfold nmO at h2
   have:(q.1==x)=false:=by simpa using fun e=>h e.symm
   simp only[wgt]
   rw[hp,this,Bool.false_or]
   omega
def okR (all:List (Int×zO)) (n:Nat):Prop:=(all.map (·.1)).Nodup∧(∀q∈all,fitO q.2=true)∧n+wgt (fun _=>false) all≤200000000
structure RchM (all:List (Int×zO)) (seeds:List Int) (m:List (Int×Bool)):Prop where
 nd:(m.map (·.1)).Nodup
 tt:∀q∈m,q.2=true
 iff:∀id,id∈m.map (·.1)↔Rch all seeds id
structure RInv (all:List (Int×zO)) (seeds:List Int) (s:List (Int×Bool)×List Int):Prop where
 nd:(s.1.map (·.1)).Nodup
 tt:∀q∈s.1,q.2=true
 rk:∀id∈s.1.map (·.1),Rch all seeds id
 rn:∀id∈s.2,Rch all seeds id
 sd:∀id∈seeds,id∈s.1.map (·.1)∨id∈s.2
 st:∀id∈s.1.map (·.1),∀j∈nmO all id,j∈s.1.map (·.1)∨j∈s.2
 sz:s.2.length+wgt (fun c=>(mget inE s.1 c).isSome) all≤200000000
theorem mset_true {m:List (Int×Bool)} (h:∀q∈m,q.2=true) (x:Int):∀q∈mset inE m x true,q.2=true:=by
 induction m with
 |nil=>intro q hq;simp[mset,mfind] at hq;rw[hq]
 |cons r m ih=>
  intro q hq
  rw[mset_cons] at hq
  split at hq
  ·rcases List.mem_cons.1 hq with rfl |hq
   ·rfl
   ·exact h q (by simp[hq])
  ·rcases List.mem_cons.1 hq with rfl |hq
   ·exact h _ (by simp)
   ·exact ih (fun q hq=>h q (by simp[hq])) q hq
theorem fit_zero:fitO (⟨0,0,[],[],0,[],ByteArray.empty,0⟩:zO)=true:=by simp[fitO]
theorem reach_iter {all:List (Int×zO)} {seeds ss:List Int} (ok:okR all ss.length) (hss:∀id,id∈ss↔id∈seeds):∃r,iter (hYreachable_l0 all) ([],ss)=some r∧RchM all seeds r:=by
 have hgf:∀(m:List (Int×Bool)) (x:Int),(∀q∈m,q.2=true)→(mget inE m x).getD false=(mget inE m x).isSome:=fun m x h=>by
  cases hg:mget inE m x with
  |none=>rfl
  |some b=>exact h _ (mget_some inE_eq hg)
 refine iter_meas (RInv all seeds) (fun s=>s.2.length+wgt (fun c=>(mget inE s.1 c).isSome) all) _ (fun s I=>?_) _ ⟨by simp,by simp,by simp,fun id hid=>.seed ((hss id).1 hid),fun id hid=>.inr ((hss id).2 hid),by simp,by simpa[mget,mfind] using ok.2.2⟩
 rcases List.eq_nil_or_concat s.2 with h0 |⟨pre,x,h0⟩
 ·right
  refine⟨s.1,by unfold hYreachable_l0;simp[h0],I.nd,I.tt,fun id=>⟨I.rk id,fun h=>?_⟩⟩
  induction h with
  |seed h=>exact(I.sd _ h).resolve_right (by simp[h0])
  |step _ h2 ih=>exact(I.st _ ih _ h2).resolve_right (by simp[h0])
 ·left
  have hsz:=I.sz
  rw[h0] at hsz
  simp only[List.concat_eq_append,List.length_append,List.length_singleton] at h0 hsz
  have hlen:s.2.length=pre.length+1:=by rw[h0];simp
  have hw:IntKind.i64.wrap ((s.2.length:Int) - 1)=(pre.length:Int):=by rw[wrapI (by omega) (by omega)];omega
  have hidx:idx s.2 (pre.length:Int)=some x:=by
   rw[idx_nat,h0];simp
  have htk:s.2.take pre.length=pre:=by rw[h0];simp
  have hck1:ck (0≤IntKind.i64.wrap ((s.2.length:Int) - 1)∧(Int.toNat (IntKind.i64.wrap ((s.2.length:Int) - 1))) < s.2.length)=some ():=if_pos (by rw[hw];omega)
  have hck2:ck (0≤0∧0≤IntKind.i64.wrap ((s.2.length:Int) - 1)∧IntKind.i64.wrap ((s.2.length:Int) - 1)≤((s.2.length:Nat):Int))=some ():=if_pos (by rw[hw];omega)
  have hxr:Rch all seeds x:=I.rn x (by rw[h0];simp)
  have hb:hYreachable_l0 all s=if(mget inE s.1 x).isSome=true then some (.go (s.1,pre)) else some (.go (mset inE s.1 x true,pre++nmO all x)):=by
   unfold hYreachable_l0
   rw[if_pos (by simp;omega),hck1,hw,hidx]
   simp only[Option.bind_some]
   rw[hw] at hck2
   rw[hck2]
   simp only[Option.bind_some,Int.toNat_natCast]
   simp only[htk]
   rw[hgf _ _ I.tt]
   by_cases hm:(mget inE s.1 x).isSome=true
   ·rw[hm];simp
   ·have hm':(mget inE s.1 x).isSome=false:=by simpa using hm
    rw[hm']
    have hfit:fitO ((mget inE all x).getD (⟨0,0,[],[],0,[],ByteArray.empty,0⟩:zO))=true:=by
     cases hg:mget inE all x with
     |none=>exact fit_zero
     |some o=>exact ok.2.1 _ (mget_some inE_eq hg)
    have hwt:=wgt_take (p:=fun c=>(mget inE s.1 c).isSome) (p':=fun c=>(c==x||(mget inE s.1 c).isSome)) (x:=x) hm' (fun _=>rfl) ok.1
    have hln:pre.length+(nmO all x).length≤268435456:=by omega
    simp only[Bool.not_false,if_true]
    unfold hYnamed
    rw[if_pos hfit]
    simp only[Option.bind_some]
    unfold nmO at hln
    rw[ck_t hln]
    rfl
  by_cases hm:(mget inE s.1 x).isSome=true
  ·refine⟨(s.1,pre),by rw[hb,if_pos hm],⟨I.nd,I.tt,I.rk,fun id hid=>I.rn id (by rw[h0];simp[hid]),fun id hid=>?_,fun id hid j hj=>?_,by show pre.length+wgt (fun c=>(mget inE s.1 c).isSome) all≤_;omega⟩,by show pre.length+wgt (fun c=>(mget inE s.1 c).isSome) all < s.2.length+wgt (fun c=>(mget inE s.1 c).isSome) all;omega⟩
   ·rcases I.sd id hid with h |h
    ·exact .inl h
    ·rw[h0] at h
     rcases List.mem_append.1 h with h |h
     ·exact .inr h
     ·rw[List.mem_singleton.1 h];exact .inl ((mget_mem inE_eq).1 hm)
   ·rcases I.st id hid j hj with h |h
    ·exact .inl h
    ·rw[h0] at h
     rcases List.mem_append.1 h with h |h
     ·exact .inr h
     ·rw[List.mem_singleton.1 h];exact .inl ((mget_mem inE_eq).1 hm)
  ·have hm':(mget inE s.1 x).isSome=false:=by simpa using hm
   have hp:∀c,(mget inE (mset inE s.1 x true) c).isSome=(c==x||(mget inE s.1 c).isSome):=fun c=>by
    by_cases e:c=x
    ·rw[(mget_mset inE_eq _ _ _ _).1 e];simp[e]
    ·rw[(mget_mset inE_eq _ _ _ _).2 e];simp[e]
   have hwt:=wgt_take (p:=fun c=>(mget inE s.1 c).isSome) (p':=fun c=>(mget inE (mset inE s.1 x true) c).isSome) (x:=x) hm' hp ok.1
   refine⟨(mset inE s.1 x true,pre++nmO all x),by rw[hb,if_neg hm],⟨mset_nodup inE_eq I.nd x true,mset_true I.tt x,fun id hid=>?_,fun id hid=>?_,fun id hid=>?_,fun id hid j hj=>?_,by show(pre++nmO all x).length+wgt (fun c=>(mget inE (mset inE s.1 x true) c).isSome) all≤_;rw[List.length_append];omega⟩,by show(pre++nmO all x).length+wgt (fun c=>(mget inE (mset inE s.1 x true) c).isSome) all < s.2.length+wgt (fun c=>(mget inE s.1 c).isSome) all;rw[List.length_append];omega⟩
   ·rcases(mset_mem inE_eq).1 hid with rfl |h
    ·exact hxr
    ·exact I.rk id h
   ·rcases List.mem_append.1 hid with h |h
    ·exact I.rn id (by rw[h0];simp[h])
    ·exact .step hxr h
   ·rcases I.sd id hid with h |h
    ·exact .inl ((mset_mem inE_eq).2 (.inr h))
    ·rw[h0] at h
     rcases List.mem_append.1 h with h |h
     ·exact .inr (List.mem_append.2 (.inl h))
     ·exact .inl ((mset_mem inE_eq).2 (.inl (List.mem_singleton.1 h)))
   ·rcases(mset_mem inE_eq).1 hid with rfl |h
    ·exact .inr (List.mem_append.2 (.inr hj))
    ·rcases I.st id h j hj with h |h
     ·exact .inl ((mset_mem inE_eq).2 (.inr h))
     ·rw[h0] at h
      rcases List.mem_append.1 h with h |h
      ·exact .inr (List.mem_append.2 (.inl h))
      ·exact .inl ((mset_mem inE_eq).2 (.inl (List.mem_singleton.1 h)))
end Go.Vl
namespace Go.Vl
open Go Go.Proofs Go.RowKit
section
variable {P:Program} {K:Ctx P} {st:St} {Q:Exit→St→Prop}
theorem tr_loopW {c:Code} {ι:Type} (S:ι→St) (I:ι→Prop) (μ:ι→Nat) {i0:ι} (h0:I i0) (W:Wk st (S i0)) (round:∀i,I i→Tr P K c (S i) (thenQ (fun s=>∃j,I j∧μ j < μ i∧Wk s (S j)) Q)):Tr P K (.loop c) st Q:=fun a w p R=>by
 obtain⟨p1,R1⟩:=W K a w p R
 exact wp_loop_ghost (fun n a' w'=>∃i p',μ i=n∧I i∧Rel K (S i) a' w' p') (μ i0) ⟨i0,_,rfl,h0,R1⟩ (fun n a' w' ⟨i,p',hn,hi,R'⟩=>wp_mono (round i hi a' w' p' R') fun e a2 w2 ⟨s,p2,R2,q⟩=>by
  cases e with
  |normal=>
   obtain⟨j,hI,hj,W2⟩:=q
   obtain⟨p3,R3⟩:=W2 K a2 w2 p2 R2
   exact⟨μ j,hn▸hj,j,_,rfl,hI,R3⟩
  |_=>exact⟨s,p2,R2,q⟩)
end
noncomputable def seenStep (t:Int) (m:List (Int×Int)) (q:Int×Bool):List (Int×Int):=if(mget inE m q.1).isSome=true then m else mset inE m q.1 t
def sameNext (es:List zE) (i:Nat) (t:Int):Bool:=match es[i+1]? with |some e=>e.Time==t |none=>false
theorem seen_fold (t:Int):∀(l:List (Int×Bool)) (m:List (Int×Int)),foldO (fun (s:List (Int×Int)) (q:Int×Bool)=>some (Lp.go (ε:=List (Int×Int)) (seenStep t s q))) (fun s=>s) m l=some (l.foldl (seenStep t) m)
 |[],_=>rfl
 |q::l,m=>by
  simp only[foldO,Option.bind_some,List.foldl_cons]
  exact seen_fold t l _
theorem hYSeen_ok {a0:zR} {all:List (Int×zO)} {sg:Bool} (hidx:hYindex a0=some (all,sg)) (hlen:a0.Events.length≤1000000) {Rc:Int→List (Int×Bool)→Prop}
  (hR:∀t,FnOKr Tryz.prog 56 [.agg (zRa a0),.d (.mp (mTag 66 1 false true) 9 (rowsF (mRow (iRow .i64) zOr) all)),.d (.int .i64 t)] (Rc t) (fun r=>.d (.mp (mTag 75 1 false false) 2 (rowsF (mRow (iRow .i64) bRow) r))) (fun _=>[]))
  {Φ:Nat→List (Int×Int)→Prop} (hΦ0:Φ 0 [])
  (hΦs:∀i e,a0.Events[i]? =some e→sameNext a0.Events i e.Time=true→∀m,Φ i m→Φ (i+1) m)
  (hΦr:∀i e,a0.Events[i]? =some e→sameNext a0.Events i e.Time=false→∀m,Φ i m→∀rr,Rc e.Time rr→∀l:List (Int×Bool),l.Perm rr→Φ (i+1) (l.foldl (seenStep e.Time) m)):
  FnOKr Tryz.prog 48 [.agg (zRa a0)] (Φ a0.Events.length) (fun r=>.d (.mp (mTag 80 1 false false) 2 (rowsF (mRow (iRow .i64) (iRow .i64)) r))) (fun _=>[]):=by
 refine fn_okrK (nt:=67) (rs:=[.tmp 2]) Tryz.func48 rfl Tryz.ntmps48 rfl (by simp) (by decide) fun K hK=>?_
 refine kr [1] (by simp;rfl) ?_
 refine kc ?_
 refine ko [1,12] 1 (by simp;rfl) ?_
 refine kcall [1,13] [] (hYindex_ok hidx) rfl rfl rfl Tryz.call34 (by simp) (by simp;rfl) ?_
 refine ko [1,3] 5 (by simp;rfl) ?_
 refine tpN ?_
 refine kr [1,3,5] (by simp;rfl) ?_
 refine trq ?_
 refine kr [1,3,5,18,19,20] (by simp;rfl) ?_
 refine tjv (fun v:List (Int×Int)=>({ nt:=67,env:=[(5,.vec 16)],box:=[],vec:=[(16,⟨mTag 80 1 false false,2,rowsF (mRow (iRow .i64) (iRow .i64)) v⟩)]}:St)) (Φ a0.Events.length) (fun v hv _ W1=>?_) ?_
 ·refine tr_wk W1 ?_
  refine kr [2] (by simp;rfl) ?_
  exact trr ⟨_,hv,[16],[],by simp,by simp,by simp,by simp,by simp⟩
 ·refine trb (tr_loopW (fun s:Nat×List (Int×Int)=>({ nt:=67,env:=[(1,.ptr 1 0),(3,.d (.mp (mTag 66 1 false true) 9 (rowsF (mRow (iRow .i64) zOr) all))),(5,.vec 16),(18,.d (.slice (rowsF zEr a0.Events))),(19,.d (.int .i64 ((a0.Events).length:Int))),(20,.d (.int .i64 (s.1:Int)))],box:=[(1,[.d (.slice (rowsF zOr a0.Objects)),.d (.slice (rowsF zEr a0.Events))])],vec:=[(16,⟨mTag 80 1 false false,2,rowsF (mRow (iRow .i64) (iRow .i64)) s.2⟩)]}:St)) (fun s=>s.1≤a0.Events.length∧Φ s.1 s.2) (fun s=>a0.Events.length - s.1) (i0:=(0,[])) ⟨Nat.zero_le _,hΦ0⟩ (wk (by simp[wkI])) fun s ⟨hle,hI⟩=>?_)
  refine kr [1,3,5,18,19,20,21] (by simp;rfl) ?_
  refine trq ?_
  refine trc (b:=(decide ((s.1:Int) < ((a0.Events).length:Int)))) (by simp) (fun c5=>?_) (fun c5=>?_)
  ·have hlt:s.1 < a0.Events.length:=by simpa using c5
   obtain⟨e,he⟩:∃e,a0.Events[s.1]? =some e:=⟨_,List.getElem?_eq_getElem hlt⟩
   refine trk ?_
   refine trq ?_
   refine trb ?_
   refine kr [1,3,5,6,7,18,19,20] (by simp[he];rfl) ?_
   have hw:IntKind.i64.wrap ((s.1:Int)+1)=((s.1+1:Nat):Int):=by rw[wrapI (by omega) (by omega)];rfl
   refine sjv (fun _:Unit=>({ nt:=67,env:=[(1,.ptr 1 0),(3,.d (.mp (mTag 66 1 false true) 9 (rowsF (mRow (iRow .i64) zOr) all))),(5,.vec 16),(7,.ptr 7 0),(18,.d (.slice (rowsF zEr a0.Events))),(19,.d (.int .i64 ((a0.Events).length:Int))),(20,.d (.int .i64 (s.1:Int)))],box:=[(1,[.d (.slice (rowsF zOr a0.Objects)),.d (.slice (rowsF zEr a0.Events))]),(7,[.d (.int .i64 e.Kind),.d (.str e.Name),.d (.int .i64 e.Commit),.d (.int .i64 e.Time)])],vec:=[(16,⟨mTag 80 1 false false,2,rowsF (mRow (iRow .i64) (iRow .i64)) s.2⟩)]}:St)) (fun _=>sameNext a0.Events s.1 e.Time=false) (fun _ hsn=>?_) ?_
   ·refine kc_rangeT 5 rfl rfl rfl rfl Tryz.underlying75 ?_
    refine ko [1,3,5,7,18,19,20,43,44,46] 4 (by simp;rfl) ?_
    refine kcallR [1,3,5,7,18,19,20,47] [] (hR e.Time) rfl rfl rfl Tryz.call56 (by simp) (fun _=>rfl) (fun r=>by simp;rfl) fun rr hrr=>?_
    refine tpN ⟨mTag 75 1 false false,2,rowsF (mRow (iRow .i64) bRow) rr,by simp,by simp,fun r=>?_⟩
    refine tri_block ?_
    refine tr_range (row:=mRow (iRow .i64) bRow) (left0:=rr) (kA:=fun q=>.d (.int .i64 q.1)) (vA:=fun q=>.d (.bool q.2)) (S:=fun m:List (Int×Int)=>({ nt:=67,env:=[(1,.ptr 1 0),(3,.d (.mp (mTag 66 1 false true) 9 (rowsF (mRow (iRow .i64) zOr) all))),(5,.vec 16),(7,.ptr 7 0),(18,.d (.slice (rowsF zEr a0.Events))),(19,.d (.int .i64 ((a0.Events).length:Int))),(20,.d (.int .i64 (s.1:Int))),(48,.iter r)],box:=[(1,[.d (.slice (rowsF zOr a0.Objects)),.d (.slice (rowsF zEr a0.Events))]),(7,[.d (.int .i64 e.Kind),.d (.str e.Name),.d (.int .i64 e.Commit),.d (.int .i64 e.Time)])],vec:=[(16,⟨mTag 80 1 false false,2,rowsF (mRow (iRow .i64) (iRow .i64)) m⟩)]}:St))
     (body:=fun (m:List (Int×Int)) (q:Int×Bool)=>some (Lp.go (ε:=List (Int×Int)) (seenStep e.Time m q))) (fin:=fun m=>m) (s0:=s.2) (Φ:=fun m=>Φ (s.1+1) m)
     (List.eq_nil_of_length_eq_zero hK) ⟨rfl,rfl,rfl⟩ rfl rfl rfl rfl rfl rfl (by decide) (fun s=>by simp) (fun s=>by simp) (fun q=>?_) (fun q=>?_) (fun l hl=>?_) ?_ ?_ ?_
    ·simp[packMA,tag_ka,tag_kz,mRow]
    ·simp[packMA,tag_va,tag_kz,mRow]
    ·exact⟨_,seen_fold e.Time l s.2,hΦr _ _ he hsn _ hI _ hrr _ hl⟩
    ·simp[wkI]
    ·intro K' G m q o hK' hb hg he
     cases hb
     refine ko [1,3,5,7,8,18,19,20,48] 2 (by simp;rfl) ?_
     refine tpN ?_
     refine kr [1,3,5,7,8,10,18,19,20,48] (by simp;rfl) ?_
     refine kr [1,3,5,7,8,18,19,20,48,60] (by simp;rfl) ?_
     refine trc (b:=!(mget inE m q.1).isSome) (by simp) (fun c8=>?_) (fun c8=>?_)
     ·refine lr (by simp;rfl) ?_
      have hss:seenStep e.Time m q=mset inE m q.1 e.Time:=by unfold seenStep;rw[if_neg (by simpa using c8)]
      exact⟨_,hg _ rfl,by rw[hss];simp[wkI]⟩
     ·refine trk ?_
      have hss:seenStep e.Time m q=m:=by unfold seenStep;rw[if_pos (by simpa using c8)]
      exact⟨_,hg _ rfl,by rw[hss];simp[wkI]⟩
    ·intro m hm
     refine lr (by simp;rfl) ?_
     exact⟨(s.1+1,m),⟨hlt,hm⟩,by show _ - (s.1+1) < _;omega,wk (by simp[wkI,hw])⟩
   ·refine kd [[],[0],[],[2],[3],[1,4],[5],[6],[7,6],[6],[9,6],[8,10,6],[11,6],[12,6],[6],[14,6],[13,15,6],[6,16]] [] [] none [] 18 fol (by decide +kernel) (by simp) ?_
    refine dr_go 0 2 rfl (by simp (maxSteps:=1000000);rfl) ?_
    refine dr_go 2 2 rfl (by simp (maxSteps:=1000000);rfl) ?_
    refine dr_go 4 2 rfl (by simp (maxSteps:=1000000);rfl) ?_
    refine dr_go 6 1 rfl (by simp (maxSteps:=1000000);rfl) ?_
    refine dr_split 6 31 (decide (((s.1+1:Nat):Int) < ((a0.Events).length:Int))) (by simp[hw]) (fun c24=>?_) (fun c24=>?_)
    ·have hlt2:s.1+1 < a0.Events.length:=by simp at c24;omega
     obtain⟨e2,he2⟩:∃e2,a0.Events[s.1+1]? =some e2:=⟨_,List.getElem?_eq_getElem hlt2⟩
     have hsn:sameNext a0.Events s.1 e.Time=(e2.Time==e.Time):=by unfold sameNext;rw[he2]
     have hw0:0≤IntKind.i64.wrap ((s.1:Int)+1):=by omega
     have hw1:(IntKind.i64.wrap ((s.1:Int)+1)).toNat=s.1+1:=by omega
     refine dr_go 7 2 rfl (by simp (maxSteps:=1000000) [hw0,hw1,he2];rfl) ?_
     refine dr_go 9 2 rfl (by simp (maxSteps:=1000000) [hw0,hw1,he2];rfl) ?_
     refine dr_go 11 2 rfl (by simp (maxSteps:=1000000) [hw0,hw1,he2];rfl) ?_
     refine dr_go 13 2 rfl (by simp (maxSteps:=1000000) [hw0,hw1,he2];rfl) ?_
     refine dr_go 15 2 rfl (by simp (maxSteps:=1000000) [hw0,hw1,he2];rfl) ?_
     refine dr_go 17 1 rfl (by simp (maxSteps:=1000000) [hw0,hw1,he2];rfl) ?_
     refine dr_end rfl (tpN ?_)
     refine trc (b:=(e2.Time==e.Time)) (by simp) (fun c7=>?_) (fun c7=>?_)
     ·refine tr_exit ?_
      refine lr (by simp;rfl) ?_
      exact⟨(s.1+1,s.2),⟨hlt,hΦs _ _ he (hsn.trans c7) _ hI⟩,by show _ - (s.1+1) < _;omega,wk (by simp[wkI,hw])⟩
     ·refine trk ?_
      exact⟨(),hsn.trans c7,wk (by simp[wkI])⟩
    ·have hn2:a0.Events[s.1+1]? =none:=List.getElem?_eq_none (by simp at c24;omega)
     have hsn:sameNext a0.Events s.1 e.Time=false:=by unfold sameNext;rw[hn2]
     refine dr_skip 7 67 [some 32,some 33,some 34,some 35,some 36,some 37,some 38,some 39,some 40,some 41] rfl rfl (by decide) (by kernel_rfl) (by simp only[skEf,List.map_cons,List.map_nil,List.cons_append,List.nil_append];rfl) ?_
     refine dr_go 17 1 rfl (by simp (maxSteps:=1000000);rfl) ?_
     refine dr_end rfl (tpN ?_)
     refine trc (b:=false) (by simp) (fun c7=>by cases c7) (fun c7=>?_)
     refine trk ?_
     exact⟨(),hsn,wk (by simp[wkI])⟩
  ·have hgt:s.1=a0.Events.length:=by simp at c5;omega
   refine tr_exit ?_
   rw[← hgt]
   exact⟨_,hI,wk (by simp[wkI])⟩
end Go.Vl
namespace Go.Vl
open Go Go.Proofs
noncomputable def refStep (m:List (ByteArray×Int)) (e:zE):List (ByteArray×Int):=if e.Kind=1 then mset stE m e.Name e.Commit else mdel stE m e.Name
noncomputable def refsF (t:Int) (m:List (ByteArray×Int)):List zE→List (ByteArray×Int)
 |[]=>m
 |e::l=>if t < e.Time then m else refsF t (refStep m e) l
theorem refs_eq {a0:zR} (h:a0.Events.length≤1000000) (t:Int):hYrefs a0 t=some (refsF t [] a0.Events):=by
 unfold hYrefs
 obtain⟨e,h1,h2⟩:=iter_meas (body:=hYrefs_l0 a0 t) (fun s=>∃k:Nat,k≤a0.Events.length∧s.1=(k:Int)∧refsF t s.2 (a0.Events.drop k)=refsF t [] a0.Events) (fun s=>a0.Events.length - s.1.toNat) (fun e=>e=refsF t [] a0.Events) (fun s ⟨k,hk,h1,h2⟩=>by
  unfold hYrefs_l0
  rw[h1]
  by_cases hl:k < a0.Events.length
  ·rw[if_pos (by simpa using hl),idx_nat,List.getElem?_eq_getElem hl]
   rw[List.drop_eq_getElem_cons hl] at h2
   simp only[Option.bind_some]
   simp only[refsF] at h2
   by_cases ht:t < (a0.Events[k]).Time
   ·rw[if_pos ht] at h2
    right
    exact⟨_,by rw[if_pos (by simpa using ht)],h2⟩
   ·rw[if_neg ht] at h2
    left
    have hw:IntKind.i64.wrap ((k:Int)+1)=((k+1:Nat):Int):=by rw[wrapI (by omega) (by omega)];rfl
    rw[if_neg (by simpa using ht),hw]
    refine⟨(((k+1:Nat):Int),refStep s.2 a0.Events[k]),?_,⟨k+1,hl,rfl,h2⟩,?_⟩
    ·unfold refStep
     by_cases hk1:(a0.Events[k]).Kind=1
     ·rw[if_pos hk1,if_pos (by simpa using hk1)]
     ·rw[if_neg hk1,if_neg (by simpa using hk1)]
    ·show a0.Events.length - (((k+1:Nat):Int)).toNat < a0.Events.length - ((k:Nat):Int).toNat
     simp only[Int.toNat_natCast];omega
  ·right
   rw[if_neg (by simpa using hl)]
   refine⟨_,rfl,?_⟩
   rw[List.drop_eq_nil_of_le (by omega)] at h2
   simpa[refsF] using h2) (0,[]) ⟨0,Nat.zero_le _,rfl,by simp⟩
 rw[h1,h2];rfl
noncomputable def seedsAt (a0:zR) (t:Int):List Int:=(refsF t [] a0.Events).map (·.2)
open Classical in
/-- since when it is reachable, by the first n events -/
noncomputable def seenF (a0:zR) (all:List (Int×zO)):Nat→Int→Option Int
 |0,_=>none
 |n+1,id=>match seenF a0 all n id with
  |some t=>some t
  |none=>match a0.Events[n]? with
   |some e=>if sameNext a0.Events n e.Time=false∧Rch all (seedsAt a0 e.Time) id then some e.Time else none
   |none=>none
theorem seenStep_get (t:Int) (m:List (Int×Int)) (q:Int×Bool) (id:Int):mget inE (seenStep t m q) id=if id=q.1 then(match mget inE m id with |some u=>some u |none=>some t) else mget inE m id:=by
 unfold seenStep
 by_cases h:(mget inE m q.1).isSome=true
 ·rw[if_pos h]
  split
  ·rename_i e;subst e
   cases hg:mget inE m q.1 with
   |none=>rw[hg] at h;cases h
   |some u=>rfl
  ·rfl
 ·rw[if_neg h]
  split
  ·rename_i e;subst e
   rw[(mget_mset inE_eq _ _ _ _).1 rfl]
   cases hg:mget inE m q.1 with
   |none=>rfl
   |some u=>rw[hg] at h;exact absurd rfl h
  ·rename_i e
   rw[(mget_mset inE_eq _ _ _ _).2 e]
theorem seenFold_get (t:Int):∀(l:List (Int×Bool)) (m:List (Int×Int)) (id:Int),mget inE (l.foldl (seenStep t) m) id=if id∈l.map (·.1) then(match mget inE m id with |some u=>some u |none=>some t) else mget inE m id
 |[],m,id=>by simp
 |q::l,m,id=>by
  rw[List.foldl_cons,seenFold_get t l _ id,seenStep_get]
  by_cases h1:id=q.1
  ·simp only[h1,if_true,List.map_cons,List.mem_cons,true_or]
   cases mget inE m q.1 <;> simp
  ·simp[h1]
theorem seenFold_nd (t:Int):∀(l:List (Int×Bool)) (m:List (Int×Int)),(m.map (·.1)).Nodup→((l.foldl (seenStep t) m).map (·.1)).Nodup
 |[],m,h=>h
 |q::l,m,h=>by
  rw[List.foldl_cons]
  refine seenFold_nd t l _ ?_
  unfold seenStep
  split
  ·exact h
  ·exact mset_nodup inE_eq h _ _
structure SeenM (a0:zR) (all:List (Int×zO)) (n:Nat) (m:List (Int×Int)):Prop where
 nd:(m.map (·.1)).Nodup
 eq:∀id,mget inE m id=seenF a0 all n id
theorem seen_zero (a0:zR) (all:List (Int×zO)):SeenM a0 all 0 []:=⟨by simp,fun id=>rfl⟩
theorem seen_skip {a0:zR} {all:List (Int×zO)} {i:Nat} {e:zE} (he:a0.Events[i]? =some e) (hs:sameNext a0.Events i e.Time=true) {m:List (Int×Int)} (h:SeenM a0 all i m):SeenM a0 all (i+1) m:=⟨h.nd,fun id=>by
 rw[h.eq]
 simp only[seenF,he]
 rw[if_neg (fun q=>by rw[hs] at q;cases q.1)]
 cases seenF a0 all i id <;> rfl⟩
theorem seen_take {a0:zR} {all:List (Int×zO)} {i:Nat} {e:zE} (he:a0.Events[i]? =some e) (hs:sameNext a0.Events i e.Time=false) {m:List (Int×Int)} (h:SeenM a0 all i m) {rr l:List (Int×Bool)}
  (hr:RchM all (seedsAt a0 e.Time) rr) (hl:l.Perm rr):SeenM a0 all (i+1) (l.foldl (seenStep e.Time) m):=⟨seenFold_nd _ _ _ h.nd,fun id=>by
 have hm:id∈l.map (·.1)↔Rch all (seedsAt a0 e.Time) id:=(hl.map _).mem_iff.trans (hr.iff id)
 rw[seenFold_get,h.eq]
 simp only[seenF,he]
 by_cases h1:Rch all (seedsAt a0 e.Time) id
 ·rw[if_pos (hm.2 h1),if_pos ⟨hs,h1⟩]
 ·rw[if_neg (fun q=>h1 (hm.1 q)),if_neg (fun q=>h1 q.2)]
  cases seenF a0 all i id <;> rfl⟩
structure OkH (a0:zR) (all:List (Int×zO)):Prop where
 ev:a0.Events.length≤1000000
 nd:(all.map (·.1)).Nodup
 fit:∀q∈all,fitO q.2=true
 sz:wgt (fun _=>false) all≤100000000
theorem refStep_len (m:List (ByteArray×Int)) (e:zE):(refStep m e).length≤m.length+1:=by
 unfold refStep
 split
 ·unfold mset
  split
  ·simp
  ·simp
 ·have:=(mdel_sub (e:=stE) m e.Name).length_le
  omega
theorem refsF_len (t:Int):∀(l:List zE) (m:List (ByteArray×Int)),(refsF t m l).length≤m.length+l.length
 |[],m=>by simp[refsF]
 |e::l,m=>by
  simp only[refsF]
  split
  ·omega
  ·have h1:=refsF_len t l (refStep m e)
   have h2:=refStep_len m e
   simp only[List.length_cons]
   omega
theorem seedsAt_len (a0:zR) (t:Int):(seedsAt a0 t).length≤a0.Events.length:=by
 have:=refsF_len t a0.Events []
 unfold seedsAt
 simpa using this
theorem reachable_ok {a0:zR} {all:List (Int×zO)} (ok:OkH a0 all) (t:Int):
  FnOKr Tryz.prog 56 [.agg (zRa a0),.d (.mp (mTag 66 1 false true) 9 (rowsF (mRow (iRow .i64) zOr) all)),.d (.int .i64 t)] (RchM all (seedsAt a0 t)) (fun r=>.d (.mp (mTag 75 1 false false) 2 (rowsF (mRow (iRow .i64) bRow) r))) (fun _=>[]):=
 hYreachable_ok (refs_eq ok.ev t) (by have:=seedsAt_len a0 t;have:=ok.ev;unfold seedsAt at *;simp at *;omega) fun ss hss=>by
  have hl:=seedsAt_len a0 t
  have hev:=ok.ev
  refine reach_iter ⟨ok.nd,ok.fit,?_⟩ fun id=>hss.mem_iff
  have:=hss.length_eq
  have hz:=ok.sz
  unfold seedsAt at hl
  omega
theorem seen_ok {a0:zR} {all:List (Int×zO)} {sg:Bool} (hidx:hYindex a0=some (all,sg)) (ok:OkH a0 all):
  FnOKr Tryz.prog 48 [.agg (zRa a0)] (SeenM a0 all a0.Events.length) (fun r=>.d (.mp (mTag 80 1 false false) 2 (rowsF (mRow (iRow .i64) (iRow .i64)) r))) (fun _=>[]):=
 hYSeen_ok hidx ok.ev (fun t=>reachable_ok ok t) (seen_zero a0 all) (fun _ _ he hs _ h=>seen_skip he hs h) fun _ _ he hs _ h _ hr _ hl=>seen_take he hs h hr hl
end Go.Vl
namespace Go.Vl
open Go Go.Proofs
def sortI (l:List Int):List Int:=l.mergeSort fun x y=>decide (x≤y)
theorem sortI_perm {a b:List Int} (h:a.Perm b):sortI a=sortI b:=by
 unfold sortI
 refine List.Perm.eq_of_pairwise (le:=fun x y:Int=>x≤y) (fun x y _ _ h1 h2=>by omega) ?_ ?_ ((List.mergeSort_perm ..).trans (h.trans (List.mergeSort_perm ..).symm))
 ·refine List.Pairwise.imp (fun {a b} h=>?_) (List.pairwise_mergeSort (le:=fun x y:Int=>decide (x≤y)) (fun a b c h1 h2=>by simp at h1 h2 ⊢;omega) (fun a b=>by simp;omega) a)
  simpa using h
 ·refine List.Pairwise.imp (fun {a b} h=>?_) (List.pairwise_mergeSort (le:=fun x y:Int=>decide (x≤y)) (fun a b c h1 h2=>by simp at h1 h2 ⊢;omega) (fun a b=>by simp;omega) b)
  simpa using h
theorem sortI_ext {a b:List Int} (ha:a.Nodup) (hb:b.Nodup) (h:∀x,x∈a↔x∈b):sortI a=sortI b:=sortI_perm ((List.perm_ext_iff_of_nodup ha hb).2 h)
open Classical in
noncomputable def reachL (all:List (Int×zO)) (seeds:List Int):List Int:=if h:∃m,RchM all seeds m then sortI ((Classical.choose h).map (·.1)) else []
theorem reachL_eq {all:List (Int×zO)} {seeds:List Int} {m:List (Int×Bool)} (h:RchM all seeds m):sortI (m.map (·.1))=reachL all seeds:=by
 unfold reachL
 have hx:∃m,RchM all seeds m:=⟨m,h⟩
 rw[dif_pos hx]
 have h2:=Classical.choose_spec hx
 exact sortI_ext h.nd h2.nd fun x=>(h.iff x).trans (h2.iff x).symm
open Classical in
noncomputable def everL (a0:zR) (all:List (Int×zO)):List Int:=if h:∃m,SeenM a0 all a0.Events.length m then sortI ((Classical.choose h).map (·.1)) else []
theorem seen_key {a0:zR} {all:List (Int×zO)} {n:Nat} {m:List (Int×Int)} (h:SeenM a0 all n m) (x:Int):x∈m.map (·.1)↔(seenF a0 all n x).isSome=true:=by rw[← h.eq,mget_mem inE_eq]
theorem everL_eq {a0:zR} {all:List (Int×zO)} {m:List (Int×Int)} (h:SeenM a0 all a0.Events.length m):sortI (m.map (·.1))=everL a0 all:=by
 unfold everL
 have hx:∃m,SeenM a0 all a0.Events.length m:=⟨m,h⟩
 rw[dif_pos hx]
 have h2:=Classical.choose_spec hx
 exact sortI_ext h.nd h2.nd fun x=>(seen_key h x).trans (seen_key h2 x).symm
open Classical in
noncomputable def hYSince (a0:zR) (a1:Int):Option (Int×Bool):=
 (hYValid a0).bind fun v=>
 if(v != 0)=true then some (0,false) else
 (hYindex a0).bind fun p=>
 if OkH a0 p.1 then some ((seenF a0 p.1 a0.Events.length a1).getD 0,(seenF a0 p.1 a0.Events.length a1).isSome) else none
open Classical in
noncomputable def hYEver (a0:zR):Option (List Int):=
 (hYValid a0).bind fun v=>
 if(v != 0)=true then some [] else
 (hYindex a0).bind fun p=>
 if OkH a0 p.1∧(everL a0 p.1).length≤1000000 then some (everL a0 p.1) else none
open Classical in
noncomputable def hYReachable (a0:zR) (a1:Int):Option (List Int):=
 (hYValid a0).bind fun v=>
 if(v != 0)=true then some [] else
 (hYindex a0).bind fun p=>
 if OkH a0 p.1∧(reachL p.1 (seedsAt a0 a1)).length≤1000000 then some (reachL p.1 (seedsAt a0 a1)) else none
theorem sortI_len (l:List Int):(sortI l).length=l.length:=List.length_mergeSort _
theorem hYSince_ok {a0:zR} {a1:Int} {r:Int×Bool} (h0:hYSince a0 a1=some r):FnOK Tryz.prog 20 [] [.agg (zRa a0),.d (.int .i64 a1)] (.tup [.d (.int .i64 r.1),.d (.bool r.2)]) []:=by
 unfold hYSince at h0
 refine fn_ok (nt:=20) (rs:=[.tmp 4,.tmp 5]) Tryz.func20 rfl Tryz.ntmps20 rfl (by simp) (by decide) rfl fun K=>?_
 refine kr [1,2] (by simp;rfl) ?_
 refine trq ?_
 refine kc ?_
 refine ko [1,2,8] 1 (by simp;rfl) ?_
 replace h0:=bnd h0;obtain⟨v,hv,h0⟩:=h0
 refine kcall [1,2,9] [] (hYValid_ok hv) rfl rfl rfl Tryz.call7 (by simp) (by simp;rfl) ?_
 refine ko [1,2,10] 1 (by simp;rfl) ?_
 refine tpN ?_
 refine trc (b:=(v != 0)) (by simp) (fun c3=>?_) (fun c3=>?_)
 ·rw[if_pos c3] at h0
  refine kr [4,5] (by simp;rfl) ?_
  cases h0
  exact trr ⟨[],by simp,rfl,by simp⟩
 ·rw[if_neg (by rw[c3];decide)] at h0
  replace h0:=bnd h0;obtain⟨⟨all,sg⟩,hp,h0⟩:=h0
  dsimp only at h0
  split at h0
  ·rename_i ok
   refine trk ?_
   refine kc ?_
   refine ko [1,12] 1 (by simp;rfl) ?_
   refine kcallR [1,13] [] (seen_ok hp ok) rfl rfl rfl Tryz.call48 (by simp) (fun _=>rfl) (fun m=>by simp;rfl) fun m hm=>?_
   have e1:=hm.eq a1
   refine ko [6,7] 7 (by simp;rfl) ?_
   refine tpN ?_
   refine kr [4,5] (by simp;rfl) ?_
   rw[e1]
   cases h0
   exact trr ⟨[],by simp,rfl,by simp⟩
  ·cases h0
theorem hYEver_ok {a0:zR} {r:List Int} (h0:hYEver a0=some r):FnOK Tryz.prog 10 [] [.agg (zRa a0)] (.d (.slice (rowsF (iRow .i64) r))) []:=by
 unfold hYEver at h0
 refine fn_ok (nt:=10) (rs:=[.tmp 2]) Tryz.func10 rfl Tryz.ntmps10 rfl (by simp) (by decide) rfl fun K=>?_
 refine kr [1] (by simp;rfl) ?_
 refine trq ?_
 refine kc ?_
 refine ko [1,3] 1 (by simp;rfl) ?_
 replace h0:=bnd h0;obtain⟨v,hv,h0⟩:=h0
 refine kcall [1,4] [] (hYValid_ok hv) rfl rfl rfl Tryz.call7 (by simp) (by simp;rfl) ?_
 refine ko [1,5] 1 (by simp;rfl) ?_
 refine tpN ?_
 refine trc (b:=(v != 0)) (by simp) (fun c3=>?_) (fun c3=>?_)
 ·rw[if_pos c3] at h0
  refine kr [2] (by simp;rfl) ?_
  cases h0
  exact trr ⟨[],by simp,rfl,by simp⟩
 ·rw[if_neg (by rw[c3];decide)] at h0
  replace h0:=bnd h0;obtain⟨⟨all,sg⟩,hp,h0⟩:=h0
  dsimp only at h0
  split at h0
  ·rename_i ok
   refine trk ?_
   refine kc ?_
   refine ko [1,6] 1 (by simp;rfl) ?_
   refine kcallR [1,7] [] (seen_ok hp ok.1) rfl rfl rfl Tryz.call48 (by simp) (fun _=>rfl) (fun m=>by simp;rfl) fun m hm=>?_
   have e1:sortI (m.map (·.1))=everL a0 all:=everL_eq hm
   have hml:m.length≤1000000:=by have:=ok.2;rw[← e1,sortI_len,List.length_map] at this;exact this
   refine kcall [8] [] (pYKeysA_ok (e:=mTag 80 1 false false) (z:=2) (rows:=rowsF (mRow (iRow .i64) (iRow .i64)) m)) rfl rfl rfl Tryz.call47 (by simp) (by simp;rfl) ?_
   refine kcall [9] [] (sYSortedA_ok hml) rfl rfl rfl Tryz.call46 (by simp) (by simp;rfl) ?_
   refine ko [2] 1 (by simp;rfl) ?_
   refine tpN ?_
   cases h0
   rw[← e1];unfold sortI
   exact trr ⟨[],by simp,rfl,by simp⟩
  ·cases h0
theorem hYReachable_ok {a0:zR} {a1:Int} {r:List Int} (h0:hYReachable a0 a1=some r):FnOK Tryz.prog 16 [] [.agg (zRa a0),.d (.int .i64 a1)] (.d (.slice (rowsF (iRow .i64) r))) []:=by
 unfold hYReachable at h0
 refine fn_ok (nt:=21) (rs:=[.tmp 4]) Tryz.func16 rfl Tryz.ntmps16 rfl (by simp) (by decide) rfl fun K=>?_
 refine kr [1,2] (by simp;rfl) ?_
 refine trq ?_
 refine kc ?_
 refine ko [1,2,7] 1 (by simp;rfl) ?_
 replace h0:=bnd h0;obtain⟨v,hv,h0⟩:=h0
 refine kcall [1,2,8] [] (hYValid_ok hv) rfl rfl rfl Tryz.call7 (by simp) (by simp;rfl) ?_
 refine ko [1,2,9] 1 (by simp;rfl) ?_
 refine tpN ?_
 refine trc (b:=(v != 0)) (by simp) (fun c3=>?_) (fun c3=>?_)
 ·rw[if_pos c3] at h0
  refine kr [4] (by simp;rfl) ?_
  cases h0
  exact trr ⟨[],by simp,rfl,by simp⟩
 ·rw[if_neg (by rw[c3];decide)] at h0
  replace h0:=bnd h0;obtain⟨⟨all,sg⟩,hp,h0⟩:=h0
  dsimp only at h0
  split at h0
  ·rename_i ok
   refine trk ?_
   refine kc ?_
   refine ko [1,2,11] 1 (by simp;rfl) ?_
   refine kcall [1,2,12] [] (hYindex_ok hp) rfl rfl rfl Tryz.call34 (by simp) (by simp;rfl) ?_
   refine ko [1,2,5] 5 (by simp;rfl) ?_
   refine tpN ?_
   refine kc ?_
   refine ko [15,16,17] 3 (by simp;rfl) ?_
   refine kcallR [18] [] (reachable_ok ok.1 a1) rfl rfl rfl Tryz.call56 (by simp) (fun _=>rfl) (fun m=>by simp;rfl) fun m hm=>?_
   have e1:sortI (m.map (·.1))=reachL all (seedsAt a0 a1):=reachL_eq hm
   have hml:m.length≤1000000:=by have:=ok.2;rw[← e1,sortI_len,List.length_map] at this;exact this
   refine kcall [19] [] (pYKeysB_ok (e:=mTag 75 1 false false) (z:=2) (rows:=rowsF (mRow (iRow .i64) bRow) m)) rfl rfl rfl Tryz.call55 (by simp) (by simp;rfl) ?_
   refine kcall [20] [] (sYSortedB_ok hml) rfl rfl rfl Tryz.call46 (by simp) (by simp;rfl) ?_
   refine ko [4] 1 (by simp;rfl) ?_
   refine tpN ?_
   cases h0
   rw[← e1];unfold sortI
   exact trr ⟨[],by simp,rfl,by simp⟩
  ·cases h0
end Go.Vl
