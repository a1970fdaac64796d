/- slices.Clone at links, of no elements too: its contract, the result an owned row. Conditions: none. -/
import Derived.Test.YthpiljonjcfgcaaDoorK0x
import Derived.Test.YthpiljonjcfgcaaDoorVmSl
import Derived.Test.YthpiljonjcfgcaaDoorVmQu
import Derived.Test.YthpiljonjcfgcaaDoorVmQq
import Derived.Test.YthpiljonjcfgcaaDoorVmQi
import Derived.Test.YthpiljonjcfgcaaDoorKg1
import Derived.Test.YthpiljonjcfgcaaDoorKAx
set_option maxHeartbeats 8000000
set_option linter.unusedSimpArgs false
set_option linter.unusedVariables false
namespace Go.Vl
open Go Go.Proofs
noncomputable def clone_link (a0:List api_Link):Option (List api_Link):=(ck (a0.length≤268435456)).bind fun _=>some a0
theorem clone_link_ok {a0 r:List api_Link} (h0:clone_link a0=some r):FnOKv Tryd.prog 37 [] [] [.d (.slice (rowsF api_Link_row a0))] (.vec (InV 0)) [] [⟨79,4,rowsF api_Link_row r⟩]:=by
 unfold clone_link at h0
 replace h0:=bnd h0;obtain⟨_,p1,h0⟩:=h0;replace p1:=ck_some p1;cases h0
 refine fn_okv (nt:=8) (rs:=[.tmp 2]) Tryd.func37 rfl Tryd.ntmps37 rfl (by simp) (by decide) rfl fun K=>?_
 refine kr [0,2] (by simp;rfl) ?_
 cases a0 with
 |nil=>
  refine trq ?_
  refine kc ?_
  refine ko [0,3] 1 (by simp;rfl) ?_
  refine tops_isnil (by simp) rfl rfl (by simp) Tryd.underlying41 (by simp) (by simp) fun b=>?_
  refine tpN ?_
  refine trc (b:=b) (by simp) (fun cb=>?_) (fun cb=>?_)
  ·refine kr [2] (by simp;rfl) ?_
   refine tr_wk (wk_own 2 600002 79 4 (by simp) (by simp)) ?_
   exact trr ⟨[],[600002],by simp,by simp,by simp,by simp,by simp⟩
  ·refine trk ?_
   refine kr [2] (by simp;rfl) ?_
   exact trr ⟨[],[7],by simp,by simp,by simp,by simp,by simp⟩
 |cons x l=>
  refine trq ?_
  refine kr [0,4] (by simp;rfl) ?_
  refine trc (b:=false) (by simp) (fun h=>by cases h) (fun _=>?_)
  refine trk ?_
  have p2:=p1;simp at p2
  refine kr [2] (by simp[p1,p2];rfl) ?_
  exact trr ⟨[],[7],by simp,by simp,by simp,by simp,by simp⟩
end Go.Vl
namespace Go.Vl
open Go Go.Proofs
theorem lookR_76 {ok:Bool} {x:Int} {l:List (Int×List api_Link)}:lookR Tryd.prog 41 false ok ((mfind inE x l).map fun q=>(q.1,[D.slice (rowsF api_Link_row q.2)]))=some (if ok=true then .tup [(.d (.slice (rowsF api_Link_row ((mget inE l x).getD []))):AV),.d (.bool (mget inE l x).isSome)] else(.d (.slice (rowsF api_Link_row ((mget inE l x).getD []))):AV)):=by
 have:=lookR_F (P:=Tryd.prog) (et:=41) (va:=false) (ok:=ok) (g:=slRow api_Link_row) (av:=fun v:List api_Link=>(.d (.slice (rowsF api_Link_row v)):AV)) (z:=[]) (fun v=>by simp[packMA]) (by kernel_rfl) (e:=inE) (x:=x) (l:=l)
 simpa using this
theorem setR_76 {x:Int} {v:List api_Link} {l:List (Int×List api_Link)}:setR (rowsF (mRow (iRow .i64) (slRow api_Link_row)) l) [.int .i64 x,.slice (rowsF api_Link_row v)] ((mfind inE x l).map fun q=>(q.1,[D.slice (rowsF api_Link_row q.2)]))=rowsF (mRow (iRow .i64) (slRow api_Link_row)) (mset inE l x v):=setR_F (by simp) (fun _=>rfl)
noncomputable def rights_chains_l1 (x:api_Rights) (k:Nat) (q:Int) (ls:List api_Link) (s:Int×List (Int×List api_Link)×List Int):Option (Lp (Int×List (Int×List api_Link)×List Int) (List (Int×List api_Link)×List Int)):=
 if(decide (s.1 < ((ls).length:Int)))=true then
  (idx ls s.1).bind fun l=>
  (rights_follow x q l).bind fun to=>
  if(!(mget inE s.2.1 to.1).isSome)=true then
   (clone_link ((mget inE s.2.1 q).getD [])).bind fun cl=>
   (ck (cl.length+1≤268435456)).bind fun _=>
   (ck (k+s.2.2.length+1≤268435456)).bind fun _=>
   some (.go (IntKind.i64.wrap (s.1+1),mset inE s.2.1 to.1 (cl++[l]),s.2.2++[to.1]))
  else
   some (.go (IntKind.i64.wrap (s.1+1),s.2.1,s.2.2))
 else
  some (.out (s.2.1,s.2.2))
noncomputable def rights_chains_l0 (x:api_Rights) (s:Nat×List (Int×List api_Link)×List Int):Option (Lp (Nat×List (Int×List api_Link)×List Int) (List (Int×List api_Link))):=
 match s.2.2 with
 |[]=>some (.out s.2.1)
 |q::_=>
  (rights_links x q).bind fun ls=>
  (iter (rights_chains_l1 x s.1 q ls) (0,s.2.1,s.2.2)).bind fun r=>
  (ck (0 < r.2.length)).bind fun _=>
  some (.go (s.1+1,r.1,r.2.drop 1))
noncomputable def rights_chains (a0:api_Rights) (a1:Int):Option (List (Int×List api_Link)):=
 iter (rights_chains_l0 a0) (0,[(a1,[])],[a1])
theorem rights_chains_ok {a0:api_Rights} {a1:Int} {r:List (Int×List api_Link)} (h0:rights_chains a0 a1=some r):FnOK Tryd.prog 23 [] [.agg (api_Rights_av a0),.d (.int .i64 a1)] (.d (.mp (mTag 76 1 false false) 2 (rowsF (mRow (iRow .i64) (slRow api_Link_row)) r))) []:=by
 unfold rights_chains at h0
 refine fn_okK (nt:=67) (rs:=[.tmp 4]) Tryd.func23 rfl Tryd.ntmps23 rfl (by simp) (by decide) rfl fun K hK=>?_
 refine kr [1,2] (by simp;rfl) ?_
 refine tr_frzB 2 [.d (.int .i64 a0.Credentials),.d (.int .i64 a0.Resources),.d (.slice (rowsF api_Grant_row a0.Grants)),.d (.slice (rowsF api_Store_row a0.Stores)),.d (.slice (rowsF api_Mint_row a0.Mints))] (api_Rights_row a0) (by simp) (by simp) hK (by decide) (fun i hi=>absurd hi (Nat.not_lt_zero i)) ?_
 refine kr [1,2,5] (by simp[setR_76,lookR_76];rfl) ?_
 refine trq ?_
 refine kr [2,5,6] (by simp;rfl) ?_
 refine tr_wk (wk_tocut 6 17 (S:=⟨3,1,[[.int .i64 a1]]⟩) (by simp[St.look,get]) (by simp[get])) ?_
 refine tjv (fun v:List (Int×List api_Link)=>({ nt:=67,env:=[(5,.vec 13)],box:=[],vec:=[(13,⟨mTag 76 1 false false,2,rowsF (mRow (iRow .i64) (slRow api_Link_row)) v⟩)]}:St)) (fun v=>v=r) (fun v hv _ W1=>?_) ?_
 ·subst hv
  refine tr_wk W1 ?_
  refine tr_frz 13 ?_
  refine kr [4] (by simp;rfl) ?_
  exact trr ⟨[],by simp,rfl,by simp⟩
 refine trb (tr_iterX (fun (pre:List Int) (s:Nat×List (Int×List api_Link)×List Int)=>({ nt:=67,env:=[(2,.cptr (api_Rights_row a0) 0),(5,.vec 13),(6,.cut 17 1 pre.length s.2.2.length)],box:=[],vec:=[(13,⟨mTag 76 1 false false,2,rowsF (mRow (iRow .i64) (slRow api_Link_row)) s.2.1⟩),(17,⟨3,1,rowsF (iRow .i64) (pre++s.2.2)⟩)]}:St)) (fun pre s=>pre.length≤s.1) (g0:=[]) (by simp) h0 (wk (by simp[wkI,mRow,rowsF])) fun G1 pre s o hi h1 hg1 he1=>?_)
 unfold rights_chains_l0 at h1
 refine trq ?_
 obtain⟨k,m,queue⟩:=s
 dsimp only at h1 hi ⊢
 refine kr [2,5,6,20] (by simp;rfl) ?_
 cases queue with
 |nil=>
  refine trc (b:=false) (by simp) (fun c=>by cases c) (fun _=>?_)
  refine tr_exit ?_
  exact⟨_,(he1 _ (Option.some.inj h1)),wk (by simp[wkI])⟩
 |cons q rest=>
  dsimp only at h1
  refine trc (b:=true) (by simp) (fun _=>?_) (fun c=>by cases c)
  refine trk ?_
  obtain⟨ls,p3,h1⟩:=bnd h1
  obtain⟨e2,hI2,h1⟩:=bnd h1
  obtain⟨_,p4,h1⟩:=bnd h1
  replace p4:=ck_some p4
  refine trq ?_
  refine trb ?_
  have hq:(pre++q::rest)[pre.length]? =some q:=by simp
  refine kheld (S0:=({ nt:=67,env:=[(2,.cptr (api_Rights_row a0) 0),(5,.vec 13),(6,.cut 17 1 pre.length (rest.length+1)),(27,.d (.slice (rowsF api_Link_row ls))),(28,.d (.int .i64 (ls.length:Int))),(29,.d (.int .i64 0))],box:=[],vec:=[(13,⟨mTag 76 1 false false,2,rowsF (mRow (iRow .i64) (slRow api_Link_row)) m⟩),(17,⟨3,1,rowsF (iRow .i64) (pre++q::rest)⟩)]}:St)) [0,1,6] 4 (by simpa using hK) fol (by decide +kernel) rfl rfl rfl (by simp[stillsL,stillB,pureP,pureB];rfl) (fun K' S F C=>?_) ?_
  ·refine ho_pure C 2 rfl (by decide +kernel) (by decide +kernel) (by simp[pureP,pureB]) (by simp;rfl) ?_
   refine ho_allT C [3] (by decide +kernel) (by decide) ?_
   refine hallT_cons rfl (sl (by simp[hq];rfl) ?_) trivial
   refine ho_allT C [4] (by decide +kernel) (by decide) ?_
   refine hallT_cons rfl (kcall [2,5,6,27,29] [] (rights_links_ok p3) rfl rfl rfl Tryd.call31 (by simp) (by simp;rfl) (tpN ?_)) trivial
   refine ho_allT C [5] (by decide +kernel) (by decide) ?_
   refine hallT_cons rfl (sl (by simp;rfl) ?_) trivial
   exact ho_end C (by decide +kernel) ⟨rfl,wkI.2 (by simp)⟩
  refine tjv (fun v:List Int×List (Int×List api_Link)×List Int=>({ nt:=67,env:=[(2,.cptr (api_Rights_row a0) 0),(5,.vec 13),(6,.cut 17 1 v.1.length v.2.2.length)],box:=[],vec:=[(13,⟨mTag 76 1 false false,2,rowsF (mRow (iRow .i64) (slRow api_Link_row)) v.2.1⟩),(17,⟨3,1,rowsF (iRow .i64) (v.1++v.2.2)⟩)]}:St)) (fun v=>v.2=e2∧v.1.length≤k) (fun v hv _ W1=>?_) ?_
  ·obtain⟨pre',m',queue'⟩:=v
   obtain⟨rfl,hle⟩:=hv
   dsimp only at hle h1 p4 W1 ⊢
   refine tr_wk W1 ?_
   cases queue' with
   |nil=>simp at p4
   |cons q' rest'=>
    have q1:(1:Int)≤(rest'.length:Int)+1:=by omega
    refine lr (by simp[q1];rfl) ?_
    exact⟨pre'++[q'],_,hg1 _ (Option.some.inj h1),by simp;omega,wk (by simp[wkI])⟩
  ·refine trb (tr_iterX (fun (pre:List Int) (s:Int×List (Int×List api_Link)×List Int)=>({ nt:=67,env:=[(2,.cptr (api_Rights_row a0) 0),(5,.vec 13),(6,.cut 17 1 pre.length s.2.2.length),(27,.d (.slice (rowsF api_Link_row ls))),(28,.d (.int .i64 (ls.length:Int))),(29,.d (.int .i64 s.1))],box:=[],vec:=[(13,⟨mTag 76 1 false false,2,rowsF (mRow (iRow .i64) (slRow api_Link_row)) s.2.1⟩),(17,⟨3,1,rowsF (iRow .i64) (pre++s.2.2)⟩)]}:St)) (fun pre s=>pre.length≤k∧∃rest,s.2.2=q::rest) (g0:=pre) ⟨hi,rest,rfl⟩ hI2 (wk (by simp[wkI])) fun G2 pre2 s2 o2 hi2 h2 hg2 he2=>?_)
   unfold rights_chains_l1 at h2
   obtain⟨i2,m2,queue2⟩:=s2
   dsimp only at h2 hi2 ⊢
   obtain⟨hi2,rest2,rfl⟩:=hi2
   refine kr [2,5,6,27,28,29,30] (by simp;rfl) ?_
   refine trq ?_
   refine trc (b:=(decide (i2 < (ls.length:Int)))) (by simp) (fun c5=>?_) (fun c5=>?_)
   ·rw[if_pos c5] at h2
    refine trk ?_
    refine trq ?_
    refine trb ?_
    obtain⟨l,p5,h2⟩:=bnd h2
    replace p5:=idx_some p5
    have p5':=p5;try simp at p5'
    obtain⟨to_,p6,h2⟩:=bnd h2
    have hq2:(pre2++q::rest2)[pre2.length]? =some q:=by simp
    refine kr [2,5,6,8,27,28,29] (by simp[p5,p5'];rfl) ?_
    refine tr_frzB 8 (api_Link_av l) (api_Link_row l) (by simp) (by simp) hK (by decide) (fun i hi=>absurd hi (Nat.not_lt_zero i)) ?_
    refine kheld (S0:=({ nt:=67,env:=[(2,.cptr (api_Rights_row a0) 0),(5,.vec 13),(6,.cut 17 1 pre2.length (q::rest2).length),(27,.d (.slice (rowsF api_Link_row ls))),(28,.d (.int .i64 (ls.length:Int))),(29,.d (.int .i64 i2)),(9,.d (.int .i64 to_.1)),(10,.d (.bool to_.2)),(8,.cptr (api_Link_row l) 0)],box:=[],vec:=[(13,⟨mTag 76 1 false false,2,rowsF (mRow (iRow .i64) (slRow api_Link_row)) m2⟩),(17,⟨3,1,rowsF (iRow .i64) (pre2++(q::rest2))⟩)]}:St)) [0,1,4] 8 (by simpa using hK) fol (by decide +kernel) rfl rfl rfl (by simp[stillsL,stillB,pureP,pureB];rfl) (fun K' S F C=>?_) ?_
    ·refine ho_pure C 2 rfl (by decide +kernel) (by decide +kernel) (by simp[pureP,pureB]) (by simp;rfl) ?_
     refine ho_allT C [3] (by decide +kernel) (by decide) ?_
     refine hallT_cons rfl (sl (by simp[hq2];rfl) ?_) trivial
     refine ho_allT C [5] (by decide +kernel) (by decide) ?_
     refine hallT_cons rfl (kcall [2,5,6,8,27,28,29,39] [] (rights_follow_ok p6) rfl rfl rfl Tryd.call27 (by simp) (by simp;rfl) (tpN ?_)) trivial
     refine ho_pure C 6 rfl (by decide +kernel) (by decide +kernel) (by simp[pureP,pureB]) (by simp;rfl) ?_
     refine ho_allT C [7,8] (by decide +kernel) (by decide) ?_
     refine hallT_cons rfl (sl (by simp;rfl) ?_) (hallT_cons rfl (sl (by simp;rfl) ?_) trivial)
     ·refine ho_pure C 9 rfl (by decide +kernel) (by decide +kernel) (by simp[pureP,pureB]) (by simp;rfl) ?_
      refine ho_allT C [8] (by decide +kernel) (by decide) ?_
      refine hallT_cons rfl (sl (by simp;rfl) ?_) trivial
      refine ho_pure C 10 rfl (by decide +kernel) (by decide +kernel) (by simp[pureP,pureB]) (by simp;rfl) ?_
      exact ho_end C (by decide +kernel) ⟨rfl,wkI.2 (by simp)⟩
     ·refine ho_allT C [7] (by decide +kernel) (by decide) ?_
      refine hallT_cons rfl (sl (by simp;rfl) ?_) trivial
      refine ho_pure C 9 rfl (by decide +kernel) (by decide +kernel) (by simp[pureP,pureB]) (by simp;rfl) ?_
      refine ho_pure C 10 rfl (by decide +kernel) (by decide +kernel) (by simp[pureP,pureB]) (by simp;rfl) ?_
      exact ho_end C (by decide +kernel) ⟨rfl,wkI.2 (by simp)⟩
    refine kr [2,5,6,8,9,12,27,28,29] (by simp[lookR_76];rfl) ?_
    refine kr [2,5,6,8,9,27,28,29,49] (by simp;rfl) ?_
    refine trc (b:=(!(mget inE m2 to_.1).isSome)) (by simp) (fun c8=>?_) (fun c8=>?_)
    ·rw[if_pos c8] at h2
     obtain⟨cl,p7,h2⟩:=bnd h2
     obtain⟨_,p8,h2⟩:=bnd h2
     replace p8:=ck_some p8
     have p8':=p8;try simp at p8'
     obtain⟨_,p9,h2⟩:=bnd h2
     replace p9:=ck_some p9
     have e76:=setR_76 (x:=to_.1) (v:=cl++[l]) (l:=m2)
     try simp at e76
     refine kheld (S0:=({ nt:=67,env:=[(2,.cptr (api_Rights_row a0) 0),(5,.vec 13),(6,.cut 17 1 pre2.length (q::rest2).length),(9,.d (.int .i64 to_.1)),(27,.d (.slice (rowsF api_Link_row ls))),(28,.d (.int .i64 (ls.length:Int))),(29,.d (.int .i64 i2))],box:=[],vec:=[(13,⟨mTag 76 1 false false,2,rowsF (mRow (iRow .i64) (slRow api_Link_row)) (mset inE m2 to_.1 (cl++[l]))⟩),(17,⟨3,1,rowsF (iRow .i64) (pre2++q::rest2)⟩)]}:St)) [0,1,2,3,8] 7 (by simpa using hK) fol (by decide +kernel) rfl rfl rfl (by simp[stillsL,stillB,pureP,pureB];rfl) (fun K' S F C=>?_) ?_
     ·refine ho_pure C 4 rfl (by decide +kernel) (by decide +kernel) (by simp[pureP,pureB]) (by simp;rfl) ?_
      refine ho_allT C [5,9] (by decide +kernel) (by decide) ?_
      refine hallT_cons rfl (sl (by simp[hq2];rfl) ?_) (hallT_cons rfl (sl (by simp;rfl) ?_) trivial)
      ·refine ho_allT C [6,9] (by decide +kernel) (by decide) ?_
       refine hallT_cons rfl (sl (by simp[lookR_76];rfl) ?_) (hallT_cons rfl (sl (by simp;rfl) ?_) trivial)
       ·refine ho_allT C [7,9] (by decide +kernel) (by decide) ?_
        refine hallT_cons rfl (kcallV [2,5,6,9,27,28,29,50,51,57,58] [] [] [700057] (clone_link_ok p7) rfl rfl rfl Tryd.call37 (by simp) (by simp;rfl) (tpN ?_)) (hallT_cons rfl (sl (by simp;rfl) ?_) trivial)
        ·refine ho_allT C [9] (by decide +kernel) (by decide) ?_
         refine hallT_cons rfl (sl (by simp;rfl) ?_) trivial
         refine ho_allT C [10] (by decide +kernel) (by decide) ?_
         refine hallT_cons rfl (sl (by simp[p8,p8'];rfl) (ho_frz 60 ?_)) trivial
         refine ho_allT C [11] (by decide +kernel) (by decide) ?_
         refine hallT_cons rfl (sl (by simp[setR_76];rfl) ?_) trivial
         exact ho_end C (by decide +kernel) ⟨rfl,wkI.2 (by simp[e76])⟩
        ·refine ho_allT C [7] (by decide +kernel) (by decide) ?_
         refine hallT_cons rfl (kcallV [2,5,6,9,27,28,29,50,51,57,59] [] [] [700057] (clone_link_ok p7) rfl rfl rfl Tryd.call37 (by simp) (by simp;rfl) (tpN ?_)) trivial
         refine ho_allT C [10] (by decide +kernel) (by decide) ?_
         refine hallT_cons rfl (sl (by simp[p8,p8'];rfl) (ho_frz 60 ?_)) trivial
         refine ho_allT C [11] (by decide +kernel) (by decide) ?_
         refine hallT_cons rfl (sl (by simp[setR_76];rfl) ?_) trivial
         exact ho_end C (by decide +kernel) ⟨rfl,wkI.2 (by simp[e76])⟩
       ·refine ho_allT C [6] (by decide +kernel) (by decide) ?_
        refine hallT_cons rfl (sl (by simp[lookR_76];rfl) ?_) trivial
        refine ho_allT C [7] (by decide +kernel) (by decide) ?_
        refine hallT_cons rfl (kcallV [2,5,6,9,27,28,29,50,51,57,59] [] [] [700057] (clone_link_ok p7) rfl rfl rfl Tryd.call37 (by simp) (by simp;rfl) (tpN ?_)) trivial
        refine ho_allT C [10] (by decide +kernel) (by decide) ?_
        refine hallT_cons rfl (sl (by simp[p8,p8'];rfl) (ho_frz 60 ?_)) trivial
        refine ho_allT C [11] (by decide +kernel) (by decide) ?_
        refine hallT_cons rfl (sl (by simp[setR_76];rfl) ?_) trivial
        exact ho_end C (by decide +kernel) ⟨rfl,wkI.2 (by simp[e76])⟩
      ·refine ho_allT C [5] (by decide +kernel) (by decide) ?_
       refine hallT_cons rfl (sl (by simp[hq2];rfl) ?_) trivial
       refine ho_allT C [6] (by decide +kernel) (by decide) ?_
       refine hallT_cons rfl (sl (by simp[lookR_76];rfl) ?_) trivial
       refine ho_allT C [7] (by decide +kernel) (by decide) ?_
       refine hallT_cons rfl (kcallV [2,5,6,9,27,28,29,50,51,57,59] [] [] [700057] (clone_link_ok p7) rfl rfl rfl Tryd.call37 (by simp) (by simp;rfl) (tpN ?_)) trivial
       refine ho_allT C [10] (by decide +kernel) (by decide) ?_
       refine hallT_cons rfl (sl (by simp[p8,p8'];rfl) (ho_frz 60 ?_)) trivial
       refine ho_allT C [11] (by decide +kernel) (by decide) ?_
       refine hallT_cons rfl (sl (by simp[setR_76];rfl) ?_) trivial
       exact ho_end C (by decide +kernel) ⟨rfl,wkI.2 (by simp[e76])⟩
     refine kc1 ?_
     refine ko [2,5,27,28,29,61,63] 3 (by simp;rfl) ?_
     refine tops_appq (x:=.tmp 61) (y:=.tmp 63) (t:=22) (e:=3) (d:=64) (n:=17) (z:=1) (lo:=pre2.length) (k:=rest2.length+1) (s:=⟨3,1,rowsF (iRow .i64) (pre2++q::rest2)⟩) (zs:=[.d (.int .i64 0)]) (ys:=[[.int .i64 to_.1]])
      (by simp) rfl rfl (by simp) (by simp[get]) (by simp[get]) rfl rfl rfl Tryd.underlying22 (by kernel_rfl) (by decide) (by kernel_rfl) (by decide) (by simp) (by simp) (by simp) (by simp) (by omega) (by simp at p9 ⊢;omega) ?_ ?_
     ·refine ko [2,5,6,27,28,29] 1 (by simp (maxSteps:=1000000) [St.appQ];rfl) ?_
      refine tpN ?_
      refine lr (by simp;rfl) ?_
      exact⟨pre2,_,hg2 _ (Option.some.inj h2),⟨hi2,rest2++[to_.1],rfl⟩,wk (by simp[wkI])⟩
     ·refine ko [2,5,6,27,28,29] 1 (by simp (maxSteps:=1000000) [St.appQ];rfl) ?_
      refine tpN ?_
      refine lr (by simp;rfl) ?_
      exact⟨[],_,hg2 _ (Option.some.inj h2),⟨by simp,rest2++[to_.1],rfl⟩,wk (by simp[wkI])⟩
    ·rw[if_neg (by rw[c8];decide)] at h2
     refine trk ?_
     refine lr (by simp;rfl) ?_
     exact⟨pre2,_,hg2 _ (Option.some.inj h2),⟨hi2,rest2,rfl⟩,wk (by simp[wkI])⟩
   ·rw[if_neg (by rw[c5];decide)] at h2
    refine tr_exit ?_
    exact⟨(pre2,m2,q::rest2),⟨he2 _ (Option.some.inj h2),hi2⟩,wk (by simp[wkI])⟩
end Go.Vl
namespace Go.Vl
open Go Go.Proofs
noncomputable def rights_Reach (a0:api_Rights) (a1:Int):Option (List Int):=
 (rights_Check a0).bind fun y1=>
 if(y1 != 0)=true then some [] else
 (rights_credential a0 a1).bind fun y2=>
 if(!y2)=true then some [] else
 (rights_chains a0 a1).bind fun m=>
 (ck (m.length≤1000000)).bind fun _=>
 some (sortI (m.map (·.1)))
theorem rights_Reach_ok {a0:api_Rights} {a1:Int} {r:List Int} (h0:rights_Reach a0 a1=some r):FnOK Tryd.prog 21 [] [.agg (api_Rights_av a0),.d (.int .i64 a1)] (.d (.slice (rowsF (iRow .i64) r))) []:=by
 unfold rights_Reach at h0
 refine fn_okK (nt:=31) (rs:=[.tmp 4]) Tryd.func21 rfl Tryd.ntmps21 rfl (by simp) (by decide) rfl fun K hK=>?_
 refine kr [1,2] (by simp;rfl) ?_
 refine trq ?_
 refine kc ?_
 refine ko [1,2,7] 1 (by simp;rfl) ?_
 replace h0:=bnd h0;obtain⟨y1,hy1,h0⟩:=h0
 refine kcall [1,2,8] [] (rights_Check_ok hy1) rfl rfl rfl Tryd.call24 (by simp) (by simp;rfl) ?_
 refine ko [1,2,10] 2 (by simp;rfl) ?_
 refine tops_split 10 (y1 != 0) (by simp) (fun c3=>?_) (fun c3=>?_)
 ·rw[if_pos c3] at h0
  refine kskip 4 [] (by kernel_rfl) ?_
  refine ko [1,2,15] 1 (by simp[c3];rfl) ?_
  refine tpN ?_
  refine trc (b:=true) (by simp) (fun _=>?_) (fun c=>by cases c)
  refine kr [4] (by simp;rfl) ?_
  cases h0
  exact trr ⟨[],by simp,rfl,by simp⟩
 rw[if_neg (by rw[c3];decide)] at h0
 replace h0:=bnd h0;obtain⟨y2,hy2,h0⟩:=h0
 refine ko [1,2,10,11,12] 2 (by simp[c3];rfl) ?_
 refine kcall [1,2,10,13] [] (rights_credential_ok hy2) rfl rfl rfl Tryd.call25 (by simp) (by simp;rfl) ?_
 refine ko [1,2,15] 2 (by simp[c3];rfl) ?_
 refine tpN ?_
 refine trc (b:=(!y2)) (by simp) (fun c4=>?_) (fun c4=>?_)
 ·rw[if_pos c4] at h0
  refine kr [4] (by simp;rfl) ?_
  cases h0
  exact trr ⟨[],by simp,rfl,by simp⟩
 ·rw[if_neg (by rw[c4];decide)] at h0
  replace h0:=bnd h0;obtain⟨m,hm,h0⟩:=h0
  obtain⟨_,hml,h0⟩:=bnd h0
  replace hml:=ck_some hml
  refine trk ?_
  refine kr [1,2,5] (by simp;rfl) ?_
  refine sjv (fun v:List Int=>({ nt:=31,env:=[(5,.vec 27)],box:=[],vec:=[(27,⟨3,1,rowsF (iRow .i64) v⟩)]}:St)) (fun v=>v.length≤1000000∧sortI v=r) (fun v hv=>?_) ?_
  ·have hy:sYSort_int_vec0 v=some r:=by
    unfold sYSort_int_vec0
    rw[ck_t (by have:=hv.1;omega),←hv.2];rfl
   refine kc ?_
   refine ko [5,28] 1 (by simp;rfl) ?_
   refine kcallH [5] [] [27] [(5,27),(28,27)] (sYSort_int_vec0_ok hy) rfl rfl rfl Tryd.call36 (by simp) (by simp;rfl) ?_
   refine tpN ?_
   refine tr_frz 27 ?_
   refine kr [4] (by simp;rfl) ?_
   exact trr ⟨[],by simp,rfl,by simp⟩
  ·refine tr_own 5 27 3 1 (by simp) (by simp) ?_
   refine kc_rangeT 3 rfl rfl rfl rfl Tryd.underlying76 ?_
   refine ko [5,16,17] 2 (by simp;rfl) ?_
   refine kcall [5,18] [] (rights_chains_ok hm) rfl rfl rfl Tryd.call23 (by simp) (by simp;rfl) ?_
   refine tpN ⟨mTag 76 1 false false,2,rowsF (mRow (iRow .i64) (slRow api_Link_row)) m,by simp,by simp,fun rr=>?_⟩
   refine tri_block ?_
   refine tr_range (row:=mRow (iRow .i64) (slRow api_Link_row)) (left0:=m) (kA:=fun q=>.d (.int .i64 q.1)) (vA:=fun q=>.d (.slice (rowsF api_Link_row q.2))) (S:=fun s:List Int=>({ nt:=31,env:=[(5,.vec 27),(19,.iter rr)],box:=[],vec:=[(27,⟨3,1,rowsF (iRow .i64) s⟩)]}:St))
    (body:=fun (s:List Int) (q:Int×List api_Link)=>(ck (s.length+1≤268435456)).bind fun _=>some (Lp.go (ε:=List Int) (s++[q.1]))) (fin:=fun s=>s) (s0:=[]) (Φ:=fun v=>v.length≤1000000∧sortI v=r)
    (List.eq_nil_of_length_eq_zero (by simpa using hK)) ⟨rfl,rfl,rfl⟩ rfl rfl rfl rfl rfl rfl (by decide) (fun s=>by simp) (fun s=>by simp) (fun q=>?_) (fun q=>?_) (fun l hl=>?_) ?_ ?_ ?_
   ·simp[packMA,tag_ka,tag_kz,mRow]
   ·simp[packMA,tag_va,tag_kz,mRow]
   ·refine⟨_,keys_fold 268435456 l [] (by rw[hl.length_eq];simp;omega),?_,?_⟩
    ·simp only[List.nil_append,List.length_map];rw[hl.length_eq];exact hml
    ·simp only[List.nil_append];rw[← Option.some.inj h0];exact sortI_perm (hl.map _)
   ·simp[wkI]
   ·intro K' G s q o hK' hb hg he
    obtain⟨_,h2,hb⟩:=bnd hb
    have h2:=ck_some h2
    have h3:s.length≤268435455:=by omega
    cases hb
    refine ko [5,6,19] 2 (by simp;rfl) ?_
    refine tpN ?_
    refine lr (by simp[h3];rfl) ?_
    exact⟨_,hg _ rfl,by simp[wkI]⟩
   ·intro v hv
    exact⟨v,hv,wk (by simp[wkI])⟩
end Go.Vl
