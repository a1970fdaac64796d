/- history.Lost in plain words, and its contract. Conditions: none. -/
import Derived.Test.YtjnflahicimmlaaGreatGhs
import Derived.Test.YtjnflahicimmlaaGreatGig
import Derived.Test.YtjnflahicimmlaaGreatVmZd
import Derived.Test.YtjnflahicimmlaaGreatGsg
import Derived.Test.YtjnflahicimmlaaGreatVmZs
import Derived.Handy
set_option maxHeartbeats 2000000
set_option linter.unusedSimpArgs false
set_option linter.unusedVariables false
namespace Go.Vl
open Go Go.Proofs
noncomputable def sYSort_int_vec0 (a0:List Int):Option (List Int):=(ck (a0.length≤268435456)).bind fun _=>some (a0.mergeSort fun x y=>decide (x≤y))
theorem sYSort_int_vec0_ok {a0 r:List Int} (h0:sYSort_int_vec0 a0=some r):FnOKh Tryz.prog 59 [] [⟨3,1,rowsF (iRow .i64) a0⟩] [.vec (InV 0)] (.tup []) [] [⟨3,1,rowsF (iRow .i64) r⟩]:=by
 unfold sYSort_int_vec0 at h0
 obtain⟨_,h1,h0⟩:=bnd h0
 cases h0
 exact sort_row Tryz.slices_Sort_int Tryz.slices_Sort_int_none a0 (ck_some h1)
def lostB (now:List (Int×Bool)) (t:Int) (q:Int×Int):Bool:=decide (q.2≤t)&& !((mget inE now q.1).getD false)
theorem lost_fold (n:Nat) (now:List (Int×Bool)) (t:Int):∀(l:List (Int×Int)) (s:List Int),s.length+(l.filter (lostB now t)).length≤n→foldO (fun (s:List Int) (q:Int×Int)=>if lostB now t q=true then(ck (s.length+1≤n)).bind fun _=>some (Lp.go (ε:=List Int) (s++[q.1])) else some (Lp.go s)) (fun s=>s) s l=some (s++(l.filter (lostB now t)).map (·.1))
 |[],s,_=>by simp[foldO]
 |q::l,s,h=>by
  simp only[foldO]
  by_cases hq:lostB now t q=true
  ·rw[List.filter_cons_of_pos hq] at h ⊢
   rw[if_pos hq,ck_t (by simp at h;omega)]
   simp only[Option.bind_some]
   rw[lost_fold n now t l _ (by simp at h ⊢;omega)]
   simp
  ·rw[List.filter_cons_of_neg hq] at h ⊢
   rw[if_neg hq]
   simp only[Option.bind_some]
   exact lost_fold n now t l s h
open Classical in
noncomputable def lostL (a0:zR) (all:List (Int×zO)) (t:Int):List Int:=
 (everL a0 all).filter fun id=>decide ((∃u,seenF a0 all a0.Events.length id=some u∧u≤t)∧¬Rch all (seedsAt a0 t) id)
theorem sortI_sorted (l:List Int):(sortI l).Pairwise (·≤·):=by
 unfold sortI
 refine List.Pairwise.imp (fun {a b} h=>?_) (List.pairwise_mergeSort (le:=fun x y:Int=>decide (x≤y)) (fun a b c h1 h2=>by simp at h1 h2 ⊢;omega) (fun a b=>by simp;omega) l)
 simpa using h
theorem sortI_id {l:List Int} (h:l.Pairwise (·≤·)):sortI l=l:=by
 refine List.Perm.eq_of_pairwise (le:=fun x y:Int=>x≤y) (fun x y _ _ h1 h2=>by omega) (sortI_sorted l) h (List.mergeSort_perm ..)
theorem sortI_mem {l:List Int} {x:Int}:x∈sortI l↔x∈l:=(List.mergeSort_perm l fun x y=>decide (x≤y)).mem_iff
theorem sortI_nodup {l:List Int} (h:l.Nodup):(sortI l).Nodup:=(List.mergeSort_perm l fun x y=>decide (x≤y)).nodup_iff.2 h
theorem lostL_eq {a0:zR} {all:List (Int×zO)} {t:Int} {m:List (Int×Int)} (hm:SeenM a0 all a0.Events.length m) {now:List (Int×Bool)} (hn:RchM all (seedsAt a0 t) now):sortI ((m.filter (lostB now t)).map (·.1))=lostL a0 all t:=by
 have he:=everL_eq hm
 have hnow:∀id,(mget inE now id).getD false=true↔Rch all (seedsAt a0 t) id:=fun id=>by
  rw[← hn.iff id,←mget_mem inE_eq]
  cases hg:mget inE now id with
  |none=>simp
  |some b=>simpa using hn.tt _ (mget_some inE_eq hg)
 have hnd:((m.filter (lostB now t)).map (·.1)).Nodup:=hm.nd.sublist (List.filter_sublist.map _)
 have hev:(everL a0 all).Nodup:=by rw[← he];exact sortI_nodup hm.nd
 have hso:(lostL a0 all t).Pairwise (·≤·):=by
  unfold lostL
  exact List.Pairwise.filter _ (by rw[← he];exact sortI_sorted _)
 rw[← sortI_id hso]
 refine sortI_ext hnd (by unfold lostL;exact hev.filter _) fun x=>?_
 unfold lostL
 rw[List.mem_filter,←he,sortI_mem]
 constructor
 ·intro h
  obtain⟨q,hq,rfl⟩:=List.mem_map.1 h
  obtain⟨hq,hb⟩:=List.mem_filter.1 hq
  unfold lostB at hb
  simp only[Bool.and_eq_true,decide_eq_true_eq,Bool.not_eq_true'] at hb
  refine⟨List.mem_map_of_mem hq,?_⟩
  simp only[decide_eq_true_eq]
  refine⟨⟨q.2,by rw[← hm.eq];exact mget_of inE_eq hm.nd hq,hb.1⟩,fun h=>?_⟩
  rw[(hnow q.1).2 h] at hb
  cases hb.2
 ·rintro⟨h1,h2⟩
  simp only[decide_eq_true_eq] at h2
  obtain⟨⟨u,h3,h4⟩,h5⟩:=h2
  rw[← hm.eq] at h3
  refine List.mem_map.2 ⟨(x,u),List.mem_filter.2 ⟨mget_some inE_eq h3,?_⟩,rfl⟩
  unfold lostB
  have:(mget inE now x).getD false=false:=by
   cases hb:(mget inE now x).getD false with
   |false=>rfl
   |true=>exact absurd ((hnow x).1 hb) h5
  simp[h4,this]
open Classical in
noncomputable def hYLost (a0:zR) (a1:Int):Option (List Int):=
 (hYValid a0).bind fun v=>
 if(v != 0)=true then some [] else
 (hYindex a0).bind fun p=>
 if OkH a0 p.1∧(lostL a0 p.1 a1).length≤1000000 then some (lostL a0 p.1 a1) else none
theorem hYLost_ok {a0:zR} {a1:Int} {r:List Int} (h0:hYLost a0 a1=some r):FnOK Tryz.prog 18 [] [.agg (zRa a0),.d (.int .i64 a1)] (.d (.slice (rowsF (iRow .i64) r))) []:=by
 unfold hYLost at h0
 refine fn_okK (nt:=47) (rs:=[.tmp 4]) Tryz.func18 rfl Tryz.ntmps18 rfl (by simp) (by decide) rfl fun K hK=>?_
 refine kr [1,2] (by simp;rfl) ?_
 refine trq ?_
 refine kc ?_
 refine ko [1,2,11] 1 (by simp;rfl) ?_
 replace h0:=bnd h0;obtain⟨v,hv,h0⟩:=h0
 refine kcall [1,2,12] [] (hYValid_ok hv) rfl rfl rfl Tryz.call7 (by simp) (by simp;rfl) ?_
 refine ko [1,2,13] 1 (by simp;rfl) ?_
 refine tpN ?_
 refine trc (b:=(v != 0)) (by simp) (fun c3=>?_) (fun c3=>?_)
 ·rw[if_pos c3] at h0
  refine kr [4] (by simp;rfl) ?_
  cases h0
  exact trr ⟨[],by simp,rfl,by simp⟩
 ·rw[if_neg (by rw[c3];decide)] at h0
  replace h0:=bnd h0;obtain⟨⟨all,sg⟩,hp,h0⟩:=h0
  dsimp only at h0
  split at h0
  ·rename_i ok
   refine trk ?_
   refine kc ?_
   refine ko [1,2,15] 1 (by simp;rfl) ?_
   refine kcall [1,2,16] [] (hYindex_ok hp) rfl rfl rfl Tryz.call34 (by simp) (by simp;rfl) ?_
   refine ko [1,2,5] 5 (by simp;rfl) ?_
   refine tpN ?_
   refine kc ?_
   refine ko [1,2,19,20,21] 3 (by simp;rfl) ?_
   refine kcallR [1,2,22] [] (reachable_ok ok.1 a1) rfl rfl rfl Tryz.call56 (by simp) (fun _=>rfl) (fun m=>by simp;rfl) fun now hnow=>?_
   refine ko [1,2,7] 1 (by simp;rfl) ?_
   refine tpN ?_
   refine kr [1,2,7,8] (by simp;rfl) ?_
   refine sjv (fun v:List Int=>({ nt:=47,env:=[(8,.vec 43)],box:=[],vec:=[(43,⟨3,1,rowsF (iRow .i64) v⟩)]}:St)) (fun v=>v.length≤1000000∧sortI v=lostL a0 all a1) (fun v hv=>?_) ?_
   ·have hy:sYSort_int_vec0 v=some (lostL a0 all a1):=by
     unfold sYSort_int_vec0
     rw[ck_t (by have:=hv.1;omega),←hv.2];rfl
    refine kc ?_
    refine ko [8,44] 1 (by simp;rfl) ?_
    refine kcallH [8] [] [43] [(8,43),(44,43)] (sYSort_int_vec0_ok hy) rfl rfl rfl Tryz.call59 (by simp) (by simp;rfl) ?_
    refine tpN ?_
    refine tr_frz 43 ?_
    refine kr [4] (by simp;rfl) ?_
    cases h0
    exact trr ⟨[],by simp,rfl,by simp⟩
   ·refine tr_own 8 43 3 1 (by simp) (by simp) ?_
    refine kc_rangeT 2 rfl rfl rfl rfl Tryz.underlying80 ?_
    refine ko [1,7,8,23] 1 (by simp;rfl) ?_
    refine kcallR [1,7,8,24] [] (seen_ok hp ok.1) rfl rfl rfl Tryz.call48 (by simp) (fun _=>rfl) (fun m=>by simp;rfl) fun m hm=>?_
    have e1:sortI ((m.filter (lostB now a1)).map (·.1))=lostL a0 all a1:=lostL_eq hm hnow
    have hml:(m.filter (lostB now a1)).length≤1000000:=by have:=ok.2;rw[← e1,sortI_len,List.length_map] at this;exact this
    refine tpN ⟨mTag 80 1 false false,2,rowsF (mRow (iRow .i64) (iRow .i64)) m,by simp,by simp,fun r=>?_⟩
    refine tri_block ?_
    refine tr_range (row:=mRow (iRow .i64) (iRow .i64)) (left0:=m) (kA:=fun q=>.d (.int .i64 q.1)) (vA:=fun q=>.d (.int .i64 q.2)) (S:=fun s:List Int=>({ nt:=47,env:=[(1,.d (.int .i64 a1)),(7,.d (.mp (mTag 75 1 false false) 2 (rowsF (mRow (iRow .i64) bRow) now))),(8,.vec 43),(25,.iter r)],box:=[],vec:=[(43,⟨3,1,rowsF (iRow .i64) s⟩)]}:St))
     (body:=fun (s:List Int) (q:Int×Int)=>if lostB now a1 q=true then(ck (s.length+1≤268435456)).bind fun _=>some (Lp.go (ε:=List Int) (s++[q.1])) else some (Lp.go s)) (fin:=fun s=>s) (s0:=[]) (Φ:=fun v=>v.length≤1000000∧sortI v=lostL a0 all a1)
     (List.eq_nil_of_length_eq_zero (by simpa using hK)) ⟨rfl,rfl,rfl⟩ rfl rfl rfl rfl rfl rfl (by decide) (fun s=>by simp) (fun s=>by simp) (fun q=>?_) (fun q=>?_) (fun l hl=>?_) ?_ ?_ ?_
    ·simp[packMA,tag_ka,tag_kz,mRow]
    ·simp[packMA,tag_va,tag_kz,mRow]
    ·have hp2:(l.filter (lostB now a1)).Perm (m.filter (lostB now a1)):=hl.filter _
     refine⟨_,lost_fold 268435456 now a1 l [] (by rw[hp2.length_eq];simp;omega),?_,?_⟩
     ·simp only[List.nil_append,List.length_map];rw[hp2.length_eq];exact hml
     ·simp only[List.nil_append];rw[← e1];exact sortI_perm (hp2.map _)
    ·simp[wkI]
    ·intro K' G s q o hK' hb hg he
     refine ko [1,7,8,9,10,25] 4 (by simp;rfl) ?_
     refine tpN ?_
     refine kc ?_
     refine ko [1,7,8,9,25,34] 4 (by simp;rfl) ?_
     refine tops_split 34 (decide (q.2≤a1)) (by simp) (fun c8=>?_) (fun c8=>?_)
     ·refine ko [1,7,8,9,25,39] 5 (by simp;rfl) ?_
      refine tpN ?_
      refine trc (b:=!((mget inE now q.1).getD false)) (by simp) (fun c9=>?_) (fun c9=>?_)
      ·rw[if_pos (by unfold lostB;rw[c8,c9];rfl)] at hb
       obtain⟨_,h2,hb⟩:=bnd hb
       have h2:=ck_some h2
       have h3:s.length≤268435455:=by omega
       cases hb
       refine lr (by simp[h3];rfl) ?_
       exact⟨_,hg _ rfl,by simp[wkI]⟩
      ·rw[if_neg (by unfold lostB;rw[c8,c9];decide)] at hb
       cases hb
       refine trk ?_
       exact⟨_,hg _ rfl,by simp[wkI]⟩
     ·rw[if_neg (by unfold lostB;rw[c8];simp)] at hb
      cases hb
      refine kskip 4 [] (by kernel_rfl) ?_
      refine ko [1,7,8,25,39] 1 (by simp;rfl) ?_
      refine tpN ?_
      refine trc (b:=false) (by simp) (fun c9=>by cases c9) (fun c9=>?_)
      refine trk ?_
      exact⟨_,hg _ rfl,by simp[wkI]⟩
    ·intro v hv
     exact⟨v,hv,wk (by simp[wkI])⟩
  ·cases h0
end Go.Vl
namespace Go.Vl
open Go Go.Proofs Go.RowKit Go.Sort Go.Shelf
theorem isnan66 (s:ByteArray) (W:World):Calls Tryz.prog 88 #[.string s] W fun e w'=>e=.returned (.bool false)∧∃q os',w'=grow (W.drewN q) os':=by
 go_enter Tryz.func88,Tryz.ntmps88
 go_wp2
 go_ret
 exact⟨rfl,0,#[],by simp[grow,World.drewN]⟩
theorem gq_trans {W w1 w2:World} (h1:∃q os',w1=grow (W.drewN q) os') (h2:∃q os',w2=grow (w1.drewN q) os'):∃q os',w2=grow (W.drewN q) os':=by
 obtain⟨q,os,rfl⟩:=h1
 obtain⟨q2,os2,rfl⟩:=h2
 refine⟨q+q2,os++os2,?_⟩
 simp[grow,World.drewN,Nat.add_assoc]
def cmpS (a b:ByteArray):Int:=if Op.bytesLess a.toList b.toList=true then -1 else if(!(Op.bytesLess a.toList b.toList||a.toList==b.toList))=true then 1 else 0
theorem cmp46 (a b:ByteArray) (W:World):Calls Tryz.prog 53 #[.string a,.string b] W fun e w'=>e=.returned (.int .i64 (cmpS a b))∧∃q os',w'=grow (W.drewN q) os':=by
 go_enter Tryz.func53,Tryz.ntmps53
 go_wp2_with fail
 go_call (isnan66 a W) as e w1 ⟨he,hw1⟩
 subst he
 go_wp2_with fail
 go_call (isnan66 b w1) as e w2 ⟨he,hw2⟩
 subst he
 have hw:=gq_trans hw1 hw2
 clear hw1 hw2
 go_wp2
 ·rename_i h1
  go_ret
  exact⟨by simp[cmpS,h1],hw⟩
 ·have h1:Op.bytesLess a.toList b.toList=false:=by assumption
  rw[show Sem.run Tryz.prog (binOp BinOp.gtr 9 (Value.string a) (Value.string b)) w2=.ok (.bool (!(Op.bytesLess a.toList b.toList||a.toList==b.toList))) w2 from rfl]
  go_wp2
  ·have h3:(!a.toList==b.toList)=true:=by assumption
   have h2:(!(Op.bytesLess a.toList b.toList||a.toList==b.toList))=true:=by rw[h1,Bool.false_or];exact h3
   go_ret
   exact⟨by unfold cmpS;rw[if_neg (by rw[h1];decide),if_pos h2];rfl,hw⟩
  ·have h3:(!a.toList==b.toList)=false:=by assumption
   have h2:(!(Op.bytesLess a.toList b.toList||a.toList==b.toList))=false:=by rw[h1,Bool.false_or];exact h3
   go_ret
   exact⟨by unfold cmpS;rw[if_neg (by rw[h1];decide),if_neg (by rw[h2];decide)];rfl,hw⟩
def cfI (x y:zI):Int:=cmpS x.Name y.Name
theorem closure45 (x y:zI):CmpAt Tryz.prog 52 zIr cfI x y:=by
 intro W _
 show Calls Tryz.prog 52 #[.agg #[.string x.Name,.int .i64 x.ID],.agg #[.string y.Name,.int .i64 y.ID]] W _
 go_enter Tryz.func52,Tryz.ntmps52
 go_wp2_with fail
 go_call (cmp46 x.Name y.Name _) as e w1 ⟨he,hw1⟩
 subst he
 go_wp2
 go_ret
 refine⟨rfl,gq_trans ?_ hw1⟩
 rw[alloc_eq_grow,alloc_eq_grow,grow_grow]
 exact⟨0,_,rfl⟩
theorem cmpS_neg {a b:ByteArray}:cmpS a b < 0↔a.toList < b.toList:=by
 unfold cmpS
 rw[bytesLess_eq]
 by_cases h:a.toList < b.toList
 ·simp[h]
 ·simp only[h,decide_false,Bool.false_eq_true,if_false,iff_false]
  split <;> decide
theorem plain_api_Item (x:zI):∀d∈zIr x,plainD d=true:=fun d hd=>by
 simp only[zIr,List.mem_cons,List.not_mem_nil,or_false] at hd
 rcases hd with rfl |rfl <;> rfl
theorem swo_cfI {α:Type} (f:α→zI):SWO (ltOf fun x y:α=>cfI (f x) (f y)):=by
 constructor
 ·intro x
  simp only[ltOf,cfI,cmpS_neg,decide_eq_false_iff_not]
  exact List.lt_irrefl _
 ·intro x y z h1 h2
  simp only[ltOf,cfI,cmpS_neg,decide_eq_true_eq] at *
  exact List.lt_trans h1 h2
 ·intro x y z h1 h2
  simp only[ltOf,cfI,cmpS_neg,decide_eq_false_iff_not] at *
  exact fun h=>by
   rw[List.not_lt] at h1 h2
   exact absurd h (List.not_lt.2 (List.le_trans h2 h1))
open Classical in
noncomputable def sYSortFunc_api_Item_vec0 (a0:List zI):Option (List zI):=
 (ck (a0.length≤268435456∧∀x∈a0,∀y∈a0,x.Name=y.Name→x=y)).bind fun _=>some (a0.mergeSort fun x y=>!decide (cfI y x < 0))
open Classical in
theorem sYSortFunc_api_Item_vec0_ok {a0 r:List zI} (h0:sYSortFunc_api_Item_vec0 a0=some r):FnOKh Tryz.prog 51 [] [⟨57,2,rowsF zIr a0⟩] [.vec (InV 0),.fn 52 []] (.tup []) [] [⟨57,2,rowsF zIr r⟩]:=by
 unfold sYSortFunc_api_Item_vec0 at h0
 obtain⟨_,h1,h0⟩:=bnd h0
 cases h0
 obtain⟨h2,h3⟩:=ck_some h1
 exact sortF_row Tryz.sort51 Tryz.isAgg57 Tryz.sizeOf57 plain_api_Item (fun _=>rfl) cfI a0 (swo_cfI fun x:{x // x∈a0}=>x.1) (fun x hx y hy g1 g2=>h3 x hx y hy (by
  unfold cfI at g1 g2
  rw[cmpS_neg] at g1 g2
  have:=List.le_antisymm (List.not_lt.1 g2) (List.not_lt.1 g1)
  rw[ByteArray.toList_eq,ByteArray.toList_eq] at this
  exact ByteArray.ext (Array.toList_inj.1 this))) (enters_of Tryz.func52 (by kernel_rfl) rfl) (fun x _ y _=>closure45 x y) h2
theorem stE_eq (a b:ByteArray):stE a b=true↔a=b:=by
 unfold stE
 rw[beq_iff_eq,ByteArray.toList_eq,ByteArray.toList_eq]
 exact⟨fun h=>ByteArray.ext (Array.toList_inj.1 h),fun h=>by rw[h]⟩
theorem refStep_nd {m:List (ByteArray×Int)} (h:(m.map (·.1)).Nodup) (e:zE):((refStep m e).map (·.1)).Nodup:=by
 unfold refStep
 split
 ·exact mset_nodup stE_eq h _ _
 ·exact mdel_nodup h _
theorem refsF_nd (t:Int):∀(l:List zE) (m:List (ByteArray×Int)),(m.map (·.1)).Nodup→((refsF t m l).map (·.1)).Nodup
 |[],m,h=>h
 |e::l,m,h=>by
  simp only[refsF]
  split
  ·exact h
  ·exact refsF_nd t l _ (refStep_nd h e)
def itemOf (q:ByteArray×Int):zI:=⟨q.1,q.2⟩
open Classical in
noncomputable def sortIt (l:List zI):List zI:=l.mergeSort fun x y=>!decide (cfI y x < 0)
theorem item_one {m:List (ByteArray×Int)} (h:(m.map (·.1)).Nodup):∀x∈m.map itemOf,∀y∈m.map itemOf,x.Name=y.Name→x=y:=by
 intro x hx y hy e
 obtain⟨p,hp,rfl⟩:=List.mem_map.1 hx
 obtain⟨q,hq,rfl⟩:=List.mem_map.1 hy
 have e':p.1=q.1:=e
 have h1:=mget_of stE_eq h hp
 have h2:=mget_of stE_eq h hq
 rw[← e',h1] at h2
 unfold itemOf
 rw[e',Option.some.inj h2]
open Classical in
theorem sortIt_perm {a b:List zI} (h:a.Perm b) (h1:∀x∈b,∀y∈b,x.Name=y.Name→x=y):sortIt a=sortIt b:=by
 unfold sortIt
 have S:=swo_cfI (fun x:zI=>x)
 have hT:∀l:List zI,(l.mergeSort fun x y=>!decide (cfI y x < 0)).Pairwise fun x y=>¬cfI y x < 0:=fun l=>by
  refine List.Pairwise.imp (fun {a b} h=>?_) (List.pairwise_mergeSort (le:=fun x y:zI=>!decide (cfI y x < 0)) (fun a b c h1 h2=>?_) (fun a b=>?_) l)
  ·simpa using h
  ·have:=S.ntrans c b a
   simp only[ltOf] at this
   simp only[Bool.not_eq_true'] at h1 h2 ⊢
   exact this h2 h1
  ·cases hc:decide (cfI b a < 0) with
   |false=>simp
   |true=>
    cases hd:decide (cfI a b < 0) with
    |false=>simp
    |true=>
     have:=S.trans a b a hd hc
     rw[S.irrefl] at this
     cases this
 refine List.Perm.eq_of_pairwise (le:=fun x y:zI=>¬cfI y x < 0) (fun x y hx hy g1 g2=>?_) (hT a) (hT b) ((List.mergeSort_perm ..).trans (h.trans (List.mergeSort_perm ..).symm))
 have hx':x∈b:=h.mem_iff.1 ((List.mergeSort_perm ..).mem_iff.1 hx)
 have hy':y∈b:=(List.mergeSort_perm ..).mem_iff.1 hy
 refine h1 x hx' y hy' ?_
 unfold cfI at g1 g2
 rw[cmpS_neg] at g1 g2
 have:=List.le_antisymm (List.not_lt.1 g1) (List.not_lt.1 g2)
 rw[ByteArray.toList_eq,ByteArray.toList_eq] at this
 exact ByteArray.ext (Array.toList_inj.1 this)
theorem items_fold (n:Nat):∀(l:List (ByteArray×Int)) (s:List zI),s.length+l.length≤n→foldO (fun (s:List zI) (q:ByteArray×Int)=>(ck (s.length+1≤n)).bind fun _=>some (Lp.go (ε:=List zI) (s++[itemOf q]))) (fun s=>s) s l=some (s++l.map itemOf)
 |[],s,_=>by simp[foldO]
 |q::l,s,h=>by
  simp only[foldO]
  rw[ck_t (by simp at h;omega)]
  simp only[Option.bind_some]
  rw[items_fold n l _ (by simp at h ⊢;omega)]
  simp
noncomputable def hYRefs (a0:zR) (a1:Int):Option (List zI):=
 (hYValid a0).bind fun v=>
 if(v != 0)=true then some [] else
 (ck (a0.Events.length≤1000000)).bind fun _=>
 some (sortIt ((refsF a1 [] a0.Events).map itemOf))
theorem hYRefs_ok {a0:zR} {a1:Int} {r:List zI} (h0:hYRefs a0 a1=some r):FnOK Tryz.prog 14 [] [.agg (zRa a0),.d (.int .i64 a1)] (.d (.slice (rowsF zIr r))) []:=by
 unfold hYRefs at h0
 refine fn_okK (nt:=29) (rs:=[.tmp 4]) Tryz.func14 rfl Tryz.ntmps14 rfl (by simp) (by decide) rfl fun K hK=>?_
 refine kr [1,2] (by simp;rfl) ?_
 refine trq ?_
 refine kc ?_
 refine ko [1,2,8] 1 (by simp;rfl) ?_
 replace h0:=bnd h0;obtain⟨v,hv,h0⟩:=h0
 refine kcall [1,2,9] [] (hYValid_ok hv) rfl rfl rfl Tryz.call7 (by simp) (by simp;rfl) ?_
 refine ko [1,2,10] 1 (by simp;rfl) ?_
 refine tpN ?_
 refine trc (b:=(v != 0)) (by simp) (fun c3=>?_) (fun c3=>?_)
 ·rw[if_pos c3] at h0
  refine kr [4] (by simp;rfl) ?_
  cases h0
  exact trr ⟨[],by simp,rfl,by simp⟩
 ·rw[if_neg (by rw[c3];decide)] at h0
  replace h0:=bnd h0;obtain⟨_,hev,h0⟩:=h0
  have hev:=ck_some hev
  obtain⟨m,hm⟩:∃m,m=refsF a1 [] a0.Events:=⟨_,rfl⟩
  have hml:m.length≤1000000:=by have:=refsF_len a1 a0.Events [];rw[hm];simp at this;omega
  have hone:=item_one (refsF_nd a1 a0.Events [] (by simp))
  rw[← hm] at h0 hone
  refine trk ?_
  refine kr [1,2,5] (by simp;rfl) ?_
  refine sjv (fun v:List zI=>({ nt:=29,env:=[(5,.vec 25)],box:=[],vec:=[(25,⟨57,2,rowsF zIr v⟩)]}:St)) (fun v=>v.Perm (m.map itemOf)) (fun v hv=>?_) ?_
  ·have hy:sYSortFunc_api_Item_vec0 v=some (sortIt (m.map itemOf)):=by
    unfold sYSortFunc_api_Item_vec0
    have hc:v.length≤268435456∧∀x∈v,∀y∈v,x.Name=y.Name→x=y:=⟨by rw[hv.length_eq,List.length_map];omega,fun x hx y hy=>hone x (hv.mem_iff.1 hx) y (hv.mem_iff.1 hy)⟩
    unfold ck
    rw[if_pos hc,←sortIt_perm hv hone];rfl
   refine kc ?_
   refine ko [5,26] 1 (by simp;rfl) ?_
   refine kcallH [5] [] [25] [(5,25),(26,25)] (sYSortFunc_api_Item_vec0_ok hy) rfl rfl rfl Tryz.call51 (by simp) (by simp;rfl) ?_
   refine tpN ?_
   refine tr_frz 25 ?_
   refine kr [4] (by simp;rfl) ?_
   cases h0
   exact trr ⟨[],by simp,rfl,by simp⟩
  ·refine tr_own 5 25 57 2 (by simp) (by simp) ?_
   refine kc_rangeT 3 rfl rfl rfl rfl Tryz.underlying82 ?_
   refine ko [5,11,12] 2 (by simp;rfl) ?_
   refine kcall [5,13] [] (hYrefs_ok (refs_eq hev a1)) rfl rfl rfl Tryz.call50 (by simp) (by simp;rfl) ?_
   rw[← hm]
   refine tpN ⟨mTag 82 1 false false,2,rowsF (mRow sRow (iRow .i64)) m,by simp,by simp,fun r=>?_⟩
   refine tri_block ?_
   refine tr_range (row:=mRow sRow (iRow .i64)) (left0:=m) (kA:=fun q=>.d (.str q.1)) (vA:=fun q=>.d (.int .i64 q.2)) (S:=fun s:List zI=>({ nt:=29,env:=[(5,.vec 25),(14,.iter r)],box:=[],vec:=[(25,⟨57,2,rowsF zIr s⟩)]}:St))
    (body:=fun (s:List zI) (q:ByteArray×Int)=>(ck (s.length+1≤268435456)).bind fun _=>some (Lp.go (ε:=List zI) (s++[itemOf q]))) (fin:=fun s=>s) (s0:=[]) (Φ:=fun v=>v.Perm (m.map itemOf))
    (List.eq_nil_of_length_eq_zero (by simpa using hK)) ⟨rfl,rfl,rfl⟩ rfl rfl rfl rfl rfl rfl (by decide) (fun s=>by simp) (fun s=>by simp) (fun q=>?_) (fun q=>?_) (fun l hl=>?_) ?_ ?_ ?_
   ·simp[packMA,tag_ka,tag_kz,mRow]
   ·simp[packMA,tag_va,tag_kz,mRow]
   ·refine⟨_,items_fold 268435456 l [] (by rw[hl.length_eq];simp;omega),?_⟩
    simpa using hl.map itemOf
   ·simp[wkI]
   ·intro K' G s q o hK' hb hg he
    obtain⟨_,h2,hb⟩:=bnd hb
    have h2:=ck_some h2
    have h3:s.length≤268435455:=by omega
    cases hb
    refine ko [5,6,7,14] 4 (by simp;rfl) ?_
    refine tpN ?_
    refine lr (by simp[h3];rfl) ?_
    exact⟨_,hg _ rfl,by simp[wkI,itemOf]⟩
   ·intro v hv
    exact⟨v,hv,wk (by simp[wkI])⟩
end Go.Vl
