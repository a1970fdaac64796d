/- copies.Way: its mirror and its contract (an owned row of rows that are data). Conditions: none. -/
import Derived.Test.YthpiljonjcfgcaaGreatQ0x
import Derived.Test.YthpiljonjcfgcaaGreatVmLz
import Derived.Test.YthpiljonjcfgcaaGreatVmQu
import Derived.Test.YthpiljonjcfgcaaGreatVmQq
import Derived.Test.YthpiljonjcfgcaaGreatVmNi
import Derived.Test.YthpiljonjcfgcaaGreatQsh
import Derived.Test.YthpiljonjcfgcaaGreatQAx
import Derived.Test.YthpiljonjcfgcaaGreatVmQw
set_option maxHeartbeats 4000000
set_option linter.unusedSimpArgs false
set_option linter.unusedVariables false
namespace Go.Vl
open Go Go.Proofs
noncomputable def copies_Way_l0 (a0:api_Estate) (a1 a3:Int) (s:Int×List (List Int)):Option (Lp (Int×List (List Int)) (List (List Int))):=
 if(decide (s.1 < (a0.Events.length:Int)))=true then
  (idx a0.Events s.1).bind fun x=>
  (ck (0≤x.Place∧(Int.toNat x.Place) < s.2.length)).bind fun _=>
  (idx s.2 x.Place).bind fun row=>
  if(decide (a3 < x.Time))=true then some (.go (IntKind.i64.wrap (s.1+1),s.2)) else
  if(x.Kind==5&&(x.Content==a1&& !(decide (0 < (row.length:Int)))))=true then some (.go (IntKind.i64.wrap (s.1+1),s.2.set (Int.toNat x.Place) [s.1])) else
  if(x.Kind==6&&x.Content==a1)=true then some (.go (IntKind.i64.wrap (s.1+1),s.2.set (Int.toNat x.Place) [])) else
  if(x.Kind==7&& !(decide (0 < (row.length:Int))))=true then
   (ck (0≤x.From∧(Int.toNat x.From) < s.2.length)).bind fun _=>
   (idx s.2 x.From).bind fun fr=>
   if(decide (0 < (fr.length:Int)))=true then
    (sYClone_int_own0 fr).bind fun cl=>
    (ck (cl.length+1≤268435456)).bind fun _=>
    some (.go (IntKind.i64.wrap (s.1+1),s.2.set (Int.toNat x.Place) (cl++[s.1])))
   else some (.go (IntKind.i64.wrap (s.1+1),s.2))
  else some (.go (IntKind.i64.wrap (s.1+1),s.2))
 else some (.out s.2)
noncomputable def copies_Way (a0:api_Estate) (a1 a2 a3:Int):Option (List Int×Bool):=
 Option.bind (
  (access_Check a0).bind fun y=>
  if(y != 0)=true then some true else
  (access_Content a1).bind fun y2=>
  if(!y2)=true then some true else
  (access_Place a0 a2).bind fun y3=>some (!y3)) fun v=>
 if v=true then some ([],false) else
 (ck (0≤a0.Places∧a0.Places≤268435456)).bind fun _=>
 (iter (copies_Way_l0 a0 a1 a3) (0,List.replicate (Int.toNat a0.Places) [])).bind fun ways=>
 (ck (0≤a2∧(Int.toNat a2) < ways.length)).bind fun _=>
 (idx ways a2).bind fun row=>
 some (row,decide (0 < (row.length:Int)))
theorem copies_Way_ok {a0:api_Estate} {a1 a2 a3:Int} {r:List Int×Bool} (h0:copies_Way a0 a1 a2 a3=some r):FnOK Tryz.prog 10 [] [.agg (api_Estate_av a0),.d (.int .i64 a1),.d (.int .i64 a2),.d (.int .i64 a3)] (.tup [.d (.slice (rowsF (iRow .i64) r.1)),.d (.bool r.2)]) []:=by
 unfold copies_Way at h0
 obtain⟨v,hv,h0⟩:=bnd h0
 refine fn_okK (nt:=126) (rs:=[.tmp 8,.tmp 9]) Tryz.func10 rfl Tryz.ntmps10 rfl (by simp) (by decide) rfl fun K hK=>?_
 refine kr [1,2,3,4] (by simp;rfl) ?_
 refine tr_frzB 4 (api_Estate_av a0) (api_Estate_row a0) (by simp) (by simp) hK (by decide) (fun i hi=>absurd hi (Nat.not_lt_zero i)) ?_
 refine trq ?_
 refine sjv (fun v_:Bool=>({ nt:=126,env:=[(1,.d (.int .i64 a1)),(2,.d (.int .i64 a2)),(3,.d (.int .i64 a3)),(4,.cptr (api_Estate_row a0) 0),(27,.d (.bool v_))],box:=[],vec:=[]}:St)) (fun v_=>v=v_) (fun v_ e=>?_) ?_
 ·subst e
  refine trc (b:=v) (by simp) (fun c1=>?_) (fun c1=>?_)
  ·rw[if_pos c1] at h0
   refine kr [8,9] (by simp;rfl) ?_
   cases h0
   exact trr ⟨[],by simp,rfl,by simp⟩
  rw[if_neg (by rw[c1];decide)] at h0
  refine trk ?_
  obtain⟨_,p1,h0⟩:=bnd h0
  replace p1:=ck_some p1
  obtain⟨ways,hI1,h0⟩:=bnd h0
  obtain⟨_,p2,h0⟩:=bnd h0
  replace p2:=ck_some p2
  obtain⟨row,p3,h0⟩:=bnd h0
  replace p3:=idx_some p3
  have p3':=p3;try simp at p3'
  have hr:=Option.some.inj h0
  subst hr
  clear h0
  refine kr [1,2,3,4,10] (by simp[p1,(show List.replicate (Int.toNat a0.Places) ([.slice []]:List D)=rowsF (slRow (iRow .i64)) (List.replicate (Int.toNat a0.Places) []) from by simp[rowsF,slRow])];rfl) ?_
  refine trq ?_
  refine kr [1,2,3,10,32,33,34] (by simp;rfl) ?_
  refine tjv (fun w:List (List Int)=>({ nt:=126,env:=[(2,.d (.int .i64 a2)),(10,.vec 30)],box:=[],vec:=[(30,⟨22,1,rowsF (slRow (iRow .i64)) w⟩)]}:St)) (fun w=>w=ways) (fun w hw _ W1=>?_) ?_
  ·subst hw
   refine tr_wk W1 ?_
   refine tr_frz 30 ?_
   obtain⟨p2a,p2b⟩:=p2
   have p2c:a2 < (w.length:Int):=by omega
   refine kheld (S0:=({ nt:=126,env:=[(8,.d (.slice (rowsF (iRow .i64) row))),(9,.d (.bool (decide (0 < (row.length:Int)))))],box:=[],vec:=[]}:St)) [0,1,2,3,4,5,6,7,8,10] 2 (by simpa using hK) fol (by decide +kernel) rfl rfl rfl (by simp (maxSteps:=1000000) [-getElem?_pos,List.getElem?_cons_zero,List.getElem?_cons_succ,stillsL,stillB,pureP,pureB,slRow,p2a,p2c,p3,p3'];rfl) (fun K' S F C=>?_) ?_
   ·refine ho_allT C [9] (by decide +kernel) (by decide) ?_
    refine hallT_cons rfl (sl (by simp;rfl) ?_) trivial
    refine ho_allT C [11] (by decide +kernel) (by decide) ?_
    refine hallT_cons rfl (sl (by simp;rfl) ?_) trivial
    exact ho_end C (by decide +kernel) ⟨rfl,wkI.2 (by simp)⟩
   exact trr ⟨[],by simp,rfl,by simp⟩
  refine trb (tr_iter (fun s:Int×List (List Int)=>({ nt:=126,env:=[(1,.d (.int .i64 a1)),(2,.d (.int .i64 a2)),(3,.d (.int .i64 a3)),(10,.vec 30),(32,.d (.slice (rowsF api_Access_row a0.Events))),(33,.d (.int .i64 (a0.Events.length:Int))),(34,.d (.int .i64 s.1))],box:=[],vec:=[(30,⟨22,1,rowsF (slRow (iRow .i64)) s.2⟩)]}:St)) hI1 (wk (by simp[wkI])) fun G1 s o1 h1 hg1 he1=>?_)
  obtain⟨i,w⟩:=s
  unfold copies_Way_l0 at h1
  dsimp only at h1 ⊢
  refine kr [1,2,3,10,32,33,34,35] (by simp;rfl) ?_
  refine trq ?_
  refine trc (b:=(decide (i < (a0.Events.length:Int)))) (by simp) (fun c5=>?_) (fun c5=>?_)
  ·rw[if_pos c5] at h1
   refine trk ?_
   refine trq ?_
   refine trb ?_
   obtain⟨x,p5,h1⟩:=bnd h1
   replace p5:=idx_some p5
   have p5':=p5;try simp at p5'
   obtain⟨_,p6,h1⟩:=bnd h1
   replace p6:=ck_some p6
   obtain⟨p6a,p6b⟩:=p6
   have p6c:x.Place < (w.length:Int):=by omega
   obtain⟨rw1,p7,h1⟩:=bnd h1
   replace p7:=idx_some p7
   have p7':=p7;try simp at p7'
   refine kr [1,2,3,10,11,12,32,33,34] (by simp[p5,p5'];rfl) ?_
   refine tr_frzB 12 (api_Access_av x) (api_Access_row x) (by simp) (by simp) hK (by decide) (fun i hi=>absurd hi (Nat.not_lt_zero i)) ?_
   refine kr [1,2,3,10,11,12,13,32,33,34] (by simp (maxSteps:=1000000) [-getElem?_pos,List.getElem?_cons_zero,List.getElem?_cons_succ,slRow,p6a,p6c,p7,p7'];rfl) ?_
   refine trb ?_
   refine kr [1,2,3,10,11,12,13,32,33,34,46] (by simp;rfl) ?_
   refine trc (b:=(decide (a3 < x.Time))) (by simp) (fun c6=>?_) (fun c6=>?_)
   ·rw[if_pos c6] at h1
    refine trk ?_
    refine lr (by simp;rfl) ?_
    exact⟨_,hg1 _ (Option.some.inj h1),wk (by simp[wkI])⟩
   rw[if_neg (by rw[c6];decide)] at h1
   refine sjv (fun _:Unit=>({ nt:=126,env:=[(1,.d (.int .i64 a1)),(2,.d (.int .i64 a2)),(3,.d (.int .i64 a3)),(10,.vec 30),(11,.d (.int .i64 i)),(12,.cptr (api_Access_row x) 0),(13,.d (.bool (decide (0 < (rw1.length:Int))))),(32,.d (.slice (rowsF api_Access_row a0.Events))),(33,.d (.int .i64 (a0.Events.length:Int))),(34,.d (.int .i64 i)),(51,.d (.bool (x.Kind==5&&(x.Content==a1&& !(decide (0 < (rw1.length:Int)))))))],box:=[],vec:=[(30,⟨22,1,rowsF (slRow (iRow .i64)) w⟩)]}:St)) (fun _=>True) (fun _ _=>?_) ?_
   case refine_2=>
    refine kc1 ?_
    refine ko [1,2,3,10,11,12,13,32,33,34,55] 4 (by simp;rfl) ?_
    refine tops_split 55 (x.Kind==5) (by simp) (fun c7=>?_) (fun c7=>?_)
    ·refine ko [1,2,3,10,11,12,13,32,33,34,61] 6 (by simp;rfl) ?_
     refine tops_split 61 (x.Content==a1) (by simp) (fun c8=>?_) (fun c8=>?_)
     ·refine ko [1,2,3,10,11,12,13,32,33,34,51] 4 (by simp;rfl) ?_
      exact tpN ⟨(),trivial,wk (by simp[wkI,c7,c8])⟩
     ·refine kskip 2 [] (by kernel_rfl) ?_
      refine ko [1,2,3,10,11,12,13,32,33,34,51] 2 (by simp;rfl) ?_
      exact tpN ⟨(),trivial,wk (by simp[wkI,c7,c8])⟩
    ·refine kskip 4 [] (by kernel_rfl) ?_
     refine ko [1,2,3,10,11,12,13,32,33,34,61] 2 (by simp;rfl) ?_
     refine kskip 2 [] (by kernel_rfl) ?_
     refine ko [1,2,3,10,11,12,13,32,33,34,51] 2 (by simp;rfl) ?_
     exact tpN ⟨(),trivial,wk (by simp[wkI,c7])⟩
   refine trc (b:=(x.Kind==5&&(x.Content==a1&& !(decide (0 < (rw1.length:Int)))))) (by simp) (fun c7=>?_) (fun c7=>?_)
   ·rw[if_pos c7] at h1
    refine kc1 ?_
    refine ko [1,2,3,10,32,33,34,69,70] 6 (by simp (maxSteps:=1000000) [-getElem?_pos,List.getElem?_cons_zero,List.getElem?_cons_succ,p6a,p6c];rfl) ?_
    refine tops_frz 69 ?_
    refine ko [1,2,3,10,32,33,34] 1 (by simp (maxSteps:=1000000) [-getElem?_pos,List.getElem?_cons_zero,List.getElem?_cons_succ,p7,p7',slRow];rfl) ?_
    refine tpN ?_
    refine lr (by simp;rfl) ?_
    exact⟨_,hg1 _ (Option.some.inj h1),wk (by simp[wkI,rowsF_set,slRow,rowsF,iRow])⟩
   rw[if_neg (by rw[c7];decide)] at h1
   refine sjv (fun _:Unit=>({ nt:=126,env:=[(1,.d (.int .i64 a1)),(2,.d (.int .i64 a2)),(3,.d (.int .i64 a3)),(10,.vec 30),(11,.d (.int .i64 i)),(12,.cptr (api_Access_row x) 0),(13,.d (.bool (decide (0 < (rw1.length:Int))))),(32,.d (.slice (rowsF api_Access_row a0.Events))),(33,.d (.int .i64 (a0.Events.length:Int))),(34,.d (.int .i64 i)),(71,.d (.bool (x.Kind==6&&x.Content==a1)))],box:=[],vec:=[(30,⟨22,1,rowsF (slRow (iRow .i64)) w⟩)]}:St)) (fun _=>True) (fun _ _=>?_) ?_
   case refine_2=>
    refine kc1 ?_
    refine ko [1,2,3,10,11,12,13,32,33,34,75] 4 (by simp;rfl) ?_
    refine tops_split 75 (x.Kind==6) (by simp) (fun c8=>?_) (fun c8=>?_)
    ·refine ko [1,2,3,10,11,12,13,32,33,34,71] 6 (by simp;rfl) ?_
     exact tpN ⟨(),trivial,wk (by simp[wkI,c8])⟩
    ·refine kskip 4 [] (by kernel_rfl) ?_
     refine ko [1,2,3,10,11,12,13,32,33,34,71] 2 (by simp;rfl) ?_
     exact tpN ⟨(),trivial,wk (by simp[wkI,c8])⟩
   refine trc (b:=(x.Kind==6&&x.Content==a1)) (by simp) (fun c8=>?_) (fun c8=>?_)
   ·rw[if_pos c8] at h1
    refine kc1 ?_
    refine ko [1,2,3,10,32,33,34] 5 (by simp (maxSteps:=1000000) [-getElem?_pos,List.getElem?_cons_zero,List.getElem?_cons_succ,p6a,p6c,p7,p7',slRow];rfl) ?_
    refine tpN ?_
    refine lr (by simp;rfl) ?_
    exact⟨_,hg1 _ (Option.some.inj h1),wk (by simp[wkI,rowsF_set,slRow,rowsF,iRow])⟩
   rw[if_neg (by rw[c8];decide)] at h1
   have fin0:∀st:St,Wk st ({ nt:=126,env:=[(1,.d (.int .i64 a1)),(2,.d (.int .i64 a2)),(3,.d (.int .i64 a3)),(10,.vec 30),(32,.d (.slice (rowsF api_Access_row a0.Events))),(33,.d (.int .i64 (a0.Events.length:Int))),(34,.d (.int .i64 (IntKind.i64.wrap (i+1))))],box:=[],vec:=[(30,⟨22,1,rowsF (slRow (iRow .i64)) w⟩)]}:St)→some (Lp.go (ε:=List (List Int)) (IntKind.i64.wrap (i+1),w))=some o1→∃s',G1 s'∧Wk st ({ nt:=126,env:=[(1,.d (.int .i64 a1)),(2,.d (.int .i64 a2)),(3,.d (.int .i64 a3)),(10,.vec 30),(32,.d (.slice (rowsF api_Access_row a0.Events))),(33,.d (.int .i64 (a0.Events.length:Int))),(34,.d (.int .i64 s'.1))],box:=[],vec:=[(30,⟨22,1,rowsF (slRow (iRow .i64)) s'.2⟩)]}:St):=fun st W h=>⟨_,hg1 _ (Option.some.inj h),W⟩
   refine kc ?_
   refine ko [1,2,3,10,11,12,13,32,33,34,89] 4 (by simp;rfl) ?_
   refine tops_split 89 (x.Kind==7) (by simp) (fun c9=>?_) (fun c9=>?_)
   ·refine ko [1,2,3,10,11,12,13,32,33,34,93] 4 (by simp;rfl) ?_
    refine tops_split 93 (!(decide (0 < (rw1.length:Int)))) (by simp) (fun c10=>?_) (fun c10=>?_)
    ·rw[if_pos (by rw[c9,c10];rfl)] at h1
     obtain⟨_,p9,h1⟩:=bnd h1
     replace p9:=ck_some p9
     obtain⟨p9a,p9b⟩:=p9
     have p9c:x.From < (w.length:Int):=by omega
     obtain⟨fr,p10,h1⟩:=bnd h1
     replace p10:=idx_some p10
     have p10':=p10;try simp at p10'
     refine ko [1,2,3,10,11,12,13,32,33,34,85] 9 (by simp (maxSteps:=1000000) [-getElem?_pos,List.getElem?_cons_zero,List.getElem?_cons_succ,slRow,p9a,p9c,p10,p10'];rfl) ?_
     refine tpN ?_
     refine trc (b:=(decide (0 < (fr.length:Int)))) (by simp) (fun c11=>?_) (fun c11=>?_)
     ·rw[if_pos c11] at h1
      obtain⟨cl,p11,h1⟩:=bnd h1
      obtain⟨_,p12,h1⟩:=bnd h1
      replace p12:=ck_some p12
      have p12':=p12;try simp at p12'
      refine kheld1 (S0:=({ nt:=126,env:=[(1,.d (.int .i64 a1)),(2,.d (.int .i64 a2)),(3,.d (.int .i64 a3)),(10,.vec 30),(32,.d (.slice (rowsF api_Access_row a0.Events))),(33,.d (.int .i64 (a0.Events.length:Int))),(34,.d (.int .i64 i))],box:=[],vec:=[(30,⟨22,1,rowsF (slRow (iRow .i64)) (w.set (Int.toNat x.Place) (cl++[i]))⟩)]}:St)) [0,1,2,3,4,5,9] 7 (by simpa using hK) fol (by decide +kernel) rfl rfl rfl (by simp[stillsL,stillB,pureP,pureB];rfl) (fun K' S F C=>?_) (fun s hs=>?_)
      ·refine ho_pure C 6 rfl (by decide +kernel) (by decide +kernel) (by simp[pureP,pureB]) (by simp[p9a,p9c];rfl) ?_
       refine ho_allT C [7,10] (by decide +kernel) (by decide) ?_
       refine hallT_cons rfl (sl (by simp (maxSteps:=1000000) [-getElem?_pos,List.getElem?_cons_zero,List.getElem?_cons_succ,p10,p10',slRow];rfl) ?_) (hallT_cons rfl (sl (by simp;rfl) ?_) trivial)
       ·refine ho_allT C [8,10] (by decide +kernel) (by decide) ?_
        refine hallT_cons rfl (kcallV [1,2,3,10,32,33,34,102,104,110,111] [] [] [700110] (sYClone_int_own0_ok p11) rfl rfl rfl Tryz.call28 (by simp) (by simp;rfl) (tpN ?_)) (hallT_cons rfl (sl (by simp;rfl) ?_) trivial)
        ·refine ho_allT C [10] (by decide +kernel) (by decide) ?_
         refine hallT_cons rfl (sl (by simp;rfl) ?_) trivial
         refine ho_allT C [11] (by decide +kernel) (by decide) ?_
         refine hallT_cons rfl (sl (by simp[p12,p12'];rfl) (ho_frz 113 ?_)) trivial
         refine ho_pure C 12 rfl (by decide +kernel) (by decide +kernel) (by simp[pureP,pureB]) (by simp[p6a,p6c];rfl) ?_
         refine ho_allT C [13] (by decide +kernel) (by decide) ?_
         refine hallT_cons rfl (sl (by simp (maxSteps:=1000000) [-getElem?_pos,List.getElem?_cons_zero,List.getElem?_cons_succ,p7,p7',slRow];rfl) ?_) trivial
         exact ho_end C (by decide +kernel) ⟨rfl,wkI.2 (by simp[rowsF_set,slRow,rowsF,iRow])⟩
        ·refine ho_allT C [8] (by decide +kernel) (by decide) ?_
         refine hallT_cons rfl (kcallV [1,2,3,10,32,33,34,102,104,110,112] [] [] [700110] (sYClone_int_own0_ok p11) rfl rfl rfl Tryz.call28 (by simp) (by simp;rfl) (tpN ?_)) trivial
         refine ho_allT C [11] (by decide +kernel) (by decide) ?_
         refine hallT_cons rfl (sl (by simp[p12,p12'];rfl) (ho_frz 113 ?_)) trivial
         refine ho_pure C 12 rfl (by decide +kernel) (by decide +kernel) (by simp[pureP,pureB]) (by simp[p6a,p6c];rfl) ?_
         refine ho_allT C [13] (by decide +kernel) (by decide) ?_
         refine hallT_cons rfl (sl (by simp (maxSteps:=1000000) [-getElem?_pos,List.getElem?_cons_zero,List.getElem?_cons_succ,p7,p7',slRow];rfl) ?_) trivial
         exact ho_end C (by decide +kernel) ⟨rfl,wkI.2 (by simp[rowsF_set,slRow,rowsF,iRow])⟩
       ·refine ho_allT C [7] (by decide +kernel) (by decide) ?_
        refine hallT_cons rfl (sl (by simp (maxSteps:=1000000) [-getElem?_pos,List.getElem?_cons_zero,List.getElem?_cons_succ,p10,p10',slRow];rfl) ?_) trivial
        refine ho_allT C [8] (by decide +kernel) (by decide) ?_
        refine hallT_cons rfl (kcallV [1,2,3,10,32,33,34,102,104,110,112] [] [] [700110] (sYClone_int_own0_ok p11) rfl rfl rfl Tryz.call28 (by simp) (by simp;rfl) (tpN ?_)) trivial
        refine ho_allT C [11] (by decide +kernel) (by decide) ?_
        refine hallT_cons rfl (sl (by simp[p12,p12'];rfl) (ho_frz 113 ?_)) trivial
        refine ho_pure C 12 rfl (by decide +kernel) (by decide +kernel) (by simp[pureP,pureB]) (by simp[p6a,p6c];rfl) ?_
        refine ho_allT C [13] (by decide +kernel) (by decide) ?_
        refine hallT_cons rfl (sl (by simp (maxSteps:=1000000) [-getElem?_pos,List.getElem?_cons_zero,List.getElem?_cons_succ,p7,p7',slRow];rfl) ?_) trivial
        exact ho_end C (by decide +kernel) ⟨rfl,wkI.2 (by simp[rowsF_set,slRow,rowsF,iRow])⟩
      ·refine tr_weak hs ?_
       refine lr (by simp;rfl) ?_
       exact⟨_,hg1 _ (Option.some.inj h1),wk (by simp[wkI])⟩
     ·rw[if_neg (by rw[c11];decide)] at h1
      refine trk ?_
      refine lr (by simp;rfl) ?_
      exact fin0 _ (wk (by simp[wkI])) h1
    ·rw[if_neg (by rw[c9,c10];decide)] at h1
     refine kskip 7 [] (by kernel_rfl) ?_
     refine ko [1,2,3,10,11,12,13,32,33,34,85] 2 (by simp;rfl) ?_
     refine tpN ?_
     refine trc (b:=false) (by simp) (fun c=>by cases c) (fun _=>?_)
     refine trk ?_
     refine lr (by simp;rfl) ?_
     exact fin0 _ (wk (by simp[wkI])) h1
   ·rw[if_neg (by rw[c9];simp)] at h1
    refine kskip 2 [] (by kernel_rfl) ?_
    refine ko [1,2,3,10,11,12,13,32,33,34,93] 2 (by simp;rfl) ?_
    refine kskip 7 [] (by kernel_rfl) ?_
    refine ko [1,2,3,10,11,12,13,32,33,34,85] 2 (by simp;rfl) ?_
    refine tpN ?_
    refine trc (b:=false) (by simp) (fun c=>by cases c) (fun _=>?_)
    refine trk ?_
    refine lr (by simp;rfl) ?_
    exact fin0 _ (wk (by simp[wkI])) h1
  ·rw[if_neg (by rw[c5];decide)] at h1
   refine tr_exit ?_
   exact⟨_,he1 _ (Option.some.inj h1),wk (by simp[wkI])⟩
 ·refine kc1 ?_
  obtain⟨y,hy,hv⟩:=bnd hv
  refine ko [1,2,3,4,14] 1 (by simp;rfl) ?_
  refine kcall [1,2,3,4,15] [] (access_Check_ok hy) rfl rfl rfl Tryz.call23 (by simp) (by simp;rfl) ?_
  refine ko [1,2,3,4,17] 2 (by simp;rfl) ?_
  refine tops_split 17 (y != 0) (by simp) (fun c2=>?_) (fun c2=>?_)
  ·rw[if_pos c2] at hv
   refine kskip 3 [] (by kernel_rfl) ?_
   refine ko [1,2,3,4,22] 2 (by simp;rfl) ?_
   refine kskip 4 [] (by kernel_rfl) ?_
   refine ko [1,2,3,4,27] 1 (by simp;rfl) ?_
   refine tpN ?_
   cases hv
   exact⟨_,rfl,wk (by simp[wkI])⟩
  ·rw[if_neg (by rw[c2];decide)] at hv
   obtain⟨y2,hy2,hv⟩:=bnd hv
   refine ko [1,2,3,4,17,18] 1 (by simp;rfl) ?_
   refine kcall [1,2,3,4,17,19] [] (access_Content_ok hy2) rfl rfl rfl Tryz.call24 (by simp) (by simp;rfl) ?_
   refine ko [1,2,3,4,22] 3 (by simp;rfl) ?_
   refine tops_split 22 (!y2) (by simp) (fun c3=>?_) (fun c3=>?_)
   ·rw[if_pos c3] at hv
    refine kskip 4 [] (by kernel_rfl) ?_
    refine ko [1,2,3,4,27] 1 (by simp;rfl) ?_
    refine tpN ?_
    cases hv
    exact⟨_,rfl,wk (by simp[wkI])⟩
   ·rw[if_neg (by rw[c3];decide)] at hv
    obtain⟨y3,hy3,hv⟩:=bnd hv
    refine ko [1,2,3,4,22,23,24] 2 (by simp;rfl) ?_
    refine kcall [1,2,3,4,22,25] [] (access_Place_ok hy3) rfl rfl rfl Tryz.call27 (by simp) (by simp;rfl) ?_
    refine ko [1,2,3,4,27] 2 (by simp;rfl) ?_
    refine tpN ?_
    cases hv
    exact⟨_,rfl,wk (by simp[wkI])⟩
end Go.Vl
namespace Go.Proofs
open Go.Shelf
def Tryz.insRen:Go.Shelf.Ren:=⟨fun |21=>62 |27=>78 |28=>79 |35=>90 |39=>102 |n=>n,fun n=>n,fun n=>n⟩
theorem Tryz.ins:Go.Proofs.Lays2.n21 Tryz.prog Tryz.insRen:={
 mixed:=by kernel_rfl
 f21:=Tryz.func62.trans (congrArg some (by kernel_rfl))
 f27:=Tryz.func78.trans (congrArg some (by kernel_rfl))
 f28:=Tryz.func79.trans (congrArg some (by kernel_rfl))
 f35:=Tryz.func90.trans (congrArg some (by kernel_rfl))
 f39:=Tryz.func102.trans (congrArg some (by kernel_rfl))
 t0:=Tryz.underlying0
 a0:=Tryz.isAgg0
 z0:=Tryz.sizeOf0
 v0:=Tryz.zeroValue0
 t3:=Tryz.underlying3
 a3:=Tryz.isAgg3
 z3:=Tryz.sizeOf3
 v3:=Tryz.zeroValue3
 t4:=Tryz.underlying4
 a4:=Tryz.isAgg4
 z4:=Tryz.sizeOf4
 v4:=Tryz.zeroValue4
 t22:=Tryz.underlying22
 a22:=Tryz.isAgg22
 z22:=Tryz.sizeOf22
 v22:=Tryz.zeroValue22
 i3:=by kernel_rfl }
end Go.Proofs
namespace Go.Vl
open Go Go.Proofs
theorem sYInsert_ok {l:List Int} {x:Int} (h0:l≠[]) (h1:l.length≤268435455):FnOKv Tryz.prog 62 [] [⟨3,1,rowsF (iRow .i64) l⟩,⟨3,1,rowsF (iRow .i64) [x]⟩] [.vec (InV 0),.d (.int .i64 0),.vec (InV 1)] (.vec (InV 0)) [] [⟨3,1,rowsF (iRow .i64) (x::l)⟩]:=
 insert_row (fun b n c vb vc cs vs w a1 a2 a3 a4 a5 a6 a7 a8 a9 a10 a11 a12 tA tB kA kB a13 a14 a15 a16 a17=>Any2.slices_Insert_int_shift Tryz.ins b 0 n c 0 vb 0 1 vc cs vs w a1 Nat.one_pos a2 a3 a4 a5 a6 a7 a8 a9 a10 a11 a12 tA tB kA kB a13 a14 a15 a16 a17)
  (fun b n c vb vc cs vs w a1 a2 a3 a4 a5 a6 a7 a8 a9 a10=>Any2.slices_Insert_int_grow Tryz.ins b 0 n c 0 vb 0 1 vc cs vs w a1 Nat.one_pos a2 a3 a4 a5 a6 a7 a8 a9 a10) l x h0 h1
end Go.Vl
namespace Go.Vl
open Go Go.Proofs
noncomputable def directory_Why_l1 (k:Nat) (q:Int) (row:List Bool) (s:Int×List Int×List Int):Option (Lp (Int×List Int×List Int) (List Int×List Int)):=
 if(decide (s.1 < ((row).length:Int)))=true then
  (idx row s.1).bind fun x=>
  Option.bind (
   if x=true then
    (ck (0≤s.1∧(Int.toNat s.1) < (s.2.1).length)).bind fun _=>
    (idx s.2.1 s.1).bind fun y=>
    some (decide (y < 0))
   else
    some false) fun v=>
  if v=true then
   (ck (k+s.2.2.length+1≤268435456)).bind fun _=>
   (ck (0≤s.1∧(Int.toNat s.1) < (s.2.1).length)).bind fun _=>
   some (.go (IntKind.i64.wrap (s.1+1),s.2.1.set (Int.toNat s.1) q,s.2.2++[s.1]))
  else
   some (.go (IntKind.i64.wrap (s.1+1),s.2.1,s.2.2))
 else
  some (.out (s.2.1,s.2.2))
noncomputable def directory_Why_l0 (tb:List (List Bool)) (s:Nat×List Int×List Int):Option (Lp (Nat×List Int×List Int) (List Int)):=
 match s.2.2 with
 |[]=>some (.out s.2.1)
 |q::_=>
  (idx tb q).bind fun row=>
  (iter (directory_Why_l1 s.1 q row) (0,s.2.1,s.2.2)).bind fun r=>
  (ck (0 < r.2.length)).bind fun _=>
  some (.go (s.1+1,r.1,r.2.drop 1))
noncomputable def directory_Why_l2 (before:List Int) (p:Int) (out:List Int):Option (Lp (List Int) (List Int)):=
 (idx out 0).bind fun h=>
 if(h != p)=true then
  (idx before h).bind fun b=>
  (ck (out.length+1≤268435456)).bind fun _=>
  some (.go (b::out))
 else some (.out out)
noncomputable def directory_Why (a0:api_Directory) (a1 a2 a3:Int):Option (List Int×Bool):=
 (directory_In a0 a1 a2 a3).bind fun y=>
 if(!y)=true then some ([],false) else
 (directory_at a0 a3).bind fun tb=>
 (sYRepeat_int_own0 [-1] (tb.length:Int)).bind fun b0=>
 (ck (0≤a1∧(Int.toNat a1) < b0.length)).bind fun _=>
 (iter (directory_Why_l0 tb) (0,b0.set (Int.toNat a1) a1,[a1])).bind fun before=>
 (iter (directory_Why_l2 before a1) [a2]).bind fun out=>
 some (out,true)
theorem directory_Why_ok {a0:api_Directory} {a1 a2 a3:Int} {r:List Int×Bool} (h0:directory_Why a0 a1 a2 a3=some r):FnOK Tryz.prog 35 [] [.agg (api_Directory_av a0),.d (.int .i64 a1),.d (.int .i64 a2),.d (.int .i64 a3)] (.tup [.d (.slice (rowsF (iRow .i64) r.1)),.d (.bool r.2)]) []:=by
 unfold directory_Why at h0
 obtain⟨y,hy,h0⟩:=bnd h0
 refine fn_okK (nt:=88) (rs:=[.tmp 8,.tmp 9]) Tryz.func35 rfl Tryz.ntmps35 rfl (by simp) (by decide) rfl fun K hK=>?_
 refine kr [1,2,3,4] (by simp;rfl) ?_
 refine tr_frzB 4 (api_Directory_av a0) (api_Directory_row a0) (by simp) (by simp) hK (by decide) (fun i hi=>absurd hi (Nat.not_lt_zero i)) ?_
 refine trq ?_
 refine kc ?_
 refine ko [1,2,3,4,16,17,18,19] 4 (by simp;rfl) ?_
 refine kcall [1,2,3,4,20] [] (directory_In_ok hy) rfl rfl rfl Tryz.call60 (by simp) (by simp;rfl) ?_
 refine ko [1,2,3,4,21] 1 (by simp;rfl) ?_
 refine tpN ?_
 refine trc (b:=(!y)) (by simp) (fun c1=>?_) (fun c1=>?_)
 ·rw[if_pos c1] at h0
  refine kr [8,9] (by simp;rfl) ?_
  cases h0
  exact trr ⟨[],by simp,rfl,by simp⟩
 rw[if_neg (by rw[c1];decide)] at h0
 refine trk ?_
 obtain⟨tb,ht,h0⟩:=bnd h0
 obtain⟨b0,hb,h0⟩:=bnd h0
 obtain⟨_,p1,h0⟩:=bnd h0
 replace p1:=ck_some p1
 obtain⟨before,hI1,h0⟩:=bnd h0
 obtain⟨out,hI2,h0⟩:=bnd h0
 have hr:=Option.some.inj h0
 subst hr
 clear h0
 refine kc ?_
 refine ko [1,2,3,4,22,23] 2 (by simp;rfl) ?_
 refine kcall [1,2,24] [] (directory_at_ok ht) rfl rfl rfl Tryz.call44 (by simp) (by simp;rfl) ?_
 refine ko [1,2,10] 1 (by simp;rfl) ?_
 refine tpN ?_
 refine kc ?_
 refine ko [1,2,10,25,27] 3 (by simp;rfl) ?_
 refine tops_frz 25 ?_
 refine kcallV [1,2,10,28] [] [] [700028] (sYRepeat_int_own0_ok hb) rfl rfl rfl Tryz.call61 (by simp) (by simp;rfl) ?_
 refine ko [1,2,10,11] 1 (by simp;rfl) ?_
 refine tpN ?_
 obtain⟨p1a,p1b⟩:=p1
 have p1c:a1 < (b0.length:Int):=by omega
 obtain⟨x0,hx0⟩:∃x0,b0[Int.toNat a1]? =some x0:=⟨_,List.getElem?_eq_getElem p1b⟩
 refine kr [1,2,10,11] (by simp (maxSteps:=1000000) [-getElem?_pos,List.getElem?_cons_zero,List.getElem?_cons_succ,p1a,p1c,hx0];rfl) ?_
 refine trq ?_
 refine kr [1,2,10,11,12] (by simp;rfl) ?_
 refine tr_wk (wk_tocut 12 34 (S:=⟨3,1,[[.int .i64 a1]]⟩) (by simp[St.look,get]) (by simp[get])) ?_
 refine tjv (fun v:List Int=>({ nt:=88,env:=[(1,.d (.int .i64 a1)),(2,.d (.int .i64 a2)),(11,.vec 700028)],box:=[],vec:=[(700028,⟨3,1,rowsF (iRow .i64) v⟩)]}:St)) (fun v=>v=before) (fun v hv _ W1=>?_) ?_
 ·subst hv
  refine tr_wk W1 ?_
  refine kr [1,11,15] (by simp;rfl) ?_
  refine sjv (fun v:List Int=>({ nt:=88,env:=[(15,.vec 72)],box:=[],vec:=[(72,⟨3,1,rowsF (iRow .i64) v⟩)]}:St)) (fun v=>v=out) (fun v hv=>?_) ?_
  ·subst hv
   refine kr [8,9] (by simp;rfl) ?_
   exact trr ⟨[72],by simp,rfl,by simp⟩
  refine trb (tr_iter (fun o:List Int=>({ nt:=88,env:=[(1,.d (.int .i64 a1)),(11,.vec 700028),(15,.vec 72)],box:=[],vec:=[(700028,⟨3,1,rowsF (iRow .i64) v⟩),(72,⟨3,1,rowsF (iRow .i64) o⟩)]}:St)) hI2 (wk (by simp[wkI,rowsF])) fun G3 o3 o1 h1 hg3 he3=>?_)
  unfold directory_Why_l2 at h1
  obtain⟨h,p10,h1⟩:=bnd h1
  replace p10:=idx_some p10
  have p10':=p10;try simp at p10'
  have p10n:0 < o3.length:=by
   have:=p10.2
   exact(List.getElem?_eq_some_iff.1 this).1
  refine trq ?_
  refine kr [1,11,15,77] (by simp (maxSteps:=1000000) [-getElem?_pos,List.getElem?_cons_zero,List.getElem?_cons_succ,p10,p10',p10n];rfl) ?_
  refine trc (b:=(h != a1)) (by simp) (fun c2=>?_) (fun c2=>?_)
  ·rw[if_pos c2] at h1
   refine trk ?_
   refine trb ?_
   obtain⟨b,p11,h1⟩:=bnd h1
   replace p11:=idx_some p11
   have p11':=p11;try simp at p11'
   have p11c:h < (v.length:Int):=by
    have h9:=(List.getElem?_eq_some_iff.1 p11.2).1
    have h8:=p11.1
    omega
   obtain⟨_,p12,h1⟩:=bnd h1
   replace p12:=ck_some p12
   refine kc1 ?_
   refine ko [1,11,15,78,85] 8 (by simp (maxSteps:=1000000) [-getElem?_pos,List.getElem?_cons_zero,List.getElem?_cons_succ,p10,p10',p10n,p11,p11',p11c];rfl) ?_
   refine kcallV [1,11,86] [] [72,85] [72] (sYInsert_ok (l:=o3) (x:=b) (List.length_pos_iff.1 p10n) (by omega)) rfl rfl rfl Tryz.call62 (by simp) (by simp;rfl) ?_
   refine ko [1,11,15] 1 (by simp;rfl) ?_
   refine tpN ?_
   exact⟨_,hg3 _ (Option.some.inj h1),wk (by simp[wkI])⟩
  ·rw[if_neg (by rw[c2];decide)] at h1
   refine tr_exit ?_
   exact⟨_,he3 _ (Option.some.inj h1),wk (by simp[wkI])⟩
 refine trb (tr_iterX (fun (pre:List Int) (s:Nat×List Int×List Int)=>({ nt:=88,env:=[(1,.d (.int .i64 a1)),(2,.d (.int .i64 a2)),(10,.d (.slice (rowsF (slRow bRow) tb))),(11,.vec 700028),(12,.cut 34 1 pre.length s.2.2.length)],box:=[],vec:=[(700028,⟨3,1,rowsF (iRow .i64) s.2.1⟩),(34,⟨3,1,rowsF (iRow .i64) (pre++s.2.2)⟩)]}:St)) (fun pre s=>pre.length≤s.1) (g0:=[]) (by simp) hI1 (wk (by simp[wkI,rowsF])) fun G1 pre s o hi h1 hg1 he1=>?_)
 unfold directory_Why_l0 at h1
 refine trq ?_
 obtain⟨k,bf,queue⟩:=s
 dsimp only at h1 hi ⊢
 refine kr [1,2,10,11,12,37] (by simp;rfl) ?_
 cases queue with
 |nil=>
  refine trc (b:=false) (by simp) (fun c=>by cases c) (fun _=>?_)
  refine tr_exit ?_
  exact⟨_,(he1 _ (Option.some.inj h1)),wk (by simp[wkI])⟩
 |cons q rest=>
  dsimp only at h1
  refine trc (b:=true) (by simp) (fun _=>?_) (fun c=>by cases c)
  refine trk ?_
  obtain⟨row,p3,h1⟩:=bnd h1
  replace p3:=idx_some p3
  have p3':=p3;try simp at p3'
  obtain⟨e2,hI3,h1⟩:=bnd h1
  obtain⟨_,p4,h1⟩:=bnd h1
  replace p4:=ck_some p4
  refine trq ?_
  refine trb ?_
  have hq:(pre++q::rest)[pre.length]? =some q:=by simp
  refine kr [1,2,10,11,12,45,46,47] (by simp[hq,p3,p3'];rfl) ?_
  refine tjv (fun v:List Int×List Int×List Int=>({ nt:=88,env:=[(1,.d (.int .i64 a1)),(2,.d (.int .i64 a2)),(10,.d (.slice (rowsF (slRow bRow) tb))),(11,.vec 700028),(12,.cut 34 1 v.1.length v.2.2.length)],box:=[],vec:=[(700028,⟨3,1,rowsF (iRow .i64) v.2.1⟩),(34,⟨3,1,rowsF (iRow .i64) (v.1++v.2.2)⟩)]}:St)) (fun v=>v.2=e2∧v.1.length≤k) (fun v hv _ W1=>?_) ?_
  ·obtain⟨pre',bf',queue'⟩:=v
   obtain⟨rfl,hle⟩:=hv
   dsimp only at hle h1 p4 W1 ⊢
   refine tr_wk W1 ?_
   cases queue' with
   |nil=>simp at p4
   |cons q' rest'=>
    have q1:(1:Int)≤(rest'.length:Int)+1:=by omega
    refine lr (by simp[q1];rfl) ?_
    exact⟨pre'++[q'],_,hg1 _ (Option.some.inj h1),by simp;omega,wk (by simp[wkI])⟩
  ·refine trb (tr_iterX (fun (pre:List Int) (s:Int×List Int×List Int)=>({ nt:=88,env:=[(1,.d (.int .i64 a1)),(2,.d (.int .i64 a2)),(10,.d (.slice (rowsF (slRow bRow) tb))),(11,.vec 700028),(12,.cut 34 1 pre.length s.2.2.length),(45,.d (.slice (rowsF bRow row))),(46,.d (.int .i64 (row.length:Int))),(47,.d (.int .i64 s.1))],box:=[],vec:=[(700028,⟨3,1,rowsF (iRow .i64) s.2.1⟩),(34,⟨3,1,rowsF (iRow .i64) (pre++s.2.2)⟩)]}:St)) (fun pre s=>pre.length≤k∧∃rest,s.2.2=q::rest) (g0:=pre) ⟨hi,rest,rfl⟩ hI3 (wk (by simp[wkI])) fun G2 pre2 s2 o2 hi2 h2 hg2 he2=>?_)
   unfold directory_Why_l1 at h2
   obtain⟨i2,bf2,queue2⟩:=s2
   dsimp only at h2 hi2 ⊢
   obtain⟨hi2,rest2,rfl⟩:=hi2
   refine kr [1,2,10,11,12,45,46,47,48] (by simp;rfl) ?_
   refine trq ?_
   refine trc (b:=(decide (i2 < (row.length:Int)))) (by simp) (fun c5=>?_) (fun c5=>?_)
   ·rw[if_pos c5] at h2
    refine trk ?_
    refine trq ?_
    refine trb ?_
    obtain⟨x,p5,h2⟩:=bnd h2
    replace p5:=idx_some p5
    have p5':=p5;try simp at p5'
    refine kr [1,2,10,11,12,13,14,45,46,47] (by simp[p5,p5'];rfl) ?_
    refine kc ?_
    refine ko [1,2,10,11,12,13,45,46,47,53] 2 (by simp;rfl) ?_
    obtain⟨v,hv,h2⟩:=bnd h2
    refine tops_split 53 x (by simp) (fun c8=>?_) (fun c8=>?_)
    ·rw[if_pos c8] at hv
     obtain⟨_,p9,hv⟩:=bnd hv
     replace p9:=ck_some p9
     obtain⟨p9a,p9b⟩:=p9
     have p9c:i2 < (bf2.length:Int):=by omega
     obtain⟨y2,p6,hv⟩:=bnd hv
     replace p6:=idx_some p6
     have p6':=p6;try simp at p6'
     cases hv
     refine ko [1,2,10,11,12,13,45,46,47,59] 6 (by simp (maxSteps:=1000000) [-getElem?_pos,List.getElem?_cons_zero,List.getElem?_cons_succ,p6,p6',p9a,p9c];rfl) ?_
     refine tpN ?_
     refine trc (b:=decide (y2 < 0)) (by simp) (fun c9=>?_) (fun c9=>?_)
     ·rw[if_pos c9] at h2
      obtain⟨_,p7,h2⟩:=bnd h2
      replace p7:=ck_some p7
      obtain⟨_,p8,h2⟩:=bnd h2
      replace p8:=ck_some p8
      have hq2:(pre2++q::rest2)[pre2.length]? =some q:=by simp
      simp only[List.length_cons] at p7
      refine kheldE1 (ν:=List Int) (S0:=fun pre3=>({ nt:=88,env:=[(1,.d (.int .i64 a1)),(2,.d (.int .i64 a2)),(10,.d (.slice (rowsF (slRow bRow) tb))),(11,.vec 700028),(12,.cut 34 1 pre3.length (rest2.length+2)),(45,.d (.slice (rowsF bRow row))),(46,.d (.int .i64 (row.length:Int))),(47,.d (.int .i64 i2))],box:=[],vec:=[(700028,⟨3,1,rowsF (iRow .i64) (bf2.set (Int.toNat i2) q)⟩),(34,⟨3,1,rowsF (iRow .i64) (pre3++(q::rest2++[i2]))⟩)]}:St)) (G:=fun pre3=>pre3.length≤k) [0,1,2,3,5,6] 6 (by simpa using hK) fol (by decide +kernel) rfl rfl rfl (by simp[stillsL,stillB,pureP,pureB];rfl) (fun K' S F C=>?_) (fun pre3 hg s hs=>?_)
      ·refine ho_allW [4,7] (by decide +kernel) (by decide) ⟨hstepW_T C rfl (sl (by simp[hq2];rfl) ?_),hstepW_T C rfl (sl (by simp;rfl) ?_),trivial⟩
       ·refine ho_allT C [7] (by decide +kernel) (by decide) (hallT_cons rfl (sl (by simp;rfl) ?_) trivial)
        refine ho_allT C [8] (by decide +kernel) (by decide) (hallT_cons rfl (tops_appq (x:=.tmp 65) (y:=.tmp 67) (t:=22) (e:=3) (d:=68) (n:=34) (z:=1) (lo:=pre2.length) (k:=rest2.length+1) (s:=⟨3,1,rowsF (iRow .i64) (pre2++q::rest2)⟩) (zs:=[.d (.int .i64 0)]) (ys:=[[.int .i64 i2]]) (by simp) rfl rfl (by simp) (by simp[get]) (by simp[get]) rfl rfl rfl Tryz.underlying22 (by kernel_rfl) (by decide) (by kernel_rfl) (by decide) (by simp) (by simp) (by simp) (by simp) (by omega) (by simp;omega) (tpN ?_) (tpN ?_)) trivial)
        ·refine ho_allT C [9] (by decide +kernel) (by decide) (hallT_cons rfl (sl (by simp (maxSteps:=1000000) [-getElem?_pos,List.getElem?_cons_zero,List.getElem?_cons_succ,St.appQ,p6,p6',p8,p9a,p9c];rfl) ?_) trivial)
         refine ho_allT C [10] (by decide +kernel) (by decide) (hallT_cons rfl (sl (by simp (maxSteps:=1000000) [-getElem?_pos,List.getElem?_cons_zero,List.getElem?_cons_succ,St.appQ,p6,p6',p8,p9a,p9c];rfl) ?_) trivial)
         refine ho_allT C [11] (by decide +kernel) (by decide) (hallT_cons rfl (sl (by simp (maxSteps:=1000000) [-getElem?_pos,List.getElem?_cons_zero,List.getElem?_cons_succ,St.appQ,p6,p6',p8,p9a,p9c];rfl) ?_) trivial)
         exact ho_end C (by decide +kernel) ⟨rfl,pre2,hi2,wkI.2 (by simp[rowsF])⟩
        ·refine ho_allT C [9] (by decide +kernel) (by decide) (hallT_cons rfl (sl (by simp (maxSteps:=1000000) [-getElem?_pos,List.getElem?_cons_zero,List.getElem?_cons_succ,St.appQ,p6,p6',p8,p9a,p9c];rfl) ?_) trivial)
         refine ho_allT C [10] (by decide +kernel) (by decide) (hallT_cons rfl (sl (by simp (maxSteps:=1000000) [-getElem?_pos,List.getElem?_cons_zero,List.getElem?_cons_succ,St.appQ,p6,p6',p8,p9a,p9c];rfl) ?_) trivial)
         refine ho_allT C [11] (by decide +kernel) (by decide) (hallT_cons rfl (sl (by simp (maxSteps:=1000000) [-getElem?_pos,List.getElem?_cons_zero,List.getElem?_cons_succ,St.appQ,p6,p6',p8,p9a,p9c];rfl) ?_) trivial)
         exact ho_end C (by decide +kernel) ⟨rfl,[],by simp,wkI.2 (by simp[rowsF])⟩
       ·refine ho_allW [4,8] (by decide +kernel) (by decide) ⟨hstepW_T C rfl (sl (by simp[hq2];rfl) ?_),?_,trivial⟩
        ·refine ho_allT C [8] (by decide +kernel) (by decide) (hallT_cons rfl (tops_appq (x:=.tmp 65) (y:=.tmp 67) (t:=22) (e:=3) (d:=68) (n:=34) (z:=1) (lo:=pre2.length) (k:=rest2.length+1) (s:=⟨3,1,rowsF (iRow .i64) (pre2++q::rest2)⟩) (zs:=[.d (.int .i64 0)]) (ys:=[[.int .i64 i2]]) (by simp) rfl rfl (by simp) (by simp[get]) (by simp[get]) rfl rfl rfl Tryz.underlying22 (by kernel_rfl) (by decide) (by kernel_rfl) (by decide) (by simp) (by simp) (by simp) (by simp) (by omega) (by simp;omega) (tpN ?_) (tpN ?_)) trivial)
         ·refine ho_allT C [9] (by decide +kernel) (by decide) (hallT_cons rfl (sl (by simp (maxSteps:=1000000) [-getElem?_pos,List.getElem?_cons_zero,List.getElem?_cons_succ,St.appQ,p6,p6',p8,p9a,p9c];rfl) ?_) trivial)
          refine ho_allT C [10] (by decide +kernel) (by decide) (hallT_cons rfl (sl (by simp (maxSteps:=1000000) [-getElem?_pos,List.getElem?_cons_zero,List.getElem?_cons_succ,St.appQ,p6,p6',p8,p9a,p9c];rfl) ?_) trivial)
          refine ho_allT C [11] (by decide +kernel) (by decide) (hallT_cons rfl (sl (by simp (maxSteps:=1000000) [-getElem?_pos,List.getElem?_cons_zero,List.getElem?_cons_succ,St.appQ,p6,p6',p8,p9a,p9c];rfl) ?_) trivial)
          exact ho_end C (by decide +kernel) ⟨rfl,pre2,hi2,wkI.2 (by simp[rowsF])⟩
         ·refine ho_allT C [9] (by decide +kernel) (by decide) (hallT_cons rfl (sl (by simp (maxSteps:=1000000) [-getElem?_pos,List.getElem?_cons_zero,List.getElem?_cons_succ,St.appQ,p6,p6',p8,p9a,p9c];rfl) ?_) trivial)
          refine ho_allT C [10] (by decide +kernel) (by decide) (hallT_cons rfl (sl (by simp (maxSteps:=1000000) [-getElem?_pos,List.getElem?_cons_zero,List.getElem?_cons_succ,St.appQ,p6,p6',p8,p9a,p9c];rfl) ?_) trivial)
          refine ho_allT C [11] (by decide +kernel) (by decide) (hallT_cons rfl (sl (by simp (maxSteps:=1000000) [-getElem?_pos,List.getElem?_cons_zero,List.getElem?_cons_succ,St.appQ,p6,p6',p8,p9a,p9c];rfl) ?_) trivial)
          exact ho_end C (by decide +kernel) ⟨rfl,[],by simp,wkI.2 (by simp[rowsF])⟩
        ·refine hstepW_appq_ld C (i4:=4) (t2:=3) (u:=63) (d2:=64) (i:=pre2.length) (kd:=.i64) (m:=q) (x:=.tmp 65) (y:=.tmp 67) (t:=22) (e:=3) (d:=68) (n':=34) (z:=1) (lo:=pre2.length) (k:=rest2.length+1) (s:=⟨3,1,rowsF (iRow .i64) (pre2++q::rest2)⟩) (zs:=[.d (.int .i64 0)]) (ys:=[[.int .i64 i2]]) rfl rfl (by decide +kernel) (by simp) rfl rfl (by simp) (by simp[get]) (by simp[get]) rfl rfl rfl Tryz.underlying22 (by kernel_rfl) (by decide) (by kernel_rfl) (by decide) (by simp) (by simp) (by simp) (by simp) (by omega) (by simp;omega) rfl rfl rfl (by simp) (by kernel_rfl) (by kernel_rfl) (by decide) (by simp[St.look,get]) (by rw[iflat];simp) ?_ ?_
         ·refine ho_allT C [9] (by decide +kernel) (by decide) (hallT_cons rfl (sl (by simp (maxSteps:=1000000) [-getElem?_pos,List.getElem?_cons_zero,List.getElem?_cons_succ,St.appQ,p6,p6',p8,p9a,p9c];rfl) ?_) trivial)
          refine ho_allT C [10] (by decide +kernel) (by decide) (hallT_cons rfl (sl (by simp (maxSteps:=1000000) [-getElem?_pos,List.getElem?_cons_zero,List.getElem?_cons_succ,St.appQ,p6,p6',p8,p9a,p9c];rfl) ?_) trivial)
          refine ho_allT C [11] (by decide +kernel) (by decide) (hallT_cons rfl (sl (by simp (maxSteps:=1000000) [-getElem?_pos,List.getElem?_cons_zero,List.getElem?_cons_succ,St.appQ,p6,p6',p8,p9a,p9c];rfl) ?_) trivial)
          exact ho_end C (by decide +kernel) ⟨rfl,pre2,hi2,wkI.2 (by simp[rowsF])⟩
         ·refine ho_allT C [9] (by decide +kernel) (by decide) (hallT_cons rfl (sl (by simp (maxSteps:=1000000) [-getElem?_pos,List.getElem?_cons_zero,List.getElem?_cons_succ,St.appQ,p6,p6',p8,p9a,p9c];rfl) ?_) trivial)
          refine ho_allT C [10] (by decide +kernel) (by decide) (hallT_cons rfl (sl (by simp (maxSteps:=1000000) [-getElem?_pos,List.getElem?_cons_zero,List.getElem?_cons_succ,St.appQ,p6,p6',p8,p9a,p9c];rfl) ?_) trivial)
          refine ho_allT C [11] (by decide +kernel) (by decide) (hallT_cons rfl (sl (by simp (maxSteps:=1000000) [-getElem?_pos,List.getElem?_cons_zero,List.getElem?_cons_succ,St.appQ,p6,p6',p8,p9a,p9c];rfl) ?_) trivial)
          exact ho_end C (by decide +kernel) ⟨rfl,[],by simp,wkI.2 (by simp[rowsF])⟩
      ·refine tr_weak hs ?_
       refine lr (by simp;rfl) ?_
       exact⟨pre3,_,hg2 _ (Option.some.inj h2),⟨hg,rest2++[i2],by simp⟩,wk (by simp[wkI])⟩
     ·rw[if_neg (by rw[c9];decide)] at h2
      refine trk ?_
      refine lr (by simp;rfl) ?_
      exact⟨pre2,_,hg2 _ (Option.some.inj h2),⟨hi2,rest2,rfl⟩,wk (by simp[wkI])⟩
    ·rw[if_neg (by rw[c8];decide)] at hv
     cases hv
     refine kskip 5 [] (by kernel_rfl) ?_
     refine ko [1,2,10,11,12,13,45,46,47,59] 1 (by simp;rfl) ?_
     refine tpN ?_
     refine trc (b:=false) (by simp) (fun c=>by cases c) (fun _=>?_)
     rw[if_neg (by decide)] at h2
     refine trk ?_
     refine lr (by simp;rfl) ?_
     exact⟨pre2,_,hg2 _ (Option.some.inj h2),⟨hi2,rest2,rfl⟩,wk (by simp[wkI])⟩
   ·rw[if_neg (by rw[c5];decide)] at h2
    refine tr_exit ?_
    exact⟨(pre2,bf2,q::rest2),⟨he2 _ (Option.some.inj h2),hi2⟩,wk (by simp[wkI])⟩
end Go.Vl
