/- law15.bent: its contract, by a second mirror. Conditions: none. -/
import Derived.Test.YtjnflahicimmlaaGreatGnm
import Derived.Test.YtjnflahicimmlaaGreatVmQi
import Derived.Test.YtjnflahicimmlaaGreatPlG
import Derived.Test.YtjnflahicimmlaaGreatGBw
set_option linter.unusedSimpArgs false
set_option linter.unusedVariables false
namespace Go.Vl
open Go Go.Proofs
theorem bn_lb {st:St} (h:st.lb (InO 0)=true) {k:Nat} (hk:k=1):∀i,i < k→st.lb (InO i)=true:=fun i hi=>by
 have:i=0:=by omega
 subst this;exact h
noncomputable def lYbentM_j0 (y1:Int×zT) (a1:zR) (x2:zO) (v3:(List Int)×Int×Int×(List zI)×Int×(List Int)×(List zE)):Option (zR×zT):=
 (ck (0≤y1.1∧(Int.toNat y1.1) < ((([]:List zO)++a1.Objects)).length)).bind fun _=>
 some ((⟨((([]:List zO)++a1.Objects).set (Int.toNat y1.1) (⟨v3.2.2.1,x2.Kind,x2.Data,v3.2.2.2.1,v3.2.2.2.2.1,v3.2.2.2.2.2.1,x2.Author,x2.Time⟩:zO)),v3.2.2.2.2.2.2⟩:zR),(⟨v3.1,v3.2.1⟩:zT))
noncomputable def lYbentM_l1 (s8:Int×(List Int)×Int×(List zI)):Option (Lp (Int×(List Int)×Int×(List zI)) ((List Int)×Int×(List zI))):=
 if(decide (s8.1 < ((s8.2.2.2).length:Int)))=true then
  (zT_Between (⟨s8.2.1,s8.2.2.1⟩:zT) 1 9).bind fun y9=>
  (ck (0≤s8.1∧(Int.toNat s8.1) < (s8.2.2.2).length)).bind fun _=>
  (idx s8.2.2.2 s8.1).bind fun x10=>
  some (.go (IntKind.i64.wrap (s8.1+1),y9.2.L,y9.2.at_,(s8.2.2.2.set (Int.toNat s8.1) (⟨x10.Name,y9.1⟩:zI))))
 else
  some (.out (s8.2.1,s8.2.2.1,s8.2.2.2))
noncomputable def lYbentM (a0:zT) (a1:zR):Option (zR×zT):=
 (ck ((([]:List zO)).length+(a1.Objects).length≤268435456)).bind fun _=>
 (ck ((([]:List zE)).length+(a1.Events).length≤268435456)).bind fun _=>
 (zT_Next a0 (((([]:List zO)++a1.Objects)).length:Int)).bind fun y1=>
 (ck (0≤y1.1∧(Int.toNat y1.1) < ((([]:List zO)++a1.Objects)).length)).bind fun _=>
 (idx (([]:List zO)++a1.Objects) y1.1).bind fun x2=>
 (zT_Next y1.2 9).bind fun y4=>
 if(y4.1==0)=true then
  (zT_Between y4.2 0 6).bind fun y5=>
  lYbentM_j0 y1 a1 x2 (y5.2.L,y5.2.at_,y5.1,x2.Items,x2.Tree,x2.Parents,(([]:List zE)++a1.Events))
 else
 if(y4.1==1)=true then
  (zT_Between y4.2 0 9).bind fun y6=>
  lYbentM_j0 y1 a1 x2 (y6.2.L,y6.2.at_,x2.ID,x2.Items,y6.1,x2.Parents,(([]:List zE)++a1.Events))
 else
 if(y4.1==2)=true then
  (ck ((([]:List zI)).length+(x2.Items).length≤268435456)).bind fun _=>
  (iter (lYbentM_l1) (0,y4.2.L,y4.2.at_,(([]:List zI)++x2.Items))).bind fun v7=>
  lYbentM_j0 y1 a1 x2 (v7.1,v7.2.1,x2.ID,v7.2.2,x2.Tree,x2.Parents,(([]:List zE)++a1.Events))
 else
 if(y4.1==3)=true then
  if(x2.Kind==3)=true then
   (zT_Between y4.2 1 14).bind fun y11=>
   lYbentM_j0 y1 a1 x2 (y11.2.L,y11.2.at_,x2.ID,x2.Items,x2.Tree,[y11.1],(([]:List zE)++a1.Events))
  else
   lYbentM_j0 y1 a1 x2 (y4.2.L,y4.2.at_,x2.ID,x2.Items,x2.Tree,x2.Parents,(([]:List zE)++a1.Events))
 else
 if(y4.1==4)=true then
  (zT_Between y4.2 1 3).bind fun y12=>
  (zT_Next y12.2 3).bind fun y13=>
  (idx [(⟨#[109,97,105,110]⟩:ByteArray),(⟨#[110,111,110,101]⟩:ByteArray),(⟨#[]⟩:ByteArray)] y13.1).bind fun x14=>
  (zT_Next y13.2 14).bind fun y15=>
  (zT_Next y15.2 30).bind fun y16=>
  (ck (((([]:List zE)++a1.Events)).length+([(⟨y12.1,x14,y15.1,y16.1⟩:zE)]).length≤268435456)).bind fun _=>
  lYbentM_j0 y1 a1 x2 (y16.2.L,y16.2.at_,x2.ID,x2.Items,x2.Tree,x2.Parents,((([]:List zE)++a1.Events)++[(⟨y12.1,x14,y15.1,y16.1⟩:zE)]))
 else
 if(y4.1==5)=true then
  (zT_Next y4.2 2).bind fun y17=>
  (idx [(⟨#[109,97,105,110]⟩:ByteArray),(⟨#[110,111,110,101]⟩:ByteArray)] y17.1).bind fun x18=>
  (ck (((([]:List zE)++a1.Events)).length+([(⟨2,x18,0,40⟩:zE)]).length≤268435456)).bind fun _=>
  lYbentM_j0 y1 a1 x2 (y17.2.L,y17.2.at_,x2.ID,x2.Items,x2.Tree,x2.Parents,((([]:List zE)++a1.Events)++[(⟨2,x18,0,40⟩:zE)]))
 else
 if(y4.1==6)=true then
  if(decide (0 < (((([]:List zE)++a1.Events)).length:Int)))=true then
   (zT_Next y4.2 (((([]:List zE)++a1.Events)).length:Int)).bind fun y19=>
   (zT_Between y19.2 (-1) 9).bind fun y20=>
   (ck (0≤y19.1∧(Int.toNat y19.1) < ((([]:List zE)++a1.Events)).length)).bind fun _=>
   (idx (([]:List zE)++a1.Events) y19.1).bind fun x21=>
   lYbentM_j0 y1 a1 x2 (y20.2.L,y20.2.at_,x2.ID,x2.Items,x2.Tree,x2.Parents,((([]:List zE)++a1.Events).set (Int.toNat y19.1) (⟨x21.Kind,x21.Name,x21.Commit,y20.1⟩:zE)))
  else
   lYbentM_j0 y1 a1 x2 (y4.2.L,y4.2.at_,x2.ID,x2.Items,x2.Tree,x2.Parents,(([]:List zE)++a1.Events))
 else
  lYbentM_j0 y1 a1 x2 (y4.2.L,y4.2.at_,x2.ID,x2.Items,x2.Tree,x2.Parents,(([]:List zE)++a1.Events))
set_option maxHeartbeats 1000000 in
theorem lYbentM_ok {a0:zT} {a1:zR} {r:zR×zT} (h0:lYbentM a0 a1=some r):FnOK Tryz.prog 5 [zTa a0] [.ptr (InO 0) 0,.agg (zRa a1)] (.agg (zRa r.1)) [zTa r.2]:=by
 unfold lYbentM at h0
 refine fn_okK (nt:=125) (rs:=[.cell 4 26]) Tryz.func5 rfl Tryz.ntmps5 rfl (by simp) (by decide) rfl fun K hK=>?_
 refine kr [0,3,4] (by simp;rfl) ?_
 refine tr_frzB 3 [.d (.slice (rowsF zOr a1.Objects)),.d (.slice (rowsF zEr a1.Events))] [.slice (rowsF zOr a1.Objects),.slice (rowsF zEr a1.Events)] (by simp) (by simp) hK (by decide) (bn_lb (by simp[St.lb,get,InO]) rfl) ?_
 replace h0:=bnd h0;obtain⟨_,p1,h0⟩:=h0
 replace p1:=ck_some p1
 have p1':=p1;try simp at p1'
 replace h0:=bnd h0;obtain⟨_,p2,h0⟩:=h0
 replace p2:=ck_some p2
 have p2':=p2;try simp at p2'
 refine kheldI (S0:=({ nt:=125,env:=[(0,.ptr 1000000 0),(4,.ptr 4 0),(5,.ptr 5 0)],box:=[(4,[.nilS,.nilS]),(5,[.vec 12,.vec 16]),(1000000,[.d (.slice (rowsF (iRow .i64) a0.L)),.d (.int .i64 a0.at_)])],vec:=[(12,⟨47,8,rowsF zOr (([]:List zO)++a1.Objects)⟩),(16,⟨60,4,rowsF zEr (([]:List zE)++a1.Events)⟩)]}:St)) [1,2,5,6] 7 1 (by simpa using hK) fol (by decide +kernel) rfl rfl rfl (by simp[stillsL,stillB,pureP,pureB,p1,p2,p1',p2'];rfl) (bn_lb (by simp[St.lb,get,InO,St.put]) rfl) (fun K' S F C=>?_) ?_
 ·
  refine ho_all C [0,4,9] (by decide +kernel) (by decide) ?_
  refine hlC rfl (by simp[p1,p2,p1',p2'];rfl) ?_ ?_
  ·
   refine ho_all C [3,4,9] (by decide +kernel) (by decide) ?_
   refine hlC rfl (by simp[p1,p2,p1',p2'];rfl) ?_ ?_
   ·
    refine ho_all C [4,9] (by decide +kernel) (by decide) ?_
    refine hlC rfl (by simp[p1,p2,p1',p2'];rfl) ?_ ?_
    ·
     refine ho_all C [7,9] (by decide +kernel) (by decide) ?_
     refine hlC rfl (by simp[p1,p2,p1',p2'];rfl) ?_ ?_
     ·
      refine ho_all C [8,9] (by decide +kernel) (by decide) ?_
      refine hlC rfl (by simp[p1,p2,p1',p2'];rfl) ?_ ?_
      ·
       refine ho_all C [9] (by decide +kernel) (by decide) ?_
       refine hlC rfl (by simp[p1,p2,p1',p2'];rfl) ?_ ?_
       ·
        refine ho_all C [10] (by decide +kernel) (by decide) ?_
        refine hlC rfl (by simp[p1,p2,p1',p2'];rfl) ?_ ?_
        ·
         exact ho_end C (by decide +kernel) ⟨rfl,wkI.2 (by simp)⟩
        exact trivial
       exact trivial
      refine hlC rfl (by simp[p1,p2,p1',p2'];rfl) ?_ ?_
      ·
       refine ho_all C [8] (by decide +kernel) (by decide) ?_
       refine hlC rfl (by simp[p1,p2,p1',p2'];rfl) ?_ ?_
       ·
        refine ho_all C [10] (by decide +kernel) (by decide) ?_
        refine hlC rfl (by simp[p1,p2,p1',p2'];rfl) ?_ ?_
        ·
         exact ho_end C (by decide +kernel) ⟨rfl,wkI.2 (by simp)⟩
        exact trivial
       exact trivial
      exact trivial
     refine hlC rfl (by simp[p1,p2,p1',p2'];rfl) ?_ ?_
     ·
      refine ho_all C [7] (by decide +kernel) (by decide) ?_
      refine hlC rfl (by simp[p1,p2,p1',p2'];rfl) ?_ ?_
      ·
       refine ho_all C [8] (by decide +kernel) (by decide) ?_
       refine hlC rfl (by simp[p1,p2,p1',p2'];rfl) ?_ ?_
       ·
        refine ho_all C [10] (by decide +kernel) (by decide) ?_
        refine hlC rfl (by simp[p1,p2,p1',p2'];rfl) ?_ ?_
        ·
         exact ho_end C (by decide +kernel) ⟨rfl,wkI.2 (by simp)⟩
        exact trivial
       exact trivial
      exact trivial
     exact trivial
    refine hlC rfl (by simp[p1,p2,p1',p2'];rfl) ?_ ?_
    ·
     refine ho_all C [4] (by decide +kernel) (by decide) ?_
     refine hlC rfl (by simp[p1,p2,p1',p2'];rfl) ?_ ?_
     ·
      refine ho_all C [7] (by decide +kernel) (by decide) ?_
      refine hlC rfl (by simp[p1,p2,p1',p2'];rfl) ?_ ?_
      ·
       refine ho_all C [8] (by decide +kernel) (by decide) ?_
       refine hlC rfl (by simp[p1,p2,p1',p2'];rfl) ?_ ?_
       ·
        refine ho_all C [10] (by decide +kernel) (by decide) ?_
        refine hlC rfl (by simp[p1,p2,p1',p2'];rfl) ?_ ?_
        ·
         exact ho_end C (by decide +kernel) ⟨rfl,wkI.2 (by simp)⟩
        exact trivial
       exact trivial
      exact trivial
     exact trivial
    exact trivial
   refine hlC rfl (by simp[p1,p2,p1',p2'];rfl) ?_ ?_
   ·
    refine ho_all C [3,9] (by decide +kernel) (by decide) ?_
    refine hlC rfl (by simp[p1,p2,p1',p2'];rfl) ?_ ?_
    ·
     refine ho_all C [7,9] (by decide +kernel) (by decide) ?_
     refine hlC rfl (by simp[p1,p2,p1',p2'];rfl) ?_ ?_
     ·
      refine ho_all C [8,9] (by decide +kernel) (by decide) ?_
      refine hlC rfl (by simp[p1,p2,p1',p2'];rfl) ?_ ?_
      ·
       refine ho_all C [9] (by decide +kernel) (by decide) ?_
       refine hlC rfl (by simp[p1,p2,p1',p2'];rfl) ?_ ?_
       ·
        refine ho_all C [10] (by decide +kernel) (by decide) ?_
        refine hlC rfl (by simp[p1,p2,p1',p2'];rfl) ?_ ?_
        ·
         exact ho_end C (by decide +kernel) ⟨rfl,wkI.2 (by simp)⟩
        exact trivial
       exact trivial
      refine hlC rfl (by simp[p1,p2,p1',p2'];rfl) ?_ ?_
      ·
       refine ho_all C [8] (by decide +kernel) (by decide) ?_
       refine hlC rfl (by simp[p1,p2,p1',p2'];rfl) ?_ ?_
       ·
        refine ho_all C [10] (by decide +kernel) (by decide) ?_
        refine hlC rfl (by simp[p1,p2,p1',p2'];rfl) ?_ ?_
        ·
         exact ho_end C (by decide +kernel) ⟨rfl,wkI.2 (by simp)⟩
        exact trivial
       exact trivial
      exact trivial
     refine hlC rfl (by simp[p1,p2,p1',p2'];rfl) ?_ ?_
     ·
      refine ho_all C [7] (by decide +kernel) (by decide) ?_
      refine hlC rfl (by simp[p1,p2,p1',p2'];rfl) ?_ ?_
      ·
       refine ho_all C [8] (by decide +kernel) (by decide) ?_
       refine hlC rfl (by simp[p1,p2,p1',p2'];rfl) ?_ ?_
       ·
        refine ho_all C [10] (by decide +kernel) (by decide) ?_
        refine hlC rfl (by simp[p1,p2,p1',p2'];rfl) ?_ ?_
        ·
         exact ho_end C (by decide +kernel) ⟨rfl,wkI.2 (by simp)⟩
        exact trivial
       exact trivial
      exact trivial
     exact trivial
    refine hlC rfl (by simp[p1,p2,p1',p2'];rfl) ?_ ?_
    ·
     refine ho_all C [3] (by decide +kernel) (by decide) ?_
     refine hlC rfl (by simp[p1,p2,p1',p2'];rfl) ?_ ?_
     ·
      refine ho_all C [7] (by decide +kernel) (by decide) ?_
      refine hlC rfl (by simp[p1,p2,p1',p2'];rfl) ?_ ?_
      ·
       refine ho_all C [8] (by decide +kernel) (by decide) ?_
       refine hlC rfl (by simp[p1,p2,p1',p2'];rfl) ?_ ?_
       ·
        refine ho_all C [10] (by decide +kernel) (by decide) ?_
        refine hlC rfl (by simp[p1,p2,p1',p2'];rfl) ?_ ?_
        ·
         exact ho_end C (by decide +kernel) ⟨rfl,wkI.2 (by simp)⟩
        exact trivial
       exact trivial
      exact trivial
     exact trivial
    exact trivial
   refine hlC rfl (by simp[p1,p2,p1',p2'];rfl) ?_ ?_
   ·
    refine ho_all C [3,4] (by decide +kernel) (by decide) ?_
    refine hlC rfl (by simp[p1,p2,p1',p2'];rfl) ?_ ?_
    ·
     refine ho_all C [4] (by decide +kernel) (by decide) ?_
     refine hlC rfl (by simp[p1,p2,p1',p2'];rfl) ?_ ?_
     ·
      refine ho_all C [7] (by decide +kernel) (by decide) ?_
      refine hlC rfl (by simp[p1,p2,p1',p2'];rfl) ?_ ?_
      ·
       refine ho_all C [8] (by decide +kernel) (by decide) ?_
       refine hlC rfl (by simp[p1,p2,p1',p2'];rfl) ?_ ?_
       ·
        refine ho_all C [10] (by decide +kernel) (by decide) ?_
        refine hlC rfl (by simp[p1,p2,p1',p2'];rfl) ?_ ?_
        ·
         exact ho_end C (by decide +kernel) ⟨rfl,wkI.2 (by simp)⟩
        exact trivial
       exact trivial
      exact trivial
     exact trivial
    refine hlC rfl (by simp[p1,p2,p1',p2'];rfl) ?_ ?_
    ·
     refine ho_all C [3] (by decide +kernel) (by decide) ?_
     refine hlC rfl (by simp[p1,p2,p1',p2'];rfl) ?_ ?_
     ·
      refine ho_all C [7] (by decide +kernel) (by decide) ?_
      refine hlC rfl (by simp[p1,p2,p1',p2'];rfl) ?_ ?_
      ·
       refine ho_all C [8] (by decide +kernel) (by decide) ?_
       refine hlC rfl (by simp[p1,p2,p1',p2'];rfl) ?_ ?_
       ·
        refine ho_all C [10] (by decide +kernel) (by decide) ?_
        refine hlC rfl (by simp[p1,p2,p1',p2'];rfl) ?_ ?_
        ·
         exact ho_end C (by decide +kernel) ⟨rfl,wkI.2 (by simp)⟩
        exact trivial
       exact trivial
      exact trivial
     exact trivial
    exact trivial
   exact trivial
  refine hlC rfl (by simp[p1,p2,p1',p2'];rfl) ?_ ?_
  ·
   refine ho_all C [0,9] (by decide +kernel) (by decide) ?_
   refine hlC rfl (by simp[p1,p2,p1',p2'];rfl) ?_ ?_
   ·
    refine ho_all C [3,9] (by decide +kernel) (by decide) ?_
    refine hlC rfl (by simp[p1,p2,p1',p2'];rfl) ?_ ?_
    ·
     refine ho_all C [7,9] (by decide +kernel) (by decide) ?_
     refine hlC rfl (by simp[p1,p2,p1',p2'];rfl) ?_ ?_
     ·
      refine ho_all C [8,9] (by decide +kernel) (by decide) ?_
      refine hlC rfl (by simp[p1,p2,p1',p2'];rfl) ?_ ?_
      ·
       refine ho_all C [9] (by decide +kernel) (by decide) ?_
       refine hlC rfl (by simp[p1,p2,p1',p2'];rfl) ?_ ?_
       ·
        refine ho_all C [10] (by decide +kernel) (by decide) ?_
        refine hlC rfl (by simp[p1,p2,p1',p2'];rfl) ?_ ?_
        ·
         exact ho_end C (by decide +kernel) ⟨rfl,wkI.2 (by simp)⟩
        exact trivial
       exact trivial
      refine hlC rfl (by simp[p1,p2,p1',p2'];rfl) ?_ ?_
      ·
       refine ho_all C [8] (by decide +kernel) (by decide) ?_
       refine hlC rfl (by simp[p1,p2,p1',p2'];rfl) ?_ ?_
       ·
        refine ho_all C [10] (by decide +kernel) (by decide) ?_
        refine hlC rfl (by simp[p1,p2,p1',p2'];rfl) ?_ ?_
        ·
         exact ho_end C (by decide +kernel) ⟨rfl,wkI.2 (by simp)⟩
        exact trivial
       exact trivial
      exact trivial
     refine hlC rfl (by simp[p1,p2,p1',p2'];rfl) ?_ ?_
     ·
      refine ho_all C [7] (by decide +kernel) (by decide) ?_
      refine hlC rfl (by simp[p1,p2,p1',p2'];rfl) ?_ ?_
      ·
       refine ho_all C [8] (by decide +kernel) (by decide) ?_
       refine hlC rfl (by simp[p1,p2,p1',p2'];rfl) ?_ ?_
       ·
        refine ho_all C [10] (by decide +kernel) (by decide) ?_
        refine hlC rfl (by simp[p1,p2,p1',p2'];rfl) ?_ ?_
        ·
         exact ho_end C (by decide +kernel) ⟨rfl,wkI.2 (by simp)⟩
        exact trivial
       exact trivial
      exact trivial
     exact trivial
    refine hlC rfl (by simp[p1,p2,p1',p2'];rfl) ?_ ?_
    ·
     refine ho_all C [3] (by decide +kernel) (by decide) ?_
     refine hlC rfl (by simp[p1,p2,p1',p2'];rfl) ?_ ?_
     ·
      refine ho_all C [7] (by decide +kernel) (by decide) ?_
      refine hlC rfl (by simp[p1,p2,p1',p2'];rfl) ?_ ?_
      ·
       refine ho_all C [8] (by decide +kernel) (by decide) ?_
       refine hlC rfl (by simp[p1,p2,p1',p2'];rfl) ?_ ?_
       ·
        refine ho_all C [10] (by decide +kernel) (by decide) ?_
        refine hlC rfl (by simp[p1,p2,p1',p2'];rfl) ?_ ?_
        ·
         exact ho_end C (by decide +kernel) ⟨rfl,wkI.2 (by simp)⟩
        exact trivial
       exact trivial
      exact trivial
     exact trivial
    exact trivial
   refine hlC rfl (by simp[p1,p2,p1',p2'];rfl) ?_ ?_
   ·
    refine ho_all C [0] (by decide +kernel) (by decide) ?_
    refine hlC rfl (by simp[p1,p2,p1',p2'];rfl) ?_ ?_
    ·
     refine ho_all C [3] (by decide +kernel) (by decide) ?_
     refine hlC rfl (by simp[p1,p2,p1',p2'];rfl) ?_ ?_
     ·
      refine ho_all C [7] (by decide +kernel) (by decide) ?_
      refine hlC rfl (by simp[p1,p2,p1',p2'];rfl) ?_ ?_
      ·
       refine ho_all C [8] (by decide +kernel) (by decide) ?_
       refine hlC rfl (by simp[p1,p2,p1',p2'];rfl) ?_ ?_
       ·
        refine ho_all C [10] (by decide +kernel) (by decide) ?_
        refine hlC rfl (by simp[p1,p2,p1',p2'];rfl) ?_ ?_
        ·
         exact ho_end C (by decide +kernel) ⟨rfl,wkI.2 (by simp)⟩
        exact trivial
       exact trivial
      exact trivial
     exact trivial
    exact trivial
   exact trivial
  refine hlC rfl (by simp[p1,p2,p1',p2'];rfl) ?_ ?_
  ·
   refine ho_all C [0,4] (by decide +kernel) (by decide) ?_
   refine hlC rfl (by simp[p1,p2,p1',p2'];rfl) ?_ ?_
   ·
    refine ho_all C [3,4] (by decide +kernel) (by decide) ?_
    refine hlC rfl (by simp[p1,p2,p1',p2'];rfl) ?_ ?_
    ·
     refine ho_all C [4] (by decide +kernel) (by decide) ?_
     refine hlC rfl (by simp[p1,p2,p1',p2'];rfl) ?_ ?_
     ·
      refine ho_all C [7] (by decide +kernel) (by decide) ?_
      refine hlC rfl (by simp[p1,p2,p1',p2'];rfl) ?_ ?_
      ·
       refine ho_all C [8] (by decide +kernel) (by decide) ?_
       refine hlC rfl (by simp[p1,p2,p1',p2'];rfl) ?_ ?_
       ·
        refine ho_all C [10] (by decide +kernel) (by decide) ?_
        refine hlC rfl (by simp[p1,p2,p1',p2'];rfl) ?_ ?_
        ·
         exact ho_end C (by decide +kernel) ⟨rfl,wkI.2 (by simp)⟩
        exact trivial
       exact trivial
      exact trivial
     exact trivial
    refine hlC rfl (by simp[p1,p2,p1',p2'];rfl) ?_ ?_
    ·
     refine ho_all C [3] (by decide +kernel) (by decide) ?_
     refine hlC rfl (by simp[p1,p2,p1',p2'];rfl) ?_ ?_
     ·
      refine ho_all C [7] (by decide +kernel) (by decide) ?_
      refine hlC rfl (by simp[p1,p2,p1',p2'];rfl) ?_ ?_
      ·
       refine ho_all C [8] (by decide +kernel) (by decide) ?_
       refine hlC rfl (by simp[p1,p2,p1',p2'];rfl) ?_ ?_
       ·
        refine ho_all C [10] (by decide +kernel) (by decide) ?_
        refine hlC rfl (by simp[p1,p2,p1',p2'];rfl) ?_ ?_
        ·
         exact ho_end C (by decide +kernel) ⟨rfl,wkI.2 (by simp)⟩
        exact trivial
       exact trivial
      exact trivial
     exact trivial
    exact trivial
   refine hlC rfl (by simp[p1,p2,p1',p2'];rfl) ?_ ?_
   ·
    refine ho_all C [0] (by decide +kernel) (by decide) ?_
    refine hlC rfl (by simp[p1,p2,p1',p2'];rfl) ?_ ?_
    ·
     refine ho_all C [3] (by decide +kernel) (by decide) ?_
     refine hlC rfl (by simp[p1,p2,p1',p2'];rfl) ?_ ?_
     ·
      refine ho_all C [7] (by decide +kernel) (by decide) ?_
      refine hlC rfl (by simp[p1,p2,p1',p2'];rfl) ?_ ?_
      ·
       refine ho_all C [8] (by decide +kernel) (by decide) ?_
       refine hlC rfl (by simp[p1,p2,p1',p2'];rfl) ?_ ?_
       ·
        refine ho_all C [10] (by decide +kernel) (by decide) ?_
        refine hlC rfl (by simp[p1,p2,p1',p2'];rfl) ?_ ?_
        ·
         exact ho_end C (by decide +kernel) ⟨rfl,wkI.2 (by simp)⟩
        exact trivial
       exact trivial
      exact trivial
     exact trivial
    exact trivial
   exact trivial
  exact trivial
 ·
  refine kc ?_
  refine ko [0,4,5,18,21] 4 (by simp;rfl) ?_
  replace h0:=bnd h0;obtain⟨y1,hy1,h0⟩:=h0
  refine kcall [0,4,5,22] [1000000] (zT_Next_ok hy1) rfl rfl rfl Tryz.call12 (by simp) (by simp;rfl) ?_
  refine ko [0,4,5,6] 1 (by simp;rfl) ?_
  refine tpN ?_
  replace h0:=bnd h0;obtain⟨_,p4,h0⟩:=h0
  replace p4:=ck_some p4
  have p4':=p4;try simp at p4'
  have p4o:y1.1 < ((((([]:List zO)++a1.Objects))).length:Int):=by omega
  have p4o':=p4o;try simp at p4o'
  replace h0:=bnd h0;obtain⟨x2,p5,h0⟩:=h0
  replace p5:=idx_some p5
  have p5':=p5;try simp at p5'
  refine kr [0,4,5,6,7] (by simp[-getElem?_pos,List.getElem?_cons_zero,List.getElem?_cons_succ,p4,p4o,p4o',p5,p4',p5'];rfl) ?_
  refine sjv (fun v3:(List Int)×Int×Int×(List zI)×Int×(List Int)×(List zE)=>({ nt:=125,env:=[(4,.ptr 4 0),(5,.ptr 5 0),(6,.d (.int .i64 y1.1)),(7,.ptr 7 0)],box:=[(4,[.nilS,.nilS]),(5,[.vec 12,.vec 16]),(7,[.d (.int .i64 v3.2.2.1),.d (.int .i64 x2.Kind),.d (.slice (rowsF (iRow .u8) x2.Data)),.d (.slice (rowsF zIr v3.2.2.2.1)),.d (.int .i64 v3.2.2.2.2.1),.d (.slice (rowsF (iRow .i64) v3.2.2.2.2.2.1)),.d (.str x2.Author),.d (.int .i64 x2.Time)]),(1000000,[.d (.slice (rowsF (iRow .i64) v3.1)),.d (.int .i64 v3.2.1)])],vec:=[(12,⟨47,8,rowsF zOr (([]:List zO)++a1.Objects)⟩),(16,⟨60,4,rowsF zEr v3.2.2.2.2.2.2⟩)]}:St)) (fun v3=>lYbentM_j0 y1 a1 x2 v3=some r) (fun v3 h0=>?_) ?_
  ·unfold lYbentM_j0 at h0
   replace h0:=bnd h0;obtain⟨_,p44,h0⟩:=h0
   replace p44:=ck_some p44
   have p44':=p44;try simp at p44'
   have p44o:y1.1 < ((((([]:List zO)++a1.Objects))).length:Int):=by omega
   have p44o':=p44o;try simp at p44o'
   refine kr [4,5] (by simp[-getElem?_pos,List.getElem?_cons_zero,List.getElem?_cons_succ,p44,p44o,p44o',p5,(List.getElem?_eq_some_iff.1 p5.2).1,p44',p5'];rfl) ?_
   refine kr [4] (by simp;rfl) ?_
   cases h0
   exact trr ⟨[12,16],by simp,rfl,by simp⟩
  ·refine kc ?_
   refine ko [0,4,5,6,7,28] 1 (by simp;rfl) ?_
   replace h0:=bnd h0;obtain⟨y4,hy4,h0⟩:=h0
   refine kcall [0,4,5,6,7,29] [1000000] (zT_Next_ok hy4) rfl rfl rfl Tryz.call12 (by simp) (by simp;rfl) ?_
   refine tpN ?_
   refine trb ?_
   refine kr [0,4,5,6,7,29,30] (by simp;rfl) ?_
   refine trc (b:=(y4.1==0)) (by simp) (fun c12=>?_) (fun c12=>?_)
   ·rw[if_pos c12] at h0
    refine kc1 ?_
    refine ko [4,5,6,7,32] 1 (by simp;rfl) ?_
    replace h0:=bnd h0;obtain⟨y5,hy5,h0⟩:=h0
    refine kcall [4,5,6,7,33] [1000000] (zT_Between_ok hy5) rfl rfl rfl Tryz.call26 (by simp) (by simp;rfl) ?_
    refine ko [4,5,6,7] 2 (by simp;rfl) ?_
    refine tpN ?_
    exact⟨_,h0,wk (by simp[wkI])⟩
   ·rw[if_neg (by rw[c12];decide)] at h0
    refine kr [0,4,5,6,7,29,35] (by simp;rfl) ?_
    refine trc (b:=(y4.1==1)) (by simp) (fun c13=>?_) (fun c13=>?_)
    ·rw[if_pos c13] at h0
     refine kc1 ?_
     refine ko [4,5,6,7,37] 1 (by simp;rfl) ?_
     replace h0:=bnd h0;obtain⟨y6,hy6,h0⟩:=h0
     refine kcall [4,5,6,7,38] [1000000] (zT_Between_ok hy6) rfl rfl rfl Tryz.call26 (by simp) (by simp;rfl) ?_
     refine ko [4,5,6,7] 2 (by simp;rfl) ?_
     refine tpN ?_
     exact⟨_,h0,wk (by simp[wkI])⟩
    ·rw[if_neg (by rw[c13];decide)] at h0
     refine kr [0,4,5,6,7,29,40] (by simp;rfl) ?_
     refine trc (b:=(y4.1==2)) (by simp) (fun c14=>?_) (fun c14=>?_)
     ·rw[if_pos c14] at h0
      replace h0:=bnd h0;obtain⟨_,p46,h0⟩:=h0
      replace p46:=ck_some p46
      have p46':=p46;try simp at p46'
      refine kr [0,4,5,6,7] (by simp[p46,p46'];rfl) ?_
      refine kr [0,4,5,6,7,8] (by simp;rfl) ?_
      replace h0:=bnd h0;obtain⟨e1,hI1,h0⟩:=h0
      refine tjv (fun v7:(List Int)×Int×(List zI)=>({ nt:=125,env:=[(4,.ptr 4 0),(5,.ptr 5 0),(6,.d (.int .i64 y1.1)),(7,.ptr 7 0)],box:=[(4,[.nilS,.nilS]),(5,[.vec 12,.vec 16]),(7,[.d (.int .i64 x2.ID),.d (.int .i64 x2.Kind),.d (.slice (rowsF (iRow .u8) x2.Data)),.vec 45,.d (.int .i64 x2.Tree),.d (.slice (rowsF (iRow .i64) x2.Parents)),.d (.str x2.Author),.d (.int .i64 x2.Time)]),(1000000,[.d (.slice (rowsF (iRow .i64) v7.1)),.d (.int .i64 v7.2.1)])],vec:=[(12,⟨47,8,rowsF zOr (([]:List zO)++a1.Objects)⟩),(16,⟨60,4,rowsF zEr (([]:List zE)++a1.Events)⟩),(45,⟨57,2,rowsF zIr v7.2.2⟩)]}:St)) (fun v7=>v7=e1) (fun v7 hI1e _ W1=>?_) ?_
      ·subst hI1e
       exact⟨_,h0,Wk.trans (W1) (Wk.trans (wk_frz 45) (wk (by simp[wkI])))⟩
      ·refine trb (tr_iter (fun s8:Int×(List Int)×Int×(List zI)=>({ nt:=125,env:=[(0,.ptr 1000000 0),(4,.ptr 4 0),(5,.ptr 5 0),(6,.d (.int .i64 y1.1)),(7,.ptr 7 0),(8,.d (.int .i64 s8.1))],box:=[(4,[.nilS,.nilS]),(5,[.vec 12,.vec 16]),(7,[.d (.int .i64 x2.ID),.d (.int .i64 x2.Kind),.d (.slice (rowsF (iRow .u8) x2.Data)),.vec 45,.d (.int .i64 x2.Tree),.d (.slice (rowsF (iRow .i64) x2.Parents)),.d (.str x2.Author),.d (.int .i64 x2.Time)]),(1000000,[.d (.slice (rowsF (iRow .i64) s8.2.1)),.d (.int .i64 s8.2.2.1)])],vec:=[(12,⟨47,8,rowsF zOr (([]:List zO)++a1.Objects)⟩),(16,⟨60,4,rowsF zEr (([]:List zE)++a1.Events)⟩),(45,⟨57,2,rowsF zIr s8.2.2.2⟩)]}:St)) hI1 (wk (by simp[wkI])) fun G1 s8 o1 h1 hg1 he1=>?_)
       unfold lYbentM_l1 at h1
       refine trq ?_
       refine kr [0,4,5,6,7,8,51] (by simp;rfl) ?_
       refine trc (b:=(decide (s8.1 < ((s8.2.2.2).length:Int)))) (by simp) (fun c17=>?_) (fun c17=>?_)
       ·rw[if_pos c17] at h1
        refine trk ?_
        refine trq ?_
        refine trb ?_
        refine kd1 [[],[0],[],[],[3],[1,2],[5],[0,1,2,3,4,5,6]] [4] [(1000000,[4])] none [] 7 fol (by decide +kernel) (by simp) ?_
        refine dr_go 0 2 rfl (by simp (maxSteps:=1000000);rfl) ?_
        refine dr_go 2 2 rfl (by simp (maxSteps:=1000000);rfl) ?_
        replace h1:=bnd h1;obtain⟨y9,hy9,h1⟩:=h1
        refine dr_call 4 [1000000] (zT_Between_ok hy9) rfl rfl rfl rfl rfl Tryz.call26 (by simp) ?_
        replace h1:=bnd h1;obtain⟨_,p69,h1⟩:=h1
        replace p69:=ck_some p69
        have p69':=p69;try simp at p69'
        have p69o:s8.1 < (((s8.2.2.2)).length:Int):=by omega
        have p69o':=p69o;try simp at p69o'
        refine dr_go 5 2 rfl (by simp (maxSteps:=1000000) [p69,p69o,p69o',p69'];rfl) ?_
        refine dr_end rfl ?_
        replace h1:=bnd h1;obtain⟨x10,p70,h1⟩:=h1
        replace p70:=idx_some p70
        have p70':=p70;try simp at p70'
        refine ko [0,4,5,6,7,8] 1 (by simp[-getElem?_pos,List.getElem?_cons_zero,List.getElem?_cons_succ,p70,(List.getElem?_eq_some_iff.1 p70.2).1,p70'];rfl) ?_
        refine tpN ?_
        refine lr (by simp;rfl) ?_
        exact⟨_,hg1 _ (Option.some.inj h1),wk (by simp[wkI])⟩
       ·rw[if_neg (by rw[c17];decide)] at h1
        refine tr_exit ?_
        exact⟨_,he1 _ (Option.some.inj h1),wk (by simp[wkI])⟩
     ·rw[if_neg (by rw[c14];decide)] at h0
      refine kr [0,4,5,6,7,29,61] (by simp;rfl) ?_
      refine trc (b:=(y4.1==3)) (by simp) (fun c18=>?_) (fun c18=>?_)
      ·rw[if_pos c18] at h0
       refine kr [0,4,5,6,7,65] (by simp;rfl) ?_
       refine trc (b:=(x2.Kind==3)) (by simp) (fun c19=>?_) (fun c19=>?_)
       ·rw[if_pos c19] at h0
        refine kc1 ?_
        refine ko [4,5,6,7,66] 1 (by simp;rfl) ?_
        replace h0:=bnd h0;obtain⟨y11,hy11,h0⟩:=h0
        refine kcall [4,5,6,7,67] [1000000] (zT_Between_ok hy11) rfl rfl rfl Tryz.call26 (by simp) (by simp;rfl) ?_
        refine ko [4,5,6,7] 3 (by simp;rfl) ?_
        refine tpN ?_
        exact⟨_,h0,Wk.trans (wk_frz 68) (wk (by simp[wkI]))⟩
       ·rw[if_neg (by rw[c19];decide)] at h0
        refine trk ?_
        exact⟨_,h0,wk (by simp[wkI])⟩
      ·rw[if_neg (by rw[c18];decide)] at h0
       refine kr [0,4,5,6,7,29,70] (by simp;rfl) ?_
       refine trc (b:=(y4.1==4)) (by simp) (fun c20=>?_) (fun c20=>?_)
       ·rw[if_pos c20] at h0
        refine kd1 [[],[0],[],[2],[],[],[3,5],[4,6],[6,7],[],[3,6,9],[],[3,6,10,11],[3,6,8,10,12],[3,6,10,13],[1,3,6,10,12,14],[15],[1,15,16]] [3,6,10,12,15,17] [(5,[15,17]),(1000000,[3,6,10,12,15])] (some (15,16)) [73] 18 fol (by decide +kernel) (by simp) ?_
        refine dr_go 0 2 rfl (by simp (maxSteps:=1000000);rfl) ?_
        refine dr_go 2 1 rfl (by simp (maxSteps:=1000000);rfl) ?_
        replace h0:=bnd h0;obtain⟨y12,hy12,h0⟩:=h0
        refine dr_call 3 [1000000] (zT_Between_ok hy12) rfl rfl rfl rfl rfl Tryz.call26 (by simp) ?_
        refine dr_go 4 2 rfl (by simp (maxSteps:=1000000);rfl) ?_
        replace h0:=bnd h0;obtain⟨y13,hy13,h0⟩:=h0
        refine dr_call 6 [1000000] (zT_Next_ok hy13) rfl rfl rfl rfl rfl Tryz.call12 (by simp) ?_
        replace h0:=bnd h0;obtain⟨x14,p75,h0⟩:=h0
        replace p75:=idx_some p75
        have p75':=p75;try simp at p75'
        have p75q:(rowsF sRow [(⟨#[109,97,105,110]⟩:ByteArray),(⟨#[110,111,110,101]⟩:ByteArray),(⟨#[]⟩:ByteArray)])[(Int.toNat y13.1)]? =some (sRow x14):=by(first |(rw [rowsF_get,p75.2];rfl) |(have q:=p75.2;simp at q;subst q;rfl))
        try simp[-getElem?_pos] at p75q
        refine dr_go 7 2 rfl (by simp (maxSteps:=1000000) [p75,p75q,p75'];rfl) ?_
        refine dr_go 9 1 rfl (by simp (maxSteps:=1000000) [p75,p75q,p75'];rfl) ?_
        replace h0:=bnd h0;obtain⟨y15,hy15,h0⟩:=h0
        refine dr_call 10 [1000000] (zT_Next_ok hy15) rfl rfl rfl rfl rfl Tryz.call12 (by simp) ?_
        refine dr_go 11 1 rfl (by simp (maxSteps:=1000000);rfl) ?_
        replace h0:=bnd h0;obtain⟨y16,hy16,h0⟩:=h0
        refine dr_call 12 [1000000] (zT_Next_ok hy16) rfl rfl rfl rfl rfl Tryz.call12 (by simp) ?_
        replace h0:=bnd h0;obtain⟨_,p76,h0⟩:=h0
        replace p76:=ck_some p76
        have p76':=p76;try simp at p76'
        refine dr_go 13 2 rfl (by simp (maxSteps:=1000000) [p76,p76'];rfl) ?_
        refine dr_go 15 2 rfl (by simp (maxSteps:=1000000) [p76,p76'];rfl) ?_
        refine dr_go 17 1 rfl (by simp (maxSteps:=1000000) [p76,p76'];rfl) ?_
        refine dr_end rfl (tpN ?_)
        exact⟨_,h0,Wk.trans (wk_ren 87 16) (wk (by simp[wkI]))⟩
       ·rw[if_neg (by rw[c20];decide)] at h0
        refine kr [0,4,5,6,7,29,89] (by simp;rfl) ?_
        refine trc (b:=(y4.1==5)) (by simp) (fun c21=>?_) (fun c21=>?_)
        ·rw[if_pos c21] at h0
         refine kd1 [[],[0],[],[],[3],[2,4],[5],[6],[7],[1,4,8],[9],[1,9,10]] [4,9,11] [(5,[9,11]),(1000000,[4,9])] (some (9,16)) [92] 12 fol (by decide +kernel) (by simp) ?_
         refine dr_go 0 2 rfl (by simp (maxSteps:=1000000);rfl) ?_
         refine dr_go 2 2 rfl (by simp (maxSteps:=1000000);rfl) ?_
         replace h0:=bnd h0;obtain⟨y17,hy17,h0⟩:=h0
         refine dr_call 4 [1000000] (zT_Next_ok hy17) rfl rfl rfl rfl rfl Tryz.call12 (by simp) ?_
         replace h0:=bnd h0;obtain⟨x18,p81,h0⟩:=h0
         replace p81:=idx_some p81
         have p81':=p81;try simp at p81'
         have p81q:(rowsF sRow [(⟨#[109,97,105,110]⟩:ByteArray),(⟨#[110,111,110,101]⟩:ByteArray)])[(Int.toNat y17.1)]? =some (sRow x18):=by(first |(rw [rowsF_get,p81.2];rfl) |(have q:=p81.2;simp at q;subst q;rfl))
         try simp[-getElem?_pos] at p81q
         replace h0:=bnd h0;obtain⟨_,p82,h0⟩:=h0
         replace p82:=ck_some p82
         have p82':=p82;try simp at p82'
         refine dr_go 5 2 rfl (by simp (maxSteps:=1000000) [p81,p81q,p82,p81',p82'];rfl) ?_
         refine dr_go 7 2 rfl (by simp (maxSteps:=1000000) [p81,p81q,p82,p81',p82'];rfl) ?_
         refine dr_go 9 2 rfl (by simp (maxSteps:=1000000) [p81,p81q,p82,p81',p82'];rfl) ?_
         refine dr_go 11 1 rfl (by simp (maxSteps:=1000000) [p81,p81q,p82,p81',p82'];rfl) ?_
         refine dr_end rfl (tpN ?_)
         exact⟨_,h0,Wk.trans (wk_ren 100 16) (wk (by simp[wkI]))⟩
        ·rw[if_neg (by rw[c21];decide)] at h0
         refine kr [0,4,5,6,7,102] (by simp;rfl) ?_
         refine trc (b:=(y4.1==6)) (by simp) (fun c22=>?_) (fun c22=>?_)
         ·rw[if_pos c22] at h0
          refine kr [0,4,5,6,7,107] (by simp;rfl) ?_
          refine trc (b:=(decide (0 < (((([]:List zE)++a1.Events)).length:Int)))) (by simp) (fun c23=>?_) (fun c23=>?_)
          ·rw[if_pos c23] at h0
           refine kd1 [[],[0],[],[],[3],[4],[2,5],[],[5,6,7],[1,5,6],[5,9],[0,1,2,3,4,5,6,7,8,9,10]] [6,8] [(1000000,[6,8])] none [] 11 fol (by decide +kernel) (by simp) ?_
           refine dr_go 0 2 rfl (by simp (maxSteps:=1000000);rfl) ?_
           refine dr_go 2 2 rfl (by simp (maxSteps:=1000000);rfl) ?_
           refine dr_go 4 2 rfl (by simp (maxSteps:=1000000);rfl) ?_
           replace h0:=bnd h0;obtain⟨y19,hy19,h0⟩:=h0
           refine dr_call 6 [1000000] (zT_Next_ok hy19) rfl rfl rfl rfl rfl Tryz.call12 (by simp) ?_
           refine dr_go 7 1 rfl (by simp (maxSteps:=1000000);rfl) ?_
           replace h0:=bnd h0;obtain⟨y20,hy20,h0⟩:=h0
           refine dr_call 8 [1000000] (zT_Between_ok hy20) rfl rfl rfl rfl rfl Tryz.call26 (by simp) ?_
           replace h0:=bnd h0;obtain⟨_,p89,h0⟩:=h0
           replace p89:=ck_some p89
           have p89':=p89;try simp at p89'
           have p89o:y19.1 < ((((([]:List zE)++a1.Events))).length:Int):=by omega
           have p89o':=p89o;try simp at p89o'
           refine dr_go 9 2 rfl (by simp (maxSteps:=1000000) [p89,p89o,p89o',p89'];rfl) ?_
           refine dr_end rfl ?_
           replace h0:=bnd h0;obtain⟨x21,p90,h0⟩:=h0
           replace p90:=idx_some p90
           have p90':=p90;try simp at p90'
           refine ko [4,5,6,7] 1 (by simp[-getElem?_pos,List.getElem?_cons_zero,List.getElem?_cons_succ,p90,(List.getElem?_eq_some_iff.1 p90.2).1,p90'];rfl) ?_
           refine tpN ?_
           exact⟨_,h0,wk (by simp[wkI])⟩
          ·rw[if_neg (by rw[c23];decide)] at h0
           refine trk ?_
           exact⟨_,h0,wk (by simp[wkI])⟩
         ·rw[if_neg (by rw[c22];decide)] at h0
          refine trk ?_
          exact⟨_,h0,wk (by simp[wkI])⟩
end Go.Vl
namespace Go.Vl
open Go Go.Proofs
theorem bentItems_iter:∀(l:List zI) (m:zT) (dn:List zI) (l':List zI) (m':zT),bentItems l m=some (l',m')→dn.length+l.length≤1000000→
  iter lYbentM_l1 ((dn.length:Int),m.L,m.at_,dn++l)=some (m'.L,m'.at_,dn++l')
 |[],m,dn,l',m',h,hl=>by
  cases h
  refine iter_out ?_
  unfold lYbentM_l1
  rw[if_neg (by simp)]
 |x::l,m,dn,l',m',h,hl=>by
  rw[List.length_cons] at hl
  unfold bentItems at h
  replace h:=bnd h;obtain⟨y,hy,h⟩:=h
  replace h:=bnd h;obtain⟨z,hz,h⟩:=h
  cases h
  have hgo:lYbentM_l1 ((dn.length:Int),m.L,m.at_,dn++x::l)=some (.go (((dn++[(⟨x.Name,y.1⟩:zI)]).length:Int),y.2.L,y.2.at_,(dn++[(⟨x.Name,y.1⟩:zI)])++l)):=by
   unfold lYbentM_l1
   simp only
   rw[if_pos (by simp;omega),show(⟨m.L,m.at_⟩:zT)=m from rfl,hy]
   simp only[Option.bind_some]
   rw[ck_t (by simp),idx_nat]
   simp only[Option.bind_some,Int.toNat_natCast]
   rw[List.getElem?_append_right (Nat.le_refl _),Nat.sub_self,List.getElem?_cons_zero]
   simp only[Option.bind_some]
   rw[w64 (by omega) (by omega)]
   simp
  rw[iter_go hgo,bentItems_iter l y.2 _ z.1 z.2 hz (by simp;omega),List.append_assoc]
  rfl
theorem bentM_of {a0:zT} {a1:zR} {r:zR×zT} (h:lYbent a0 a1=some r):lYbentM a0 a1=some r:=by
 unfold lYbent at h
 replace h:=bnd h;obtain⟨_,hsz,h⟩:=h
 replace hsz:=ck_some hsz
 obtain⟨h1,h2⟩:=hsz
 replace h:=bnd h;obtain⟨y1,hy1,h⟩:=h
 replace h:=bnd h;obtain⟨o,ho,h⟩:=h
 replace h:=bnd h;obtain⟨_,hi,h⟩:=h
 replace hi:=ck_some hi
 replace h:=bnd h;obtain⟨y2,hy2,h⟩:=h
 replace h:=bnd h;obtain⟨z,hz,h⟩:=h
 have ho':=idx_some ho
 have hlt:=(List.getElem?_eq_some_iff.1 ho'.2).1
 have hj:∀v3,lYbentM_j0 y1 a1 o v3=some ((⟨a1.Objects.set y1.1.toNat (⟨v3.2.2.1,o.Kind,o.Data,v3.2.2.2.1,v3.2.2.2.2.1,v3.2.2.2.2.2.1,o.Author,o.Time⟩:zO),v3.2.2.2.2.2.2⟩:zR),(⟨v3.1,v3.2.1⟩:zT)):=fun v3=>by
  unfold lYbentM_j0
  simp only[List.nil_append]
  rw[ck_t ⟨ho'.1,hlt⟩];rfl
 unfold lYbentM
 simp only[List.nil_append,List.length_nil,Nat.zero_add]
 rw[ck_t (by omega)]
 simp only[Option.bind_some]
 rw[ck_t (by omega)]
 simp only[Option.bind_some]
 rw[hy1]
 simp only[Option.bind_some]
 rw[ck_t ⟨ho'.1,hlt⟩]
 simp only[Option.bind_some]
 rw[ho]
 simp only[Option.bind_some]
 rw[hy2]
 simp only[Option.bind_some,hj]
 cases h
 unfold bentSw at hz
 by_cases c0:(y2.1==0)=true
 ·rw[if_pos c0] at hz ⊢
  replace hz:=bnd hz;obtain⟨y,hy,hz⟩:=hz
  cases hz
  rw[hy];rfl
 rw[if_neg c0] at hz ⊢
 by_cases c1:(y2.1==1)=true
 ·rw[if_pos c1] at hz ⊢
  replace hz:=bnd hz;obtain⟨y,hy,hz⟩:=hz
  cases hz
  rw[hy];rfl
 rw[if_neg c1] at hz ⊢
 by_cases c2:(y2.1==2)=true
 ·rw[if_pos c2] at hz ⊢
  replace hz:=bnd hz;obtain⟨y,hy,hz⟩:=hz
  cases hz
  rw[ck_t (by omega)]
  simp only[Option.bind_some]
  have:=bentItems_iter o.Items y2.2 [] y.1 y.2 hy (by simpa using hi)
  simp only[List.nil_append,List.length_nil] at this
  rw[show ((0:Int),y2.2.L,y2.2.at_,o.Items)=(((0:Nat):Int),y2.2.L,y2.2.at_,o.Items) from rfl,this];rfl
 rw[if_neg c2] at hz ⊢
 by_cases c3:(y2.1==3)=true
 ·rw[if_pos c3] at hz ⊢
  by_cases ck3:(o.Kind==3)=true
  ·rw[if_pos ck3] at hz ⊢
   replace hz:=bnd hz;obtain⟨y,hy,hz⟩:=hz
   cases hz
   rw[hy];rfl
  ·rw[if_neg ck3] at hz ⊢
   cases hz;rfl
 rw[if_neg c3] at hz ⊢
 by_cases c4:(y2.1==4)=true
 ·rw[if_pos c4] at hz ⊢
  replace hz:=bnd hz;obtain⟨u1,e1,hz⟩:=hz
  replace hz:=bnd hz;obtain⟨u2,e2,hz⟩:=hz
  replace hz:=bnd hz;obtain⟨u3,e3,hz⟩:=hz
  replace hz:=bnd hz;obtain⟨u4,e4,hz⟩:=hz
  replace hz:=bnd hz;obtain⟨u5,e5,hz⟩:=hz
  cases hz
  rw[e1]
  simp only[Option.bind_some]
  rw[e2]
  simp only[Option.bind_some]
  rw[e3]
  simp only[Option.bind_some]
  rw[e4]
  simp only[Option.bind_some]
  rw[e5]
  simp only[Option.bind_some]
  rw[ck_t (by rw[List.length_singleton];omega)];rfl
 rw[if_neg c4] at hz ⊢
 by_cases c5:(y2.1==5)=true
 ·rw[if_pos c5] at hz ⊢
  replace hz:=bnd hz;obtain⟨u1,e1,hz⟩:=hz
  replace hz:=bnd hz;obtain⟨u2,e2,hz⟩:=hz
  cases hz
  rw[e1]
  simp only[Option.bind_some]
  rw[e2]
  simp only[Option.bind_some]
  rw[ck_t (by rw[List.length_singleton];omega)];rfl
 rw[if_neg c5] at hz ⊢
 by_cases c6:(y2.1==6)=true
 ·rw[if_pos c6] at hz ⊢
  by_cases ce:(decide (0 < (a1.Events.length:Int)))=true
  ·rw[if_pos ce] at hz ⊢
   replace hz:=bnd hz;obtain⟨u1,e1,hz⟩:=hz
   replace hz:=bnd hz;obtain⟨u2,e2,hz⟩:=hz
   replace hz:=bnd hz;obtain⟨u3,e3,hz⟩:=hz
   cases hz
   have e3':=idx_some e3
   rw[e1]
   simp only[Option.bind_some]
   rw[e2]
   simp only[Option.bind_some]
   rw[ck_t ⟨e3'.1,(List.getElem?_eq_some_iff.1 e3'.2).1⟩]
   simp only[Option.bind_some]
   rw[e3];rfl
  ·rw[if_neg ce] at hz ⊢
   cases hz;rfl
 rw[if_neg c6] at hz ⊢
 cases hz;rfl
theorem rYnames_ok {a0:zR} {a1:Int} {r:List zI×Bool×Bool} (h0:rYnames a0 a1=some r):FnOK Tryz.prog 54 [] [.agg (zRa a0),.d (.int .i64 a1)] (.tup [.d (.slice (rowsF zIr r.1)),.d (.bool r.2.1),.d (.bool r.2.2)]) []:=names_ok h0
theorem rYAt_ok {a0:zR} {a1:Int} {r:List (Int×Bool)} (h0:rYAt a0 a1=some r):FnOK Tryz.prog 58 [] [.agg (zRa a0),.d (.int .i64 a1)] (.d (.mp (mTag 75 1 false false) 2 (rowsF (mRow (iRow .i64) bRow) r))) []:=at_ok (fun h=>names_ok h) h0
theorem lYbent_ok {a0:zT} {a1:zR} {r:zR×zT} (h0:lYbent a0 a1=some r):FnOK Tryz.prog 5 [zTa a0] [.ptr (InO 0) 0,.agg (zRa a1)] (.agg (zRa r.1)) [zTa r.2]:=lYbentM_ok (bentM_of h0)
end Go.Vl
namespace Go.Vl
end Go.Vl
