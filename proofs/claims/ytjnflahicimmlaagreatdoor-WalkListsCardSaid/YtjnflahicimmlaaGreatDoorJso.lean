/- slices.SortFunc at items, by their names. Conditions: none. -/
import Derived.Test.YtjnflahicimmlaaGreatDoorJs
import Derived.Test.YtjnflahicimmlaaGreatDoorTyJ
import Derived.Test.YtjnflahicimmlaaGreatDoorJsg
import Derived.Test.YtjnflahicimmlaaGreatDoorVmZz
import Derived.Test.YtjnflahicimmlaaGreatDoorPlG
import Derived.Handy
set_option maxHeartbeats 1000000
set_option linter.unusedSimpArgs false
set_option linter.unusedVariables false
namespace Go.Vl
open Go Go.Proofs Go.RowKit Go.Sort Go.Shelf
theorem N4 (s:ByteArray) (W:World):Calls Tryz.prog 98 #[.string s] W λe w'=>e=.returned (.bool false)∧∃q RR,w'=grow (W.drewN q) RR:=by
 go_enter Tryz.func98,Tryz.ntmps98
 go_wp2
 go_ret
 exact⟨rfl,0,#[],by simp[grow,World.drewN]⟩
theorem KN {W w1 w2:World} (h1:∃q RR,w1=grow (W.drewN q) RR) (h2:∃q RR,w2=grow (w1.drewN q) RR):∃q RR,w2=grow (W.drewN q) RR:=by
 obtain⟨q,os,rfl⟩:=h1;obtain⟨q2,os2,rfl⟩:=h2;refine⟨q+q2,os++os2,?_⟩;simp[grow,World.drewN,Nat.add_assoc]
def Ll (a b:ByteArray):Int:=if Op.bytesLess a.toList b.toList=true then -1 else if(!(Op.bytesLess a.toList b.toList||a.toList==b.toList))=true then 1 else 0
theorem adk (a b:ByteArray) (W:World):Calls Tryz.prog 65 #[.string a,.string b] W λe w'=>e=.returned (.int .i64 (Ll a b))∧∃q RR,w'=grow (W.drewN q) RR:=by
 go_enter Tryz.func65,Tryz.ntmps65
 go_wp2_with fail
 go_call (N4 a W) as e w1 ⟨he,xf⟩
 subst he
 go_wp2_with fail
 go_call (N4 b w1) as e w2 ⟨he,PD⟩
 subst he;have hw:=KN xf PD;clear xf PD
 go_wp2
 ·rename_i h1
  go_ret
  exact⟨by simp[Ll,h1],hw⟩
 ·have h1:Op.bytesLess a.toList b.toList=false:=by assumption
  rw[show Sem.run Tryz.prog (binOp BinOp.gtr 9 (Value.string a) (Value.string b)) w2=.ok (.bool (!(Op.bytesLess a.toList b.toList||a.toList==b.toList))) w2 from rfl]
  go_wp2
  ·have h3:(!a.toList==b.toList)=true:=by assumption
   have h2:(!(Op.bytesLess a.toList b.toList||a.toList==b.toList))=true:=by rw[h1,hZ];exact h3
   go_ret
   exact⟨by unfold Ll;rw[ah (by rw[h1];decide),ai h2];rfl,hw⟩
  ·have h3:(!a.toList==b.toList)=false:=by assumption
   have h2:(!(Op.bytesLess a.toList b.toList||a.toList==b.toList))=false:=by rw[h1,hZ];exact h3
   go_ret
   exact⟨by unfold Ll;rw[ah (by rw[h1];decide),ah (by rw[h2];decide)];rfl,hw⟩
def QC (x y:aB):Int:=Ll x.Name y.Name
theorem P' (x y:aB):XR Tryz.prog 64 aw QC x y:=by
 intro W _;show Calls Tryz.prog 64 #[.agg #[.string x.Name,.int .i64 x.ID],.agg #[.string y.Name,.int .i64 y.ID]] W _
 go_enter Tryz.func64,Tryz.ntmps64
 go_wp2_with fail
 go_call (adk x.Name y.Name _) as e w1 ⟨he,xf⟩
 subst he
 go_wp2
 go_ret
 refine⟨rfl,KN ?_ xf⟩;rw[alloc_eq_grow,alloc_eq_grow,grow_grow];exact⟨0,_,rfl⟩
theorem Bn {a b:ByteArray}:Ll a b < 0↔a.toList < b.toList:=by
 unfold Ll;rw[bytesLess_eq];by_cases h:a.toList < b.toList
 ·simp[h]
 ·simp only[h,decide_false,bz,cS,iff_false]
  split <;> decide
theorem Et (x:aB):∀d∈aw x,tK d=true:=λd hd=>by
 simp only[aw,aZ,fE,td] at hd;rcases hd with rfl |rfl <;> rfl
theorem U0 {α:Type} (f:α→aB):SWO (ltOf λx y:α=>QC (f x) (f y)):=by
 constructor
 ·intro x
  simp only[ltOf,QC,Bn,jV];exact List.lt_irrefl _
 ·intro x y z h1 h2
  simp only[ltOf,QC,Bn,bg] at *;exact List.lt_trans h1 h2
 ·intro x y z h1 h2
  simp only[ltOf,QC,Bn,jV] at *;exact λh=>by
   rw[List.not_lt] at h1 h2;exact absurd h (List.not_lt.2 (List.le_trans h2 h1))
open Classical in
noncomputable def dH (a0:List aB):Option (List aB):=
 (ck (a0.length≤268435456∧∀x∈a0,∀y∈a0,x.Name=y.Name→x=y)).bind λ_=>some (a0.mergeSort λx y=>!decide (QC y x < 0))
open Classical in
theorem km {a0 r:List aB} (h0:dH a0=some r):FO Tryz.prog 63 [] [⟨62,2,ak aw a0⟩] [.vec (wa 0),.fn 64 []] (.ia []) [] [⟨62,2,ak aw r⟩]:=by
 unfold dH at h0;obtain⟨_,h1,h0⟩:=bI h0;cases h0;obtain⟨h2,h3⟩:=bT h1;exact OY Tryz.X5 Tryz.isAgg62 Tryz.sizeOf62 Et (λ_=>rfl) QC a0 (U0 λx:{x // x∈a0}=>x.1) (λx hx y hy g1 g2=>h3 x hx y hy (by
  unfold QC at g1 g2;rw[Bn] at g1 g2;have:=List.le_antisymm (List.not_lt.1 g2) (List.not_lt.1 g1);rw[kX,kX] at this;exact ByteArray.ext (Array.toList_inj.1 this))) (enters_of Tryz.func64 (by kernel_rfl) rfl) (λx _ y _=>P' x y) h2
open Classical in
noncomputable def wx (l:List aB):List aB:=l.mergeSort λx y=>!decide (QC y x < 0)
end Go.Vl
