/- A row that lies in frozen memory of one's own, turned in its place; regions by their rules with two slots told as they were. Conditions: none. -/
import Derived.Test.YtbnfogbfphakmaaGreatDoorVmHk
import Derived.Deep.Upon
set_option linter.unusedSimpArgs false
set_option linter.unusedVariables false
namespace Go.Vl
open Go Go.RowKit
section
variable {P:Program} {K:Ctx P} {st:St} {a:Act} {w:World} {p:Pl}
theorem Nx {ops:Array Oper} {F:Exit→Act→World→Prop} {K1 K2:Act→World→Prop} {i t:Nat} {v:Value} (ho:∀o,ops[i]? =some o→o.dst≠some t) (hv:a.eval (.tmp t)=v) (hK:∀a w,a.eval (.tmp t)=v→K1 a w→K2 a w) (h:wpOp P ops F i K1 a w):
  wpOp P ops (fun e a w=>F e a w∧(e=.normal→a.eval (.tmp t)=v)) i K2 a w:=by
 unfold wpOp at h ⊢
 cases h0:ops[i]? with
 |none=>simp only[h0] at h ⊢;exact hK _ _ hv h
 |some o=>
  simp only[h0] at h ⊢
  have hd1:=ho o h0
  have hp:∀u,(a.put o.dst u).eval (.tmp t)=v:=fun u=>(eval_put_ne hd1).trans hv
  split
  ·rename_i hw
   rw[if_pos hw] at h
   rcases h with h |⟨h1,a0,w0,q⟩
   ·left
    unfold Oper.wp at h ⊢
    generalize (execOp a.eval o).run P w=r at h ⊢
    cases r with
    |ok n w'=>
     cases n <;> simp only[Oper.upon] at h ⊢
     case value u=>exact hK _ _ (hp _) h
     case skip=>exact hK _ _ (hp _) h
     case defer d=>exact hK _ _ ((eval_put_ne hd1).trans hv) h
     case enter f args=>
      refine Calls.mono h fun e w'' he=>?_
      cases e with
      |returned u=>exact hK _ _ (hp _) he
      |panicked c=>exact⟨he,fun e=>by cases e⟩
      |outgrown=>obtain⟨a0,w0,q⟩:=he;exact⟨a0,w0,q,fun e=>by cases e⟩
     case row row args=>exact Rows.mono h fun u w'' he=>hK _ _ (hp _) he
    |halt x w'=>
     cases x <;> simp only[Oper.upon] at h ⊢
     case panic u=>exact⟨h,fun e=>by cases e⟩
   ·exact .inr ⟨h1,a0,w0,q,fun e=>by cases e⟩
  ·rename_i hw
   rw[if_neg hw] at h
   exact hK _ _ (hp _) h
theorem Ej {ops:Array Oper} {F:Exit→Act→World→Prop} {G:Act→World→Prop} {l2:List Oper} (H:∀a w,G a w→wpList P ops F l2 a w):∀(l1:List Oper) (a:Act) (w:World),wpList P ops (fun e a w=>e=.normal∧G a w) l1 a w→wpList P ops F (l1++l2) a w
 |[],a,w,h=>H a w h.2
 |o::l,a,w,hh=>by
  rw[List.cons_append]
  unfold wpList at hh ⊢
  split
  ·rename_i hw
   rw[if_pos hw] at hh
   rcases hh with hh |⟨h1,a0,w0,q,_⟩
   ·left
    unfold Oper.wp at hh ⊢
    generalize (execOp a.eval o).run P w=r at hh ⊢
    cases r with
    |ok n w'=>
     cases n <;> simp only[Oper.upon] at hh ⊢
     case value u=>exact Ej H l _ _ hh
     case skip=>exact Ej H l _ _ hh
     case defer d=>exact Ej H l _ _ hh
     case enter f args=>
      refine Calls.mono hh fun e w'' he=>?_
      cases e with
      |returned u=>exact Ej H l _ _ he
      |panicked c=>cases he.1
      |outgrown=>obtain⟨a0,w0,q,_⟩:=he;cases q
     case row row args=>exact Rows.mono hh fun u w'' he=>Ej H l _ _ he
    |halt x w'=>
     cases x <;> simp only[Oper.upon] at hh ⊢
     case panic u=>cases hh.1
   ·cases q
  ·rename_i hw
   rw[if_neg hw] at hh
   exact Ej H l _ _ hh
variable {t2 t7 z:Nat} {v2 v7:Value} {rows:List (List D)} {F:Exit→Act→World→Prop}
theorem SY {ops:Array Oper} {F:Exit→Act→World→Prop} {G:Act→World→Prop} {l:List Oper} (k:Nat) (h:wpList P ops (fun e a w=>e=.normal∧G a w) (l.take k) a w) (H:∀a w,G a w→wpList P ops F (l.drop k) a w):wpList P ops F l a w:=by
 have:=Ej H _ _ _ h
 rwa [List.take_append_drop] at this
end
end Go.Vl
