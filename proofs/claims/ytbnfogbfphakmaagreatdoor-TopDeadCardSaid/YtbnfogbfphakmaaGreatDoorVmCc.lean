/- The value logic: calls with one of several results. Conditions: none. -/
import Derived.Test.YtbnfogbfphakmaaGreatDoorVmLz
import Derived.Test.YtbnfogbfphakmaaGreatDoorVmRd
set_option linter.unusedSimpArgs false
set_option linter.unusedVariables false
namespace Go.Vl
open Go
section
variable {P:Program} {K:Ctx P} {st:St} {ops:Array Oper} {Q:Exit→St→Prop}
variable {a:Act} {w:World} {p:Pl}
end
end Go.Vl
namespace Go.Vl
open Go Go.RowKit
section
variable {P:Program}
end
end Go.Vl
namespace Go.Vl
open Go Go.RowKit
section
variable {P:Program} {K:Ctx P} {st:St} {Q:Exit→St→Prop}
theorem Nv {ops:Array Oper} {F:Exit→Act→World→Prop} {l2:List Oper}:∀(l:List Oper) (a:Act) (w:World),wpList P ops (fun e a w=>match e with | .normal=>wpList P ops F l2 a w |e=>F e a w) l a w→wpList P ops F (l++l2) a w:=by
 intro l
 induction l with
 |nil=>exact fun a w h=>h
 |cons o l ih=>
  intro a w hh
  rw[List.cons_append]
  unfold wpList at hh ⊢
  split
  ·rename_i hw
   rw[if_pos hw] at hh
   rcases hh with hh |⟨h1,a0,w0,q⟩
   ·left
    unfold Oper.wp at hh ⊢
    generalize (execOp a.eval o).run P w=r at hh ⊢
    cases r with
    |ok n w'=>
     cases n <;> simp only[Oper.upon] at hh ⊢
     case value v=>exact ih _ _ hh
     case skip=>exact ih _ _ hh
     case defer d=>exact ih _ _ hh
     case enter f args=>
      refine Calls.mono hh fun e w'' he=>?_
      cases e with
      |returned v=>exact ih _ _ he
      |panicked c=>exact he
      |outgrown=>exact he
     case row row args=>exact Rows.mono hh fun v w'' he=>ih _ _ he
    |halt x w'=>
     cases x <;> simp only[Oper.upon] at hh ⊢
     case panic v=>exact hh
   ·exact .inr ⟨h1,a0,w0,q⟩
  ·rename_i hw
   rw[if_neg hw] at hh
   exact ih _ _ hh
def RgQ (P:Program) (K:Ctx P) (y:Code) (x:Operand) (d:Nat) (Q:Exit→St→Prop) (s:St):Prop:=∃e z rows,Vl.opd s x=.d (.mp e z rows)∧d < s.nt∧∀r,TrI P K y (s.put d (.iter r)) r ⟨e,z,rows⟩ rows Q
theorem Ps {id:Nat} {l:List Oper} {o:Oper} {y:Code} {ty kt et:TypeId} {x:Operand} {d:Nat} (n:Nat) (hl:l.drop n=[o]) (hg:o.guard=none) (ho:o.op=.range ty x) (hd:o.dst=some d)
  (hu:P.underlying ty=some (.map kt et)) (H:Az P K l.toArray (l.take n) st (Cq (RgQ P K y x d Q) Q)):Tr P K (.seq (.region id l.toArray false) y) st Q:=by
 intro a w p R
 refine wp_seq (wp_region_lit ?_)
 rw[show l=l.take n++l.drop n from(List.take_append_drop n l).symm,hl]
 refine Nv _ _ _ ?_
 rw[← hl,List.take_append_drop]
 refine Gr ?_ _ _ _ (H a w p R)
 rintro ex a w ⟨s,p,R,q⟩
 cases ex with
 |normal=>
  obtain⟨e,z,rows,hx,hdn,H⟩:=q
  show wpList _ _ _ (l.drop n) a w
  rw[hl]
  have hxr:=R.opd x
  rw[hx] at hxr
  generalize hax:a.eval x=ax at hxr
  cases hxr with
  |d hxr=>
   obtain⟨b,es,clock,rfl,hb,hokb,hM,hm⟩:=hxr.mp_inv
   have hbl:b < w.heap.size:=hokb.1
   have hsz:=R.size
   have hnew:∀q:Addr,q.block < w.heap.size→see (w.alloc (.mapIter (some b) clock #[] clock)) q=see w q:=fun q hq=>E5 w _ q hq
   have hold:∀k,k < w.heap.size→(w.alloc (.mapIter (some b) clock #[] clock)).heap[k]? =w.heap[k]? :=fun k hk=>heap_alloc_old w _ hk
   have hs1:(w.alloc (.mapIter (some b) clock #[] clock)).heap.size=w.heap.size+1:=by unfold World.alloc;simp
   have hok:∀k,okc K w p k→okc K (w.alloc (.mapIter (some b) clock #[] clock)) p k:=fun k hk=>Ls (by omega) hk
   have R1:Rel K s a (w.alloc (.mapIter (some b) clock #[] clock)) p:=R.evo ⟨by omega,rfl,rfl,rfl,fun k h1 _=>hold k (by omega),fun q hq=>hnew q hq.1,hok,fun _ _ h=>⟨h,rfl⟩,fun _ _ h=>⟨h,rfl⟩,Nat.le_refl _⟩ (fun n hn=>hold _ (R.blt hn)) (fun n g hn hg=>hold _ (R.vlt hn hg).2)
   have hrun:(execOp a.eval o).run P w=.ok (.value (.pointer (some ⟨w.heap.size,0,none⟩))) (w.alloc (.mapIter (some b) clock #[] clock)):=by
    have:=run_range_map (P:=P) w ty kt et b es clock hu hb
    simp[execOp,ho,hax,this]
   refine Ck hg hrun ?_
   rw[hd]
   have R2:=R1.put (x:=.iter w.heap.size) .iter hdn
   have hokr:okc K (w.alloc (.mapIter (some b) clock #[] clock)) p w.heap.size:=⟨by omega,.inr (.inl (by omega)),fun n hn e=>by have:=R.blt hn;omega,fun n hn e=>by have:=(R.vlt hn e).2;omega⟩
   exact H w.heap.size _ _ p R2 ⟨b,clock,clock,clock,#[],es,heap_alloc_new w _,(hold b hbl).trans hb,Nat.le_refl _,hm.born,rfl,hok b hokb,hokr,hm.mono (fun q hq=>hnew q hq.1) hok,(KI rows es.toList hm.key.1).symm⟩ hsz
 |_=>exact⟨s,p,R,q⟩
end
end Go.Vl
