/- A hidden row of structs of two cells, data and a row of its own: the state beside it; one struct more; one element more in a struct's row. Conditions: none. -/
import Derived.Test.YtbnfogbfphakmaaGreatDoorVmNs
import Derived.Great.BuildSlice
set_option linter.unusedSimpArgs false
set_option linter.unusedVariables false
namespace Go.Vl
open Go Go.RowKit
section
variable {P:Program} {α:Type} {K K0:Ctx P} {st:St} {a:Act} {w w':World} {p:Pl} {hid hid' ok ok':Nat→Prop} {f:α→List D} {e e1:TypeId} {z1:Nat} {v:Value} {L:List (D×List α)} {xs:List Value}
structure ZZ (w:World) (hid ok:Nat→Prop) (f:α→List D) (e1:TypeId) (z1:Nat) (q:D×List α) (v0 v1:Value):Prop where
 dat:RD w ok q.1 v0
 one:v0.oneCell'=true
 own:∃xv,w.ownsRow 0 e1 z1 v1 q.2.length xv∧∀(i:Nat) (d:D) (u:Value),(AB f q.2).flatten[i]? =some d→xv[i]? =some u→RD w (fun _=>False) d u
 hid:∀g,v1.blk=some g→hid g
structure aL (w:World) (hid ok:Nat→Prop) (f:α→List D) (e e1:TypeId) (z1:Nat) (v:Value) (L:List (D×List α)) (xs:List Value):Prop where
 own:w.ownsRow 0 e 2 v L.length xs
 hidv:∀g,v.blk=some g→hid g
 cel:∀(j:Nat) (q:D×List α),L[j]? =some q→∃v0 v1,xs[2 * j]? =some v0∧xs[2 * j+1]? =some v1∧ZZ w hid ok f e1 z1 q v0 v1
 apart:∀(i j:Nat) (u u':Value) (g:Nat),xs[2 * i+1]? =some u→xs[2 * j+1]? =some u'→u.blk=some g→u'.blk=some g→i=j
variable {t:Nat}
theorem Lc {st1 st':St} {a1:Act} (R0:Rel K st a w p) (R1:Rel K st1 a1 w p) (hK:K.ios=[]) (W:D1 st1 st') {w2:World} (hs:w.heap.size≤w2.heap.size) (ho:w2.os=w.os∧w2.tape=w.tape∧w2.output=w.output)
  (hne:∀g,g < w.heap.size→¬Hf K0 K g→w2.heap[g]? =w.heap[g]?) (hK0:K0.ios=[]) (hB:FM K0 K) (h6:∀k,K.w0.heap.size≤k∨k∈K.ivs→K0.w0.heap.size≤k∨k∈K0.ivs):
  ∃K' p',K'.ios=[]∧K'.w0=w2∧Rel K' st' a1 w2 p'∧FM K0 K'∧(∀k,K'.w0.heap.size≤k∨k∈K'.ivs→K0.w0.heap.size≤k∨k∈K0.ivs)∧(∀g,Hf K0 K g→Hf K0 K' g)∧(∀g,w.heap.size≤g→g < w2.heap.size→Hf K0 K' g)∧(∀g,okc K w p g→Mn K' g∧w2.heap[g]? =w.heap[g]?)∧∀g,okc K' w2 p' g→okc K w p g:=by
 have hbx:∀n,st'.lb n=true→p.lb n:=fun n hn=>by
  obtain⟨cs',hcs'⟩:=Option.isSome_iff_exists.1 hn
  obtain⟨cs,hcs,_⟩:=Ca W.box hcs'
  exact(R1.lbi n).2 (by simp[St.lb,hcs])
 have hvx:∀n,st'.lv n=true→p.lv n:=fun n hn=>by
  obtain⟨s,hs⟩:=Option.isSome_iff_exists.1 hn
  exact(R1.lvi n).2 (by simp[St.lv,Cb W.vec hs])
 have hokk:∀g,okc K w p g→w2.heap[g]? =w.heap[g]? :=fun g hg=>hne g hg.1 fun h=>h.1.nok hg
 have RB:=hB.rel _ _ _ _ R1
 obtain⟨K',p',t1,t2,t3,t4,t5,t6,t7,t8,_,t10⟩:=R1.turn hK W hs ho hokk (fun n hn=>hne _ (R1.blt (hbx n hn)) fun h=>h.1.bx hK R1 (hbx n hn) rfl)
  (fun n g hn hg=>hne g (R1.vlt (hvx n hn) hg).2 fun h=>h.1.rw hK R1 (hvx n hn) hg) (Nat.le_refl _) K0 hB (fun k h1 h2=>hne k (Nat.lt_of_lt_of_le h1 RB.size) fun h=>by
   rcases h.2 with q |q
   ·omega
   ·exact h2 q) hK0 h6
 refine⟨K',p',t1,t2,t3,t5,t6,fun g h=>⟨t7 g h.1,h.2⟩,fun g h1 h2=>⟨t8 g h1 h2,.inl (Nat.le_trans RB.size h1)⟩,fun g hg=>⟨⟨?_,?_,t10 g hg⟩,hokk g hg⟩,fun g=>(t4 g).1⟩
 ·rw[t2];exact Nat.lt_of_lt_of_le hg.1 hs
 ·have:=(t4 g).2 hg
  rcases this.2.1 with q |q |q
  ·exact q
  ·rw[t2] at q
   have:=hg.1
   omega
  ·exact absurd q (t10 g hg)
end
end Go.Vl
