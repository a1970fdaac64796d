/- The value logic: at the kit's wp, a region by its rules, with what it does not write; entries of a map that lies in frozen memory turned in their place. Conditions: none. -/
import Derived.Test.YtbnfogbfphakmaaGreatDoorVmCc
import Derived.Test.YtbnfogbfphakmaaGreatDoorVmRd
set_option linter.unusedSimpArgs false
set_option linter.unusedVariables false
namespace Go.Vl
open Go Go.RowKit
section
variable {P:Program} {K:Ctx P} {st:St} {a:Act} {w:World} {p:Pl}
theorem eval_put_ne {d:Option Nat} {t:Nat} {u:Value} (h:d≠some t):(a.put d u).eval (.tmp t)=a.eval (.tmp t):=by
 cases d with
 |none=>rfl
 |some k=>
  have hk:k≠t:=fun e=>h (by rw[e])
  simp[Act.put,Act.eval,Array.getElem?_setIfInBounds_ne hk]
theorem BR {t:Nat} {u:Value} (h:t < a.tmps.size):(a.put (some t) u).eval (.tmp t)=u:=by
 simp[Act.put,Act.eval,h]
theorem Hd {ops:Array Oper} {F:Exit→Act→World→Prop} {t:Nat} {v:Value}:∀(l:List Oper) (a:Act) (w:World),(∀o∈l,o.dst≠some t)→a.eval (.tmp t)=v→wpList P ops F l a w→wpList P ops (fun e a w=>F e a w∧(e=.normal→a.eval (.tmp t)=v)) l a w:=by
 intro l
 induction l with
 |nil=>exact fun a w _ hv h=>⟨h,fun _=>hv⟩
 |cons o l ih=>
  intro a w hd hv hh
  have hd1:=hd o (by simp)
  have hd2:∀o∈l,o.dst≠some t:=fun o h=>hd o (by simp[h])
  have hp:∀u,(a.put o.dst u).eval (.tmp t)=v:=fun u=>(eval_put_ne hd1).trans hv
  unfold wpList at hh ⊢
  split
  ·rename_i hw
   rw[if_pos hw] at hh
   rcases hh with hh |⟨h1,a0,w0,q⟩
   ·left
    unfold Oper.wp at hh ⊢
    generalize (execOp a.eval o).run P w=r at hh ⊢
    cases r with
    |ok n w'=>
     cases n <;> simp only[Oper.upon] at hh ⊢
     case value u=>exact ih _ _ hd2 (hp _) hh
     case skip=>exact ih _ _ hd2 (hp _) hh
     case defer d=>exact ih _ _ hd2 ((eval_put_ne hd1).trans hv) hh
     case enter f args=>
      refine Calls.mono hh fun e w'' he=>?_
      cases e with
      |returned u=>exact ih _ _ hd2 (hp _) he
      |panicked c=>exact⟨he,fun e=>by cases e⟩
      |outgrown=>obtain⟨a0,w0,q⟩:=he;exact⟨a0,w0,q,fun e=>by cases e⟩
     case row row args=>exact Rows.mono hh fun u w'' he=>ih _ _ hd2 (hp _) he
    |halt x w'=>
     cases x <;> simp only[Oper.upon] at hh ⊢
     case panic u=>exact⟨hh,fun e=>by cases e⟩
   ·exact .inr ⟨h1,a0,w0,q,fun e=>by cases e⟩
  ·rename_i hw
   rw[if_neg hw] at hh
   exact ih _ _ hd2 (hp _) hh
def Ml (st1:St):Exit→St→Prop:=fun e s=>e=.normal∧s=st1
theorem Ov {ops:Array Oper} {l:List Oper} {t:Nat} {v:Value} {st1:St} {F:Exit→Act→World→Prop} (hT:Az P K ops l st (Ml st1)) (hd:∀o∈l,o.dst≠some t) (R:Rel K st a w p) (hv:a.eval (.tmp t)=v)
  (H:∀a w p,Rel K st1 a w p→a.eval (.tmp t)=v→F .normal a w):wpList P ops F l a w:=
 Gr (fun e a w h=>by
  obtain⟨⟨s,p,R,rfl,rfl⟩,h2⟩:=h
  exact H a w p R (h2 rfl)) _ _ _ (Hd _ _ _ hd hv (hT a w p R))
theorem Yn {id:Nat} {l:List Oper} {y:Code} {t:Nat} {v:Value} {st1:St} {F:Exit→Act→World→Prop} (hT:Az P K l.toArray l st (Ml st1)) (hd:∀o∈l,o.dst≠some t) (R:Rel K st a w p) (hv:a.eval (.tmp t)=v)
  (H:∀a w p,Rel K st1 a w p→a.eval (.tmp t)=v→y.wp P F a w):(Code.seq (.region id l.toArray false) y).wp P F a w:=
 wp_seq (wp_region_lit (Ov hT hd R hv H))
theorem Ow {t:Nat} {b:Bool} (R:Rel K st a w p) (h:st.look t=.d (.bool b)):a.eval (.tmp t)=.bool b:=by
 have:=R.opd (.tmp t)
 have ho:opd st (.tmp t)=.d (.bool b):=h
 rw[ho] at this
 generalize a.eval (.tmp t)=v at this
 cases this with |d h=>cases h;rfl
theorem Fg {id:Nat} {N:Act→World→Prop} {Q:Exit→Act→World→Prop} (h:Q (.exit id) a w):Exit.then N Q (.exit id) a w:=h
theorem Ox {id:Nat} {Q:Exit→Act→World→Prop} (h:Q .normal a w):Exit.inBlock id Q (.exit id) a w:=by
 unfold Exit.inBlock;simp only[if_true];exact h
theorem Ic {id:Nat} {Q:Exit→Act→World→Prop} (h:Q .normal a w):Exit.inBlock id Q .normal a w:=h
theorem Cw {N:Act→World→Prop} {Q:Exit→Act→World→Prop} (h:N a w):Exit.then N Q .normal a w:=h
inductive He:D→Prop
 |int {k:IntKind} {n:Int}:He (.int k n)
 |bool {b:Bool}:He (.bool b)
 |str {s:ByteArray}:He (.str s)
 |nilp:He .nilp
 |slice {rows:List (List D)} (h:rows=[]∨rows.flatten≠[]) (hr:∀(j:Nat) (d:D),rows.flatten[j]? =some d→He d):He (.slice rows)
theorem Rel.also (R:Rel K st a w p) {t:Nat} {x:AV} (hx:RA w (okc K w p) p x (a.tmps.getD t undef)):Rel K (st.put t x) a w p where
 lb:=R.lb
 lv:=R.lv
 dfr:=R.dfr
 nt:=R.nt
 ntl:=R.ntl
 ion:=R.ion
 size:=R.size
 os:=R.os
 tape:=R.tape
 dr:=R.dr
 output:=R.output
 old:=R.old
 env:=fun s y h=>by
  simp only[St.put,get] at h
  split at h
  ·rename_i e;subst e;cases h;exact hx
  ·exact R.env s y h
 box:=R.box
 vec:=R.vec
 dbb:=R.dbb
 dbv:=R.dbv
 dvv:=R.dvv
theorem BA {ops:Array Oper}:Az P K ops [] st (Ml st):=tpN ⟨rfl,rfl⟩
theorem SS {ops:Array Oper} {l:List Oper} {t t':Nat} {v v':Value} {st1:St} {F:Exit→Act→World→Prop} (hT:Az P K ops l st (Ml st1)) (hd:∀o∈l,o.dst≠some t) (hd':∀o∈l,o.dst≠some t') (R:Rel K st a w p) (hv:a.eval (.tmp t)=v) (hv':a.eval (.tmp t')=v')
  (H:∀a w p,Rel K st1 a w p→a.eval (.tmp t)=v→a.eval (.tmp t')=v'→F .normal a w):wpList P ops F l a w:=
 Gr (fun e a w h=>by
  obtain⟨⟨⟨s,p,R,rfl,rfl⟩,h2⟩,h3⟩:=h
  exact H a w p R (h2 rfl) (h3 rfl)) _ _ _ (Hd _ _ _ hd' hv' (Hd _ _ _ hd hv (hT a w p R)))
theorem Rel.weak0 (R:Rel K st a w p) {st':St} (W:D1 st st'):∃p',Rel K st' a w p'∧∀b,okc K w p b→okc K w p' b:=by
 refine⟨_,R.weak W,fun b h=>⟨h.1,h.2.1,fun n hn=>h.2.2.1 n ?_,fun n hn=>h.2.2.2 n ?_⟩⟩
 ·obtain⟨cs',hcs'⟩:=Option.isSome_iff_exists.1 hn
  obtain⟨cs,hcs,_⟩:=Ca W.box hcs'
  exact(R.lbi n).2 (by simp[St.lb,hcs])
 ·obtain⟨q,hq⟩:=Option.isSome_iff_exists.1 hn
  exact(R.lvi n).2 (by simp[St.lv,Cb W.vec hq])
attribute [local irreducible] VS.kz VS.va VS.ka tkz tka tva ES
end
end Go.Vl
