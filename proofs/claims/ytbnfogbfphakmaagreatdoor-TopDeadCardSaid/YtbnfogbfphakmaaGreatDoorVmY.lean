/- The value logic: a slice of no rows asked whether it is nil: either answer. Conditions: none. -/
import Derived.Test.YtbnfogbfphakmaaGreatDoorVmX
set_option linter.unusedSimpArgs false
set_option linter.unusedVariables false
namespace Go.Vl
open Go Go.RowKit
section
variable {P:Program} {K:Ctx P} {st:St} {ops:Array Oper} {Q:Exit→St→Prop}
theorem NG {l:List Oper} {o:Oper} {t e yt:TypeId} {x y:Operand} {d:Nat} (hg:gdA ops st o=some true) (ho:o.op=.binOp .eql t x y yt) (hd:o.dst=some d) (hdn:d < st.nt) (hu:P.underlying t=some (.slice e)) (hx:opd st x=.d (.slice [])) (hy:opd st y=.nilS)
  (h:∀b,Az P K ops l (st.put d (.d (.bool b))) Q):Az P K ops (o::l) st Q:=by
 intro a w p R
 have hxv:=R.opd x
 have hyv:=R.opd y
 rw[hx] at hxv
 rw[hy] at hyv
 have key:∃b,(execOp a.eval o).run P w=.ok (.value (.bool b)) w:=by
  generalize hv:a.eval x=v at hxv
  generalize hw:a.eval y=u at hyv
  cases hyv with |nilS=>
  have hs:∃(q:Option Addr) (c:Nat),v=.slice q 0 c:=by
   cases hxv with |d hxv=>cases hxv with
   |snil=>exact⟨_,_,rfl⟩
   |slice z vs=>exact⟨_,_,rfl⟩
  obtain⟨q,c,rfl⟩:=hs
  have hgd:(eqGuard .eql t x y (.slice q 0 c) (.slice none 0 0)).run P w=.ok () w:=by simp[eqGuard]
  refine⟨q.isNone,?_⟩
  have h2:=(Bb (w:=w) hu q 0 c).1
  simp only[execOp,ho,hv,hw,Sem.run_bind,hgd,Result.andThen_ok,h2,Sem.run_pure]
 obtain⟨b,hb⟩:=key
 unfold wpList
 rw[A9 R hg,if_pos rfl]
 refine .inl ?_
 unfold Oper.wp
 rw[hb]
 show wpList P ops (Pst K Q) l (a.put o.dst (.bool b)) w
 rw[hd]
 exact h b _ _ _ (R.put (.d .bool) hdn)
theorem Rel.ownBox {a:Act} {w:World} {p:Pl} (R:Rel K st a w p) {b i n:Nat} {cs:List AV} (hb:get st.box b=some cs) (hi:cs[i]? =some .nilS) (hn:get st.vec n=none) (e:TypeId) (z:Nat) (he:e < 1000000):
  ∃p',Rel K { st with vec:=(n,⟨e,z,[]⟩)::st.vec,box:=(b,cs.set i (.vec n))::st.box } a w p':=by
 have R':=R.newVec (d:=n) (w':=w) (v':=.slice none 0 0) (s:=⟨e,z,[]⟩) (xs:=[]) (CK he) hn (World.grownBy.refl w _) (Nat.le_refl _) (World.ownsRow_nil w _ _ _) (fun r hr=>by simp at hr) (fun j x v h=>by simp at h) (.inl rfl)
 refine⟨_,{
  lb:=?_
  lv:=R'.lv
  dfr:=R'.dfr
  nt:=R'.nt
  ntl:=R'.ntl
  ion:=R'.ion
  size:=R'.size
  os:=R'.os
  tape:=R'.tape
  dr:=R'.dr
  output:=R'.output
  old:=R'.old
  env:=R'.env
  box:=?_
  vec:=R'.vec
  dbb:=R'.dbb
  dbv:=R'.dbv
  dvv:=R'.dvv }⟩
 ·rw[R'.lb]
  funext m
  simp only[St.lb,get,eq_iff_iff]
  split
  ·rename_i h;subst h;simp[hb]
  ·exact Iff.rfl
 ·intro m cs' h
  simp only[get] at h
  split at h
  ·rename_i hm;subst hm;cases h
   obtain⟨⟨vs,ty,h1,h2,h3,h4⟩,h5⟩:=R'.box b cs hb
   refine⟨⟨vs,ty,h1,by simpa using h2,fun j c v hc hv=>?_,h4⟩,h5⟩
   rw[List.getElem?_set] at hc
   split at hc
   ·rename_i hj;subst hj
    split at hc
    case isFalse=>cases hc
    cases hc
    have hv':=h3 i .nilS v hi hv
    cases hv'
    exact RA.vec_at (n:=n) (Or.inl rfl) (upd_same _ _ _)
   ·exact h3 j c v hc hv
  ·exact R'.box m cs' h
theorem PQ {s:St} (b i n:Nat) (e:TypeId) (z:Nat) {cs:List AV} (hb:get s.box b=some cs) (hi:cs[i]? =some .nilS) (hn:get s.vec n=none) (he:e < 1000000:=by decide):Wk s { s with vec:=(n,⟨e,z,[]⟩)::s.vec,box:=(b,cs.set i (.vec n))::s.box }:=fun _ _ _ _ R=>R.ownBox hb hi hn e z he
end
end Go.Vl
