/- The value logic: a slice of no rows asked whether it is nil: either answer. Conditions: none. -/
import Derived.Test.YtbnfogbfphakmaaGreatDoorVmX
set_option linter.unusedSimpArgs false
set_option linter.unusedVariables false
namespace Go.Vl
open Go Go.RowKit
section
variable {P:Program} {K:Ctx P} {st:St} {ops:Array Oper} {Q:Exit→St→Prop}
theorem Rel.ownBox {a:Act} {w:World} {p:Pl} (R:Rel K st a w p) {b i n:Nat} {cs:List AV} (hb:get st.box b=some cs) (hi:cs[i]? =some .nilS) (hn:get st.vec n=none) (e:TypeId) (z:Nat) (he:e < 1000000):
  ∃p',Rel K { st with vec:=(n,⟨e,z,[]⟩)::st.vec,box:=(b,cs.set i (.vec n))::st.box } a w p':=by
 have R':=R.newVec (d:=n) (w':=w) (v':=.slice none 0 0) (s:=⟨e,z,[]⟩) (xs:=[]) (isM_lt he) hn (World.grownBy.refl w _) (Nat.le_refl _) (World.ownsRow_nil w _ _ _) (fun r hr=>by simp at hr) (fun j x v h=>by simp at h) (.inl rfl)
 refine⟨_,{
  lb:=?_
  lv:=R'.lv
  dfr:=R'.dfr
  nt:=R'.nt
  ntl:=R'.ntl
  ion:=R'.ion
  size:=R'.size
  os:=R'.os
  tape:=R'.tape
  dr:=R'.dr
  output:=R'.output
  old:=R'.old
  env:=R'.env
  box:=?_
  vec:=R'.vec
  dbb:=R'.dbb
  dbv:=R'.dbv
  dvv:=R'.dvv }⟩
 ·rw[R'.lb]
  funext m
  simp only[St.lb,get,eq_iff_iff]
  split
  ·rename_i h;subst h;simp[hb]
  ·exact Iff.rfl
 ·intro m cs' h
  simp only[get] at h
  split at h
  ·rename_i hm;subst hm;cases h
   obtain⟨⟨vs,ty,h1,h2,h3,h4⟩,h5⟩:=R'.box b cs hb
   refine⟨⟨vs,ty,h1,by simpa using h2,fun j c v hc hv=>?_,h4⟩,h5⟩
   rw[List.getElem?_set] at hc
   split at hc
   ·rename_i hj;subst hj
    split at hc
    case isFalse=>cases hc
    cases hc
    have hv':=h3 i .nilS v hi hv
    cases hv'
    exact RA.vec_at (n:=n) (Or.inl rfl) (upd_same _ _ _)
   ·exact h3 j c v hc hv
  ·exact R'.box m cs' h
theorem wk_ownbox {s:St} (b i n:Nat) (e:TypeId) (z:Nat) {cs:List AV} (hb:get s.box b=some cs) (hi:cs[i]? =some .nilS) (hn:get s.vec n=none) (he:e < 1000000:=by decide):Wk s { s with vec:=(n,⟨e,z,[]⟩)::s.vec,box:=(b,cs.set i (.vec n))::s.box }:=fun _ _ _ _ R=>R.ownBox hb hi hn e z he
end
end Go.Vl
