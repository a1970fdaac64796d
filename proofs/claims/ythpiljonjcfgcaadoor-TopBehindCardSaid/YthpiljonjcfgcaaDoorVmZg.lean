/- The value logic: an element of a package-level array of integers that nobody writes. Conditions: none. -/
import Derived.Test.YthpiljonjcfgcaaDoorVmY
set_option linter.unusedSimpArgs false
set_option linter.unusedVariables false
namespace Go.Vl
open Go Go.RowKit
section
variable {P:Program} {K:Ctx P} {st:St} {ops:Array Oper} {Q:Exit→St→Prop}
theorem Rel.globP {a:Act} {w:World} {p:Pl} (R:Rel K st a w p) {g:Nat} (hg:0 < (globOf P g).length) (hkk:globK P g=.i64):RA w (okc K w p) p (.cptr ((globOf P g).map (D.int .i64)) 0) (a.eval (.global g)):=by
 have h0:=R.glob g 0 _ (List.getElem?_eq_getElem hg)
 have he:a.eval (.global g)=.pointer (some ((⟨g,0,none⟩:Addr).add 0)):=rfl
 rw[he]
 refine .cptr (fun j=>.int .i64 ((globOf P g).getD j 0)) h0.1 (fun j hj=>?_) (fun j x hx=>?_)
 ·have hj':j < (globOf P g).length:=by simpa using hj
  rw[add_blk,Nat.zero_add,(R.glob g j _ (List.getElem?_eq_getElem hj')).2.1,hkk]
  simp[List.getD,hj']
 ·rw[List.getElem?_map] at hx
  simp only[Option.map_eq_some_iff] at hx
  obtain⟨n,hn,rfl⟩:=hx
  simp only[List.getD,hn,Option.getD_some]
  exact .int
end
end Go.Vl
