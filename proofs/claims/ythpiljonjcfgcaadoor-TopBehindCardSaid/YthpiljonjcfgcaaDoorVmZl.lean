/- The value logic: a package-level array of integers that nobody writes, loaded as a whole. Conditions: none. -/
import Derived.Test.YthpiljonjcfgcaaDoorVmZg
set_option linter.unusedSimpArgs false
set_option linter.unusedVariables false
namespace Go.Vl
open Go Go.RowKit
section
variable {P:Program} {K:Ctx P} {st:St} {ops:Array Oper} {Q:Exit→St→Prop}
theorem tops_globL {l:List Oper} {o:Oper} {t:TypeId} {g d:Nat} {x:AV} (hg:gdA ops st o=some true) (ho:o.op=.load t (.global g)) (hd:o.dst=some d) (hdn:d < st.nt) (hl:0 < (globOf P g).length) (hkk:globK P g=.i64)
  (hx:loadA P st t (.cptr ((globOf P g).map (D.int .i64)) 0)=some x) (h:TOps P K ops l (st.put d x) Q):TOps P K ops (o::l) st Q:=by
 intro a w p R
 obtain⟨v,h1,h2⟩:=loadA_sound R hx (R.globP hl hkk)
 unfold wpList
 rw[gd_sound R hg,if_pos rfl]
 refine .inl ?_
 unfold Oper.wp
 rw[show (execOp a.eval o).run P w=.ok (.value v) w by simp[execOp,ho,h1]]
 show wpList P ops (Pst K Q) l (a.put o.dst v) w
 rw[hd]
 exact h _ _ _ (R.put h2 hdn)
end
end Go.Vl
