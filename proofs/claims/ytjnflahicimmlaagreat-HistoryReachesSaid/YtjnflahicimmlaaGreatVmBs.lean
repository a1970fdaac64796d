/- The value logic: bytes converted to a string. Conditions: none. -/
import Derived.Test.YtjnflahicimmlaaGreatVmSt
import Derived.Laws.BytesString
set_option linter.unusedSimpArgs false
set_option linter.unusedVariables false
namespace Go.Vl
open Go Go.RowKit
theorem iflatB (k:IntKind):∀l:List Int,(rowsF (iRow k) l).flatten=l.map fun c=>D.int k c
 |[]=>rfl
 |y::l=>by
  have ih:=iflatB k l
  unfold rowsF at ih ⊢
  rw[List.map_cons,List.flatten_cons,ih];rfl
section
variable {P:Program} {K:Ctx P} {st:St} {a:Act} {w:World} {p:Pl} {ops:Array Oper} {Q:Exit→St→Prop}
theorem bts_run {ok:Nat→Prop} {s t e:TypeId} {l:List Int} {v:Value} (hs:P.underlying s=some (.slice e)) (he:P.underlying e=some (.int .u8)) (hu:P.underlying t=some .string) (h:RD w ok (.slice (rowsF (iRow .u8) l)) v):(convert s t v).run P w=.ok (.string (bstr l)) w:=by
 generalize hx:D.slice (rowsF (iRow .u8) l)=x at h
 cases h with
 |@snil b c=>
  have hl:l=[]:=by
   cases l with
   |nil=>rfl
   |cons y l=>simp[rowsF] at hx
  subst hl
  rw[run_convert_bytes_string w s t e b 0 c hs he hu]
  cases b with
  |none=>simp[Conv.bytesToString,bstr]
  |some b=>exact run_bytesToString w b 0 c [] (run_loadCells_list (P:=P) w b [] (fun j v hj=>by simp at hj))
 |@slice rows b c z vs hz hok hc hcell h=>
  cases hx
  have hfl:=iflatB .u8 l
  have hln:(rowsF (iRow .u8) l).length=l.length:=by simp[rowsF]
  rw[hln,run_convert_bytes_string w s t e (some b) l.length c hs he hu]
  have hl:=run_loadCells_list (P:=P) w b (l.map (Value.int .u8)) (fun j v hj=>by
   rw[List.getElem?_map] at hj
   cases hlj:l[j]? with
   |none=>rw[hlj] at hj;cases hj
   |some n=>
    rw[hlj] at hj
    cases hj
    have hj2:j < (rowsF (iRow .u8) l).flatten.length:=by rw[hfl,List.length_map];exact(List.getElem?_eq_some_iff.1 hlj).1
    have h2:=h j (.int .u8 n) (by rw[hfl,List.getElem?_map,hlj];rfl)
    rw[hcell j hj2]
    generalize vs j=u at h2
    cases h2;rfl)
  rw[List.length_map] at hl
  exact run_bytesToString w b l.length c l hl
 |_=>cases hx
theorem tops_bts {l:List Oper} {o:Oper} {s t e:TypeId} {x:Operand} {d:Nat} {ns:List Int} (hg:gdA ops st o=some true) (ho:o.op=.convert s t x) (hd:o.dst=some d) (hdn:d < st.nt) (hx:opd st x=.d (.slice (rowsF (iRow .u8) ns)))
  (hs:P.underlying s=some (.slice e)) (he:P.underlying e=some (.int .u8)) (hu:P.underlying t=some .string) (h:TOps P K ops l (st.put d (.d (.str (bstr ns)))) Q):TOps P K ops (o::l) st Q:=by
 intro a w p R
 have hxv:=R.opd x
 rw[hx] at hxv
 unfold wpList
 rw[gd_sound R hg,if_pos rfl]
 refine .inl ?_
 unfold Oper.wp
 have hrun:(execOp a.eval o).run P w=.ok (.value (.string (bstr ns))) w:=by
  simp only[execOp,ho]
  generalize a.eval x=v at hxv
  cases hxv with
  |d hrd=>simp[bts_run hs he hu hrd]
 rw[hrun]
 show wpList P ops (Pst K Q) l (a.put o.dst _) _
 rw[hd]
 exact h _ _ _ (R.put (.d .str) hdn)
theorem kbts {l:List Oper} {o:Oper} {s t e:TypeId} {x:Operand} {d:Nat} {ns:List Int} {st1:St} (ks:List Nat) (ho:o.op=.convert s t x) (hd:o.dst=some d) (hs:P.underlying s=some (.slice e)) (he:P.underlying e=some (.int .u8)) (hu:P.underlying t=some .string)
  (hall:gdA ops st o=some true∧d < st.nt∧opd st x=.d (.slice (rowsF (iRow .u8) ns))) (hst:St.kp ks (st.put d (.d (.str (bstr ns))))=st1) (h:TOps P K ops l st1 Q):TOps P K ops (o::l) st Q:=by
 obtain⟨hg,hdn,hx⟩:=hall
 subst hst
 exact tops_bts hg ho hd hdn hx hs he hu (tops_wk (wk_kp ks) h)
end
end Go.Vl
