/- The value logic: a region that draws its order, taken in every order. Conditions: none. -/
import Derived.Test.YtbnfogbfphakmaaGreatDoorVmO
set_option linter.unusedSimpArgs false
set_option linter.unusedVariables false
namespace Go.Vl
open Go Go.RowKit
section
variable {P:Program} {K:Ctx P} {ops:Array Oper} {st st1:St} {Q:Exit→St→Prop} {n:Nat} {listed:Array Bool}
def Bw (P:Program) (o:Oper):Bool:=Bv o||(match o.op with
 | .binOp op _ _ _ _=>match op with | .add | .sub | .mul=>true |_=>false
 | .fieldAddr _ _ _=>true
 | .indexAddr t _ _=>match P.underlying t with |some (.array _ _)=>true |some (.slice _)=>true |_=>false
 |_=>false)
theorem PS {op:BinOp} (hop:op=.add∨op=.sub∨op=.mul) {t:TypeId} {x y z:AV} (h:Mw P op t x y=some z):(∃k a k' b,x=.d (.int k a)∧y=.d (.int k' b)∧∃kz c,z=.d (.int kz c))∨(∃a b,x=.d (.str a)∧y=.d (.str b)∧∃c,z=.d (.str c)):=by
 unfold Mw at h
 split at h
 ·rename_i k a k' b
  left
  refine⟨k,a,k',b,rfl,rfl,?_⟩
  rcases hop with rfl |rfl |rfl <;> simp only[Option.map_eq_some_iff] at h
  all_goals
   obtain⟨d,hd,rfl⟩:=h
   split at hd
   case isFalse=>cases hd
   simp only[Dz,Option.some.injEq] at hd
   exact⟨_,_,by rw[← hd]⟩
 ·rename_i a b
  right
  refine⟨a,b,rfl,rfl,?_⟩
  rcases hop with rfl |rfl |rfl <;> simp[G8] at h
  exact⟨_,h.2.symm⟩
 ·rcases hop with rfl |rfl |rfl <;> simp[FX] at h
 ·rcases hop with rfl |rfl |rfl <;> simp at h
 all_goals (rcases hop with rfl |rfl |rfl <;> simp at h)
theorem MI {w:World} {ok:Nat→Prop} {p:Pl} {t e:TypeId} (hs:P.underlying t=some (.slice e)) {rows:List (List D)} {row:List D} {k:IntKind} {i:Int} (h0:0≤i) (hrow:rows[i.toNat]? =some row)
  (hz:Ad P e=some row.length) {u:Value} (h:RD w ok (.slice rows) u):∃v,(∀w':World,(Instr.indexAt t u (.int k i)).run P w'=.ok v w')∧RA w ok p (.cptr row 0) v:=by
 have hi:i.toNat < rows.length:=(List.getElem?_eq_some_iff.1 hrow).1
 obtain⟨v,h1,h2⟩:=Kz (p:=p) (k:=k) hs h0 hrow hz h
 cases h with
 |snil=>simp at hi
 |slice z vs hzs hok hc hcell hd=>
  rename_i b c
  have hlt:i < (rows.length:Int):=by omega
  have hrun:∀w':World,(Instr.indexAt t (.slice (some b) rows.length c) (.int k i)).run P w'=.ok (.pointer (some (b.add (i.toNat * row.length)))) w':=fun w'=>by
   simp[Instr.indexAt,run_underlying hs,asIntOf,h0,hlt,AU hz]
  rw[hrun w] at h1
  cases h1
  exact⟨_,hrun,h2⟩
theorem Hv {a:Act} {w:World} {p:Pl} (R:Rel K st a w p) {o:Oper} {x:AV} (hp:Bw P o=true) (h:vstep P st o=some x):∃v,(∀w':World,(execOp a.eval o).run P w'=.ok (.value v) w')∧RA w (okc K w p) p x v:=by
 unfold Bw at hp
 rw[Bool.or_eq_true] at hp
 rcases hp with hp |hp
 ·exact Dd R hp h
 split at hp
 ·rename_i op t y z b ho
  have hop:op=.add∨op=.sub∨op=.mul:=by cases op <;> simp at hp <;> simp
  simp only[vstep,ho] at h
  have hy:=R.opd y
  have hz:=R.opd z
  rcases PS hop h with ⟨k,a1,k',b1,e1,e2,kz,c,rfl⟩ |⟨a1,b1,e1,e2,c,rfl⟩
  ·rw[e1] at hy h
   rw[e2] at hz h
   generalize hu:a.eval y=u at hy
   generalize hv:a.eval z=v at hz
   cases hy with |d hy=>cases hy with |int=>
   cases hz with |d hz=>cases hz with |int=>
   refine⟨.int kz c,fun w'=>?_,.d .int⟩
   obtain⟨r,h1,h2⟩:=EV (w:=w') (ok:=fun _=>False) (p:=p) h (.d .int) (.d .int) y z
   cases h2 with |d h2=>cases h2 with |int=>
   have hg:(eqGuard op t y z (Value.int k a1) (Value.int k' b1)).run P w'=.ok () w':=by rcases hop with rfl |rfl |rfl <;> simp[eqGuard]
   simp only[Sem.run_bind,hg,Result.andThen_ok] at h1
   simp[execOp,ho,hu,hv,hg,h1]
  ·rw[e1] at hy h
   rw[e2] at hz h
   generalize hu:a.eval y=u at hy
   generalize hv:a.eval z=v at hz
   cases hy with |d hy=>cases hy with |str=>
   cases hz with |d hz=>cases hz with |str=>
   refine⟨.string c,fun w'=>?_,.d .str⟩
   obtain⟨r,h1,h2⟩:=EV (w:=w') (ok:=fun _=>False) (p:=p) h (.d .str) (.d .str) y z
   cases h2 with |d h2=>cases h2 with |str=>
   have hg:(eqGuard op t y z (Value.string a1) (Value.string b1)).run P w'=.ok () w':=by rcases hop with rfl |rfl |rfl <;> simp[eqGuard]
   simp only[Sem.run_bind,hg,Result.andThen_ok] at h1
   simp[execOp,ho,hu,hv,hg,h1]
 ·rename_i s y f ho
  simp only[vstep,ho] at h
  unfold Ih at h
  split at h
  case h_2=>cases h
  rename_i fs hs
  cases hf:fs[f]? with
  |none=>simp[hf] at h
  |some fd=>
   simp only[hf,Option.bind_some] at h
   split at h
   case h_2=>cases h
   rename_i k hk
   obtain⟨b,e,hb⟩:=ET h (R.opd y)
   exact⟨_,fun w'=>by simp[execOp,ho,e,Instr.fieldAt,Instr.sureAddr,run_underlying hs,hf,fieldPlace,AU hk],hb⟩
 ·rename_i t y i ho
  simp only[vstep,ho] at h
  cases hi:CU (opd st i) with
  |none=>simp[hi] at h
  |some n=>
   simp only[hi,Option.bind_some] at h
   obtain⟨kk,ei⟩:=CZ hi (R.opd i)
   have hy:=R.opd y
   unfold Dq at h
   split at hp
   case h_3=>cases hp
   ·rename_i len e hs
    rw[hs] at h
    simp only at h
    split at h
    case isFalse=>cases h
    rename_i hh
    cases hz:Ad P e with
    |none=>simp[hz] at h
    |some z=>
     simp only[hz,Option.bind_some] at h
     obtain⟨b,eb,hb⟩:=ET h hy
     exact⟨_,fun w'=>by simp[execOp,ho,ei,eb,Instr.indexAt,Instr.sureAddr,run_underlying hs,asIntOf,hh.1,hh.2,AU hz],hb⟩
   ·rename_i e hs
    rw[hs] at h
    simp only at h
    split at h
    case isFalse=>cases h
    rename_i h0
    generalize hay:a.eval y=u at hy
    split at h
    ·rename_i rows _
     cases hrow:rows[n.toNat]? with
     |none=>simp[hrow] at h
     |some row=>
      simp only[hrow,Option.bind_some] at h
      split at h
      case isFalse=>cases h
      rename_i hz
      cases h
      rename_i hyy
      rw[hyy] at hy
      cases hy with
      |d hd=>
       obtain⟨v,g1,g2⟩:=MI (p:=p) (k:=kk) hs h0 hrow hz hd
       exact⟨v,fun w'=>by simp[execOp,ho,ei,hay,g1 w'],g2⟩
    ·rename_i rows _
     cases hrow:rows[n.toNat]? with
     |none=>simp[hrow] at h
     |some row=>
      simp only[hrow,Option.bind_some] at h
      split at h
      case isFalse=>cases h
      rename_i hz
      cases h
      rename_i hyy
      rw[hyy] at hy
      cases hy with
      |full hd=>
       obtain⟨v,g1,g2⟩:=MI (p:=p) (k:=kk) hs h0 hrow hz hd
       exact⟨v,fun w'=>by simp[execOp,ho,ei,hay,g1 w'],g2⟩
    ·rename_i m hyy
     rw[hyy] at hy
     cases hb:get st.vec m with
     |none=>simp[hb] at h
     |some s=>
      simp only[hb,Option.bind_some] at h
      split at h
      case isFalse=>cases h
      rename_i hh
      obtain⟨hlt,hz,hM⟩:=hh
      cases h
      cases hy with
      |vec hn=>
       obtain⟨hat,hzs,_⟩:=R.vec m s hb
       obtain⟨xs,hown,hd⟩:=hat.row hM
       rcases hown.2 with ⟨_,h1⟩ |⟨g,cap,cur,hv,_,_,_,_,_,_⟩
       ·omega
       ·rw[hv] at hay
        have h1:n < (s.rows.length:Int):=by omega
        refine⟨.pointer (some ⟨g,n.toNat * s.z+0,none⟩),fun w'=>?_,.vptr hn hv⟩
        simp[execOp,ho,ei,hay,Instr.indexAt,run_underlying hs,asIntOf,h0,h1,AU hz,Ah]
    ·rename_i m z lo k' hyy
     rw[hyy] at hy
     split at h
     case isFalse=>cases h
     rename_i hh
     obtain⟨hlt,hz⟩:=hh
     cases h
     cases hy with
     |cut hn hv ho' hle=>
      rename_i o' g c len
      have h1:n < (k':Int):=by omega
      have h2:o'=lo * z:=ho'.1.resolve_left (by omega)
      refine⟨.pointer (some ⟨g,(lo+n.toNat) * z+0,none⟩),fun w'=>?_,.vptr hn hv⟩
      simp[execOp,ho,ei,hay,Instr.indexAt,run_underlying hs,asIntOf,h0,h1,AU hz,Ah,h2,Nat.add_mul]
     |cut0 hn hv=>omega
    ·cases h
 ·cases hp
end
end Go.Vl
