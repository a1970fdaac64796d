/- The value logic, part 15: drawn regions whose first operations are pure (they touch no memory), the others in a forced order. Conditions: none. -/
import Derived.Test.YtjnflahicimmlaaGreatVmMb
set_option linter.unusedSimpArgs false
set_option linter.unusedVariables false
namespace Go.Vl
open Go Go.RowKit
section
variable {P:Program} {K:Ctx P} {st:St} {a:Act} {w:World} {p:Pl} {ops:Array Oper} {Q:Exit→St→Prop}
def pureB (o:Oper):Bool:=
 match o.op with
 | .move _ | .assign _ | .nilCheck _ | .slice _ _ _ _ _=>true
 | .makeFunc _ _ _=>true
 | .call c=>match c.callee with | .builtin .len=>true |_=>false
 |_=>false
theorem pure_sound (R:Rel K st a w p) {o:Oper} {x:AV} (hp:pureB o=true) (h:vstep P st o=some x):∃v,(∀w':World,(execOp a.eval o).run P w'=.ok (.value v) w')∧RA w (okc K w p) p x v:=by
 unfold pureB at hp
 split at hp
 ·rename_i y ho
  simp only[vstep,ho] at h;cases h
  exact⟨_,fun w'=>by simp[execOp,ho],R.opd y⟩
 ·rename_i y ho
  simp only[vstep,ho] at h;cases h
  exact⟨_,fun w'=>by simp[execOp,ho],R.opd y⟩
 ·rename_i y ho
  simp only[vstep,ho] at h
  split at h
  case isFalse=>cases h
  rename_i hk
  cases h
  have hy:=R.opd y
  generalize opd st y=yy at *
  generalize hv:a.eval y=v at *
  cases hy with
  |ptr hn=>exact⟨_,fun w'=>(by simp[execOp,ho,hv] <;> rfl),.ptr hn⟩
  |cptr vs h1 h2 h3=>exact⟨_,fun w'=>(by simp[execOp,ho,hv] <;> rfl),.cptr vs h1 h2 h3⟩
  |vptr h1 h2=>exact⟨_,fun w'=>(by simp[execOp,ho,hv] <;> rfl),.vptr h1 h2⟩
  |fn q1 q2=>exact⟨_,fun w'=>(by simp[execOp,ho,hv] <;> rfl),.fn q1 q2⟩
  |_=>simp[okPtr] at hk
 ·rename_i t y lo hi mx ho
  simp only[vstep,ho] at h
  cases h1:bndA (lo.map (opd st)) with
  |none=>simp[h1] at h
  |some lo'=>
   cases h2:bndA (hi.map (opd st)) with
   |none=>simp[h1,h2] at h
   |some hi'=>
    cases h3:bndA (mx.map (opd st)) with
    |none=>simp[h1,h2,h3] at h
    |some mx'=>
     simp only[h1,h2,h3,Option.bind_some] at h
     obtain⟨r,g1,g2⟩:=cutA_sound R (bndA_some R h1) (bndA_some R h2) (bndA_some R h3) h (R.opd _)
     exact⟨r,fun w'=>by simp[execOp,ho,g1 w'],g2⟩
 ·rename_i fn first caps ho
  have h':=h
  simp only[vstep,ho] at h'
  split at h'
  ·rename_i f hf
   obtain⟨v,h1,h2⟩:=vstep_sound R h
   have e:first= #[]:=by cases first;simpa using hf
   subst e
   refine⟨v,fun w'=>?_,h2⟩
   simp[execOp,ho,Instr.makeFunc] at h1 ⊢
   exact h1
  ·cases h'
 ·rename_i c ho
  obtain⟨callee,⟨args⟩,⟨tys⟩⟩:=c
  simp only[vstep,ho] at h
  unfold bstep at h
  dsimp only at h hp
  split at h
  ·rename_i y t
   cases hn:lenA P st t (opd st y) with
   |none=>simp[hn] at h
   |some n=>
    simp[hn] at h;subst h
    exact⟨.int .i64 n,fun w'=>by simp[execOp,ho,resolve,invoke,builtin,lenA_sound R hn (R.opd y) w'],.d .int⟩
  ·simp at hp
  ·simp at hp
  ·cases h
 ·cases hp
def NoPanic (Q:Exit→St→Prop):Prop:=∀c s,¬Q (.panic c) s
end
end Go.Vl
