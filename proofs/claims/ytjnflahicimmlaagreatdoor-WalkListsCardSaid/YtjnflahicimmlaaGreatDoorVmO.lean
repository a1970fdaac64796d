/- The value logic, part 15: drawn regions whose first operations are pure (they touch no memory), the others in a forced order. Conditions: none. -/
import Derived.Test.YtjnflahicimmlaaGreatDoorVmMb
set_option linter.unusedSimpArgs false
set_option linter.unusedVariables false
namespace Go.Vl
open Go Go.RowKit
section
variable {P:Program} {K:Ctx P} {st:St} {a:Act} {w:World} {p:Pl} {ops:Array Oper} {Q:Exit→St→Prop}
def gZ (o:Oper):Bool:=
 match o.op with
 | .move _ | .assign _ | .nilCheck _ | .slice _ _ _ _ _=>true
 | .makeFunc _ _ _=>true
 | .call c=>match c.callee with | .builtin .len=>true |_=>false
 |_=>false
theorem Mm (R:Rel K st a w p) {o:Oper} {x:AV} (hp:gZ o=true) (h:gI P st o=some x):∃v,(∀w':World,(execOp a.eval o).run P w'=.ok (.value v) w')∧RA w (dx K w p) p x v:=by
 unfold gZ at hp;split at hp
 ·rename_i y ho
  simp only[gI,ho] at h;cases h;exact⟨_,λw'=>by simp[execOp,ho],R.ca y⟩
 ·rename_i y ho
  simp only[gI,ho] at h;cases h;exact⟨_,λw'=>by simp[execOp,ho],R.ca y⟩
 ·rename_i y ho
  simp only[gI,ho] at h;split at h
  case isFalse=>cases h
  rename_i hk;cases h;have hy:=R.ca y;generalize ca st y=yy at *;generalize hv:a.eval y=v at *;cases hy with
  |ptr hn=>exact⟨_,λw'=>(by simp[execOp,ho,hv] <;> rfl),.ptr hn⟩
  |cN vs h1 h2 h3=>exact⟨_,λw'=>(by simp[execOp,ho,hv] <;> rfl),.cN vs h1 h2 h3⟩
  |iR h1 h2=>exact⟨_,λw'=>(by simp[execOp,ho,hv] <;> rfl),.iR h1 h2⟩
  |fn q1 q2=>exact⟨_,λw'=>(by simp[execOp,ho,hv] <;> rfl),.fn q1 q2⟩
  |_=>simp[NQ] at hk
 ·rename_i t y lo hi mx ho
  simp only[gI,ho] at h;cases h1:zk (lo.map (ca st)) with
  |none=>simp[h1] at h
  |some lo'=>
   cases h2:zk (hi.map (ca st)) with
   |none=>simp[h1,h2] at h
   |some Fe=>
    cases h3:zk (mx.map (ca st)) with
    |none=>simp[h1,h2,h3] at h
    |some mx'=>
     simp only[h1,h2,h3,aa] at h;obtain⟨r,g1,g2⟩:=FA R (tz R h1) (tz R h2) (tz R h3) h (R.ca _);exact⟨r,λw'=>by simp[execOp,ho,g1 w'],g2⟩
 ·rename_i fn first caps ho
  have h':=h;simp only[gI,ho] at h';split at h'
  ·rename_i f hf
   obtain⟨v,h1,h2⟩:=rI R h;have e:first= #[]:=by cases first;simpa using hf
   subst e;refine⟨v,λw'=>?_,h2⟩;simp[execOp,ho,Instr.makeFunc] at h1 ⊢;exact h1
  ·cases h'
 ·rename_i c ho
  obtain⟨callee,⟨args⟩,⟨tys⟩⟩:=c;simp only[gI,ho] at h;unfold Ls at h;dsimp only at h hp;split at h
  ·rename_i y t
   cases hn:Gj P st t (ca st y) with
   |none=>simp[hn] at h
   |some n=>
    simp[hn] at h;subst h;exact⟨.int .i64 n,λw'=>by simp[execOp,ho,resolve,invoke,builtin,EV R hn (R.ca y) w'],.d .int⟩
  ·simp at hp
  ·simp at hp
  ·cases h
 ·cases hp
def OH (Q:Exit→St→Prop):Prop:=∀c s,¬Q (.panic c) s
end
end Go.Vl
