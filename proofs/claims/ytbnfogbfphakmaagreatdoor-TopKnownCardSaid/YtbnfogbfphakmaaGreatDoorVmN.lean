/- The value logic, part 14: the rules in the shape in which a walk uses them, and the rewrite rules that evaluate a state. Conditions: none. -/
import Derived.Test.YtbnfogbfphakmaaGreatDoorVmO
set_option linter.unusedSimpArgs false
set_option linter.unusedVariables false
namespace Go.Vl
open Go Go.RowKit
section
variable {P:Program} {K:Ctx P} {st:St} {Q:Exit→St→Prop}
theorem lr {id:Nat} {l:List Oper} {st1:St} (h:runs P l.toArray l st=some st1) (H:Q .normal st1):Tr P K (.region id l.toArray false) st Q:=
 tr_region (tops_runs l.length (by rw[List.take_length];exact h) (by rw[List.drop_length];exact tpN H))
theorem st' {id:Nat} {l:List Oper} {y:Code} {st1:St} (n:Nat) (hm:P.follows .mixedOrders=true) (hB:Region.lexTailB .any l.toArray n=true) (h:vruns P l.toArray (l.take n) st=some st1)
  (H:TOps P K l.toArray (l.drop n) st1 (thenQ (fun s=>Tr P K y s Q) Q)):Tr P K (.seq (.region id l.toArray true) y) st Q:=trq (tr_tail n hm hB h H)
theorem so {ops:Array Oper} {l:List Oper} {st1:St} (k:Nat) (h:runs P ops (l.take k) st=some st1) (H:TOps P K ops (l.drop k) st1 Q):TOps P K ops l st Q:=tops_runs k h H
theorem sl {ops:Array Oper} {l:List Oper} {st1:St} (h:runs P ops l st=some st1) (H:Q .normal st1):TOps P K ops l st Q:=
 tops_runs l.length (by rw[List.take_length];exact h) (by rw[List.drop_length];exact tpN H)
end
attribute [simp] get del mapv enterSt numbered St.put St.look opd AV.ofConst AV.ofCell gdA runs vruns vput vstep bstep step allocA buildSA mkSA cpTo cpA storeA appA setA fillA buildA cellsA toDs AV.toD chunk
attribute [simp] loadA partA fieldA offA indexPA fieldVA indexVA rowsOf lenA bndA cutA cutV unA convA pickA okPtr minA maxA intOfA binA intBin shBin strBin boolBin eqA eqFs eqFs2 eqEs eqCell
attribute [simp] AV.scrub AV.wf AV.wfL AV.frz AV.frzL St.frz VS.dat frzs AV.fin AV.finL AV.view AV.viewL AV.back AV.backL AV.flat AV.flatL AV.dry AV.dryL idxOf boxesIn boxesOut boxesAre AV.outV AV.outVL boxesAreV vecsAre zipV delV AV.scrubs scrubE scrubB calledSt enterStV InV resLA resA packA ioB InO St.lb St.lv
attribute [simp] VS.isM
attribute [simp] leEnv leCells leBox leVec AV.le
theorem bAnd16 (x:Int):bAnd .i64 x 65535=x % 65536:=by
 have h:(BitVec.ofInt 64 x &&& BitVec.ofInt 64 65535).toNat=(x % 65536).toNat:=by
  rw[BitVec.toNat_and]
  have h1:(BitVec.ofInt 64 65535).toNat=2 ^ 16 - 1:=by decide
  rw[h1,Nat.and_two_pow_sub_one_eq_mod,BitVec.toNat_ofInt]
  omega
 show IntKind.i64.wrap (((BitVec.ofInt 64 x &&& BitVec.ofInt 64 65535).toNat:Nat):Int)=x % 65536
 rw[h,IntKind.wrap_i64]
 omega
theorem wkI {st st':St}:Weak st st'↔st'.nt=st.nt∧leEnv st st' st'.env∧leBox st st' st'.box∧leVec st st'.vec:=⟨fun h=>⟨h.nt,h.env,h.box,h.vec⟩,fun ⟨a,b,c,d⟩=>⟨a,b,c,d⟩⟩
theorem wrapI {x:Int} (h1: -9223372036854775808≤x) (h2:x≤9223372036854775807):IntKind.i64.wrap x=x:=by
 rw[IntKind.wrap_i64];omega
end Go.Vl
