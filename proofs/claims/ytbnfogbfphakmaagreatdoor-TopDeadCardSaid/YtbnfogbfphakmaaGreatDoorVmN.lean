/- The value logic, part 14: the rules in the shape in which a walk uses them, and the rewrite rules that evaluate a state. Conditions: none. -/
import Derived.Test.YtbnfogbfphakmaaGreatDoorVmO
set_option linter.unusedSimpArgs false
set_option linter.unusedVariables false
namespace Go.Vl
open Go Go.RowKit
section
variable {P:Program} {K:Ctx P} {st:St} {Q:Exit→St→Prop}
theorem lr {id:Nat} {l:List Oper} {st1:St} (h:runs P l.toArray l st=some st1) (H:Q .normal st1):Tr P K (.region id l.toArray false) st Q:=
 FY (EF l.length (by rw[List.take_length];exact h) (by rw[List.drop_length];exact tpN H))
theorem st' {id:Nat} {l:List Oper} {y:Code} {st1:St} (n:Nat) (hm:P.follows .mixedOrders=true) (hB:Region.lexTailB .any l.toArray n=true) (h:Cp P l.toArray (l.take n) st=some st1)
  (H:Az P K l.toArray (l.drop n) st1 (Cq (fun s=>Tr P K y s Q) Q)):Tr P K (.seq (.region id l.toArray true) y) st Q:=trq (S1 n hm hB h H)
theorem so {ops:Array Oper} {l:List Oper} {st1:St} (k:Nat) (h:runs P ops (l.take k) st=some st1) (H:Az P K ops (l.drop k) st1 Q):Az P K ops l st Q:=EF k h H
theorem sl {ops:Array Oper} {l:List Oper} {st1:St} (h:runs P ops l st=some st1) (H:Q .normal st1):Az P K ops l st Q:=
 EF l.length (by rw[List.take_length];exact h) (by rw[List.drop_length];exact tpN H)
end
attribute [simp] get del Bl LA A5 St.put St.look opd AV.ofConst AV.ofCell gdA runs Cp EY vstep Lr step Da Bf Sy Sz cpA Iq Fi Lw DZ Ij An EC AV.toD E6
attribute [simp] DG Em Ih Lo Dq K7 K8 rowsOf KC Fh Mx cutV unA P8 P9 N7 WX WY CU Mw Dz KM G8 FX eqA KB DY G9 Ba
attribute [simp] AV.scrub AV.wf AV.wfL AV.frz AV.frzL St.frz VS.dat frzs AV.fin AV.finL AV.view AV.viewL AV.back AV.backL AV.flat AV.flatL AV.dry AV.dryL idxOf Bu A1 GN AV.outV AV.outVL DW Du M4 M5 AV.scrubs M6 Iw CN Ap InV C4 PD Hn ioB InO St.lb St.lv
attribute [simp] VS.isM
attribute [simp] Lt EW Lu Lv AV.le
theorem We (x:Int):J9 .i64 x 65535=x % 65536:=by
 have h:(BitVec.ofInt 64 x &&& BitVec.ofInt 64 65535).toNat=(x % 65536).toNat:=by
  rw[BitVec.toNat_and]
  have h1:(BitVec.ofInt 64 65535).toNat=2 ^ 16 - 1:=by decide
  rw[h1,Nat.and_two_pow_sub_one_eq_mod,BitVec.toNat_ofInt]
  omega
 show IntKind.i64.wrap (((BitVec.ofInt 64 x &&& BitVec.ofInt 64 65535).toNat:Nat):Int)=x % 65536
 rw[h,IntKind.wrap_i64]
 omega
theorem wkI {st st':St}:D1 st st'↔st'.nt=st.nt∧Lt st st' st'.env∧Lu st st' st'.box∧Lv st st'.vec:=⟨fun h=>⟨h.nt,h.env,h.box,h.vec⟩,fun ⟨a,b,c,d⟩=>⟨a,b,c,d⟩⟩
theorem QS {x:Int} (h1: -9223372036854775808≤x) (h2:x≤9223372036854775807):IntKind.i64.wrap x=x:=by
 rw[IntKind.wrap_i64];omega
end Go.Vl
