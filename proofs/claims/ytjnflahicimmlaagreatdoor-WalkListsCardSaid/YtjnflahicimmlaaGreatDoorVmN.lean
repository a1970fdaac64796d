/- The value logic, part 14: the rules in the shape in which a walk uses them, and the rewrite rules that evaluate a state. Conditions: none. -/
import Derived.Test.YtjnflahicimmlaaGreatDoorVmO
set_option linter.unusedSimpArgs false
set_option linter.unusedVariables false
namespace Go.Vl
open Go Go.RowKit
section
variable {P:Program} {K:Ctx P} {st:St} {Q:Exit→St→Prop}
theorem lr {id:Nat} {l:List Oper} {st1:St} (h:runs P l.toArray l st=some st1) (H:Q .normal st1):Tr P K (.region id l.toArray false) st Q:=
 yK (vC l.length (by rw[ll];exact h) (by rw[uz];exact ar H))
theorem sd {id:Nat} {l:List Oper} {y:Code} {st1:St} (hm:P.follows .mixedOrders=true) (hB:Region.lexB .any l.toArray=true) (h:wZ P l.toArray l st=some st1) (H:Tr P K y st1 Q):Tr P K (.seq (.region id l.toArray true) y) st Q:=
 aF (Jy hm hB h H)
theorem cM {id:Nat} {l:List Oper} {y:Code} {st1:St} (n:Nat) (hm:P.follows .mixedOrders=true) (hB:Region.lexTailB .any l.toArray n=true) (h:wZ P l.toArray (l.take n) st=some st1)
  (H:fc P K l.toArray (l.drop n) st1 (sF (λs=>Tr P K y s Q) Q)):Tr P K (.seq (.region id l.toArray true) y) st Q:=aF (UY n hm hB h H)
theorem so {ops:Array Oper} {l:List Oper} {st1:St} (k:Nat) (h:runs P ops (l.take k) st=some st1) (H:fc P K ops (l.drop k) st1 Q):fc P K ops l st Q:=vC k h H
theorem sl {ops:Array Oper} {l:List Oper} {st1:St} (h:runs P ops l st=some st1) (H:Q .normal st1):fc P K ops l st Q:=
 vC l.length (by rw[ll];exact h) (by rw[uz];exact ar H)
theorem sL {ops:Array Oper} {l:List Oper} {st1:St} (H:Q .normal st1) (h:runs P ops l st=some st1:=by simp;rfl):fc P K ops l st Q:=sl h H
end
attribute [simp] get del me I0 kS St.put St.look ca AV.ofConst AV.x' pW runs wZ sP gI Ls step ue mA Vw Wa cpA D0 zl JL tZ vt gq uW AV.Qt chunk
attribute [simp] sH xe Fu J9 uL IX mm rowsOf Gj zk M5 DC unA OC NH NQ Yy Yz pA FJ tT GN zH za Tu Gv yu Cq nT
attribute [simp] AV.gi AV.wf AV.we AV.sY AV.Gu St.sY VS.QB xu AV.fin AV.Cp AV.view AV.zp AV.back AV.zD AV.flat AV.Oo AV.QA AV.P0 idxOf lI iw Bv AV.oO AV.tN tx sQ LS M3 AV.BR L9 D8 lX gk wa uG O7 CP DL sq St.lb St.lv
attribute [simp] VS.rC
attribute [simp] Kr wI Ks Kq AV.le
theorem ZW (x:Int):ZX .i64 x 65535=x % 65536:=by
 have h:(BitVec.ofInt 64 x &&& BitVec.ofInt 64 65535).toNat=(x % 65536).toNat:=by
  rw[BitVec.toNat_and];have h1:(BitVec.ofInt 64 65535).toNat=2 ^ 16 - 1:=by decide
  rw[h1,Nat.and_two_pow_sub_one_eq_mod,BitVec.toNat_ofInt];omega
 show IntKind.i64.wrap (((BitVec.ofInt 64 x &&& BitVec.ofInt 64 65535).toNat:Nat):Int)=x % 65536;rw[h,IntKind.wrap_i64];omega
theorem bw {st cM:St}:lZ st cM↔cM.nt=st.nt∧Kr st cM cM.env∧Ks st cM cM.box∧Kq st cM.vec:=⟨λh=>⟨h.nt,h.env,h.box,h.vec⟩,λ⟨a,b,c,d⟩=>⟨a,b,c,d⟩⟩
theorem Np {x:Int} (h1: -9223372036854775808≤x) (h2:x≤9223372036854775807):IntKind.i64.wrap x=x:=by
 rw[IntKind.wrap_i64];omega
end Go.Vl
