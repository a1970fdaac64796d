/- The value logic, part 14: the rules in the shape in which a walk uses them, and the rewrite rules that evaluate a state. Conditions: none. -/
import Derived.Test.YtjnflahicimmlaaDoorVmO
set_option linter.unusedSimpArgs false
set_option linter.unusedVariables false
namespace Go.Vl
open Go Go.RowKit

section
variable {P : Program} {K : Ctx P} {st : St} {Q : Exit → St → Prop}

/-- a region without calls, then y -/
theorem sr {id : Nat} {l : List Oper} {y : Code} {st1 : St} (h : runs P l.toArray l st = some st1) (H : Tr P K y st1 Q) : Tr P K (.seq (.region id l.toArray false) y) st Q :=
  tr_seq (tr_region (tops_runs l.length (by rw [List.take_length]; exact h) (by rw [List.drop_length]; exact tops_nil H)))
/-- a region without calls, where nothing is behind it -/
theorem lr {id : Nat} {l : List Oper} {st1 : St} (h : runs P l.toArray l st = some st1) (H : Q .normal st1) : Tr P K (.region id l.toArray false) st Q :=
  tr_region (tops_runs l.length (by rw [List.take_length]; exact h) (by rw [List.drop_length]; exact tops_nil H))
/-- a region without calls, then a weaker state, then y -/
theorem srw {id : Nat} {l : List Oper} {y : Code} (st1 : St) (h : ∃ s, runs P l.toArray l st = some s ∧ Weak s st1) (H : Tr P K y st1 Q) : Tr P K (.seq (.region id l.toArray false) y) st Q := by
  obtain ⟨s, h1, h2⟩ := h
  exact sr h1 (tr_weak h2 H)
/-- a region with calls: its operations one by one -/
theorem sc {id : Nat} {l : List Oper} {y : Code} (H : TOps P K l.toArray l st (thenQ (fun s => Tr P K y s Q) Q)) : Tr P K (.seq (.region id l.toArray false) y) st Q := tr_seq (tr_region H)
theorem lc {id : Nat} {l : List Oper} (H : TOps P K l.toArray l st Q) : Tr P K (.region id l.toArray false) st Q := tr_region H
/-- drawn regions that only read -/
theorem sd {id : Nat} {l : List Oper} {y : Code} {st1 : St} (hm : P.follows .mixedOrders = true) (hB : Region.lexB .any l.toArray = true) (h : vruns P l.toArray l st = some st1) (H : Tr P K y st1 Q) : Tr P K (.seq (.region id l.toArray true) y) st Q :=
  tr_seq (tr_still hm hB h H)
theorem ld {id : Nat} {l : List Oper} {st1 : St} (hm : P.follows .mixedOrders = true) (hB : Region.lexB .any l.toArray = true) (h : vruns P l.toArray l st = some st1) (H : Q .normal st1) : Tr P K (.region id l.toArray true) st Q :=
  tr_still hm hB h H
theorem st' {id : Nat} {l : List Oper} {y : Code} {st1 : St} (n : Nat) (hm : P.follows .mixedOrders = true) (hB : Region.lexTailB .any l.toArray n = true) (h : vruns P l.toArray (l.take n) st = some st1)
    (H : TOps P K l.toArray (l.drop n) st1 (thenQ (fun s => Tr P K y s Q) Q)) : Tr P K (.seq (.region id l.toArray true) y) st Q := tr_seq (tr_tail n hm hB h H)
/-- a drawn region that only reads, then a weaker state -/
theorem sdw {id : Nat} {l : List Oper} {y : Code} (st1 : St) (hm : P.follows .mixedOrders = true) (hB : Region.lexB .any l.toArray = true) (h : ∃ s, vruns P l.toArray l st = some s ∧ Weak s st1) (H : Tr P K y st1 Q) : Tr P K (.seq (.region id l.toArray true) y) st Q := by
  obtain ⟨s, h1, h2⟩ := h
  exact sd hm hB h1 (tr_weak h2 H)
theorem weak_same {s : St} : Weak s s → Weak s s := id
/-- k operations of a region, then the rest -/
theorem so {ops : Array Oper} {l : List Oper} {st1 : St} (k : Nat) (h : runs P ops (l.take k) st = some st1) (H : TOps P K ops (l.drop k) st1 Q) : TOps P K ops l st Q := tops_runs k h H
/-- all operations that are left -/
theorem sl {ops : Array Oper} {l : List Oper} {st1 : St} (h : runs P ops l st = some st1) (H : Q .normal st1) : TOps P K ops l st Q :=
  tops_runs l.length (by rw [List.take_length]; exact h) (by rw [List.drop_length]; exact tops_nil H)

/-- a test -/
theorem scond {c : Operand} {x y z : Code} {b : Bool} (hc : opd st c = .d (.bool b)) (ht : b = true → Tr P K x st (thenQ (fun s => Tr P K z s Q) Q)) (hf : b = false → Tr P K y st (thenQ (fun s => Tr P K z s Q) Q)) : Tr P K (.seq (.cond c x y) z) st Q :=
  tr_seq (tr_cond hc ht hf)
theorem sct {c : Operand} {x y z : Code} (hc : opd st c = .d (.bool true)) (H : Tr P K x st (thenQ (fun s => Tr P K z s Q) Q)) : Tr P K (.seq (.cond c x y) z) st Q := scond hc (fun _ => H) (fun h => by cases h)
theorem scf {c : Operand} {x y z : Code} (hc : opd st c = .d (.bool false)) (H : Tr P K y st (thenQ (fun s => Tr P K z s Q) Q)) : Tr P K (.seq (.cond c x y) z) st Q := scond hc (fun h => by cases h) (fun _ => H)
theorem skt {c : Operand} {y z : Code} (hc : opd st c = .d (.bool true)) (H : Tr P K z st Q) : Tr P K (.seq (.cond c .skip y) z) st Q := sct hc (tr_skip H)
theorem skf {c : Operand} {x z : Code} (hc : opd st c = .d (.bool false)) (H : Tr P K z st Q) : Tr P K (.seq (.cond c x .skip) z) st Q := scf hc (tr_skip H)
/-- an if whose ways meet again in the state S -/
theorem sjoin {x z : Code} (S : St) (h : Tr P K x st (thenQ (fun s => Weak s S) Q)) (H : Tr P K z S Q) : Tr P K (.seq x z) st Q :=
  tr_seq (tr_mono h fun e s q => by
    cases e with
    | normal => exact tr_weak q H
    | _ => exact q)
theorem sskip {z : Code} (H : Tr P K z st Q) : Tr P K (.seq .skip z) st Q := tr_seq (tr_skip H)
theorem sblock {id : Nat} {c z : Code} (h : Tr P K c st (blockQ id (thenQ (fun s => Tr P K z s Q) Q))) : Tr P K (.seq (.block id c) z) st Q := tr_seq (tr_block h)
/-- a loop -/
theorem sloop {id : Nat} {c z : Code} {ι : Type} (S : ι → St) (μ : ι → Nat) (i0 : ι) (W : Weak st (S i0))
    (round : ∀ i, Tr P K c (S i) (thenQ (fun s => ∃ j, μ j < μ i ∧ Weak s (S j)) (blockQ id (thenQ (fun s => Tr P K z s Q) Q)))) : Tr P K (.seq (.block id (.loop c)) z) st Q := tr_seq (tr_block (tr_loop S μ i0 W round))
end

/-! Rewrite rules -/
attribute [simp] get del mapv enterSt numbered St.put St.look opd AV.ofConst AV.ofCell gdA runs vruns vput vstep bstep step allocA buildSA mkSA cpTo cpA storeA appA setA fillA buildA cellsA toDs AV.toD chunk
attribute [simp] loadA partA fieldA offA indexPA fieldVA indexVA rowsOf lenA bndA cutA cutV unA convA pickA okPtr minA maxA intOfA binA intBin shBin strBin boolBin eqA eqFs eqFs2 eqEs eqCell
attribute [simp] AV.scrub AV.wf AV.wfL AV.frz AV.frzL St.frz VS.dat frzs AV.fin AV.finL AV.view AV.viewL AV.back AV.backL AV.flat AV.flatL AV.dry AV.dryL idxOf boxesIn boxesOut boxesAre AV.outV AV.outVL boxesAreV vecsAre zipV delV AV.scrubs scrubE scrubB calledSt enterStV InV resLA resA packA ioB InO St.lb St.lv
attribute [simp] VS.isM
attribute [simp] leEnv leCells leBox leVec AV.le
theorem bAnd16 (x : Int) : bAnd .i64 x 65535 = x % 65536 := by
  have h : (BitVec.ofInt 64 x &&& BitVec.ofInt 64 65535).toNat = (x % 65536).toNat := by
    rw [BitVec.toNat_and]
    have h1 : (BitVec.ofInt 64 65535).toNat = 2 ^ 16 - 1 := by decide
    rw [h1, Nat.and_two_pow_sub_one_eq_mod, BitVec.toNat_ofInt]
    omega
  show IntKind.i64.wrap (((BitVec.ofInt 64 x &&& BitVec.ofInt 64 65535).toNat : Nat) : Int) = x % 65536
  rw [h, IntKind.wrap_i64]
  omega
theorem weak_iff {st st' : St} : Weak st st' ↔ st'.nt = st.nt ∧ leEnv st st' st'.env ∧ leBox st st' st'.box ∧ leVec st st'.vec := ⟨fun h => ⟨h.nt, h.env, h.box, h.vec⟩, fun ⟨a, b, c, d⟩ => ⟨a, b, c, d⟩⟩
theorem wrapI {x : Int} (h1 : -9223372036854775808 ≤ x) (h2 : x ≤ 9223372036854775807) : IntKind.i64.wrap x = x := by
  rw [IntKind.wrap_i64]; omega
end Go.Vl
