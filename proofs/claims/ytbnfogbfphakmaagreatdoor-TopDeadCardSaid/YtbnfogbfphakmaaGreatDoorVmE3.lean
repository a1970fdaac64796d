/- A run of given code on given data: slices made and cut, functions with captures, ranges over strings, conversions. Conditions: none. -/
import Derived.Test.YtbnfogbfphakmaaGreatDoorVmE2
import Derived.Lib.Builder
import Derived.Lib.ConvBytes
import Derived.Deep.AppendSrc
import Derived.Lib.UnsafeStr
set_option linter.unusedSimpArgs false
set_option linter.unusedVariables false
namespace Go.Ev
open Go Go.Vl Go.RowKit
section
variable {P : Program} {T : Tab} {w0 : Kp} {fr : List (Array Value)} {s s' : Cx} {a : Act} {w : World} {p : Pm}
theorem H5 (R : Aj w0 fr s a w p) {o : Oper} (hd : Co s.nt o.dst = true) {nm : Nm} {d n z : Nat} (hdd : o.dst = some d) {l : List CV} (h : OU s nm d l z n = some s') {vs : Array Value} {ty : TypeId} {w' : World}
    (hs : w.heap.size < w'.heap.size) (ho : w'.os = w.os) (ht : w'.tape = w.tape) (hu : w'.output = w.output) (hb : ∀ b, b < w.heap.size → w'.heap[b]? = w.heap[b]?) (hat : w'.heap[w.heap.size]? = some (.cells vs ty (0, 0)))
    (hl : l.length ≤ vs.size) (hr : ∀ (i : Nat) (c : CV) (v : Value), l[i]? = some c → vs[i]? = some v → RV (lvH s.hp) p c v) (h1 : ∀ (i : Nat) (v : Value), vs[i]? = some v → v.oneCell' = true)
    (hrun : (execOp a.eval o).run P w = .ok (.value (.slice (some ⟨w.heap.size, 0, none⟩) n n)) w') : Stp P w0 fr s' o a w := by
  unfold OU at h
  split at h
  case h_2 => cases h
  rename_i s1 hs1
  obtain ⟨hn, rfl⟩ := Dk hs1
  cases h
  obtain ⟨p', R'⟩ := R.newCells (l := l) (z := z) (c := 0) (m := none) hd hn hs ho ht hu hb hat hl hr h1 (fun e he => by cases he) (x := .sl nm 0 n (some n)) (v := .slice (some ⟨w.heap.size, 0, none⟩) n n) (fun lv' p' h1 h2 h3 => by
    rw [← h2]; exact .sl h1 (Nat.le_refl _) (fun k e => by cases e; rfl) (fun e => by cases e))
  rw [← hdd]
  exact ⟨_, p', .inl ⟨_, hrun, R'⟩⟩
theorem Kl {place : Nat → Option (Nat × Nat)} : ∀ {pts : List (Nat × CV)} {cells r : List CV}, Fw place cells pts = some r → r.length = cells.length
  | [], cells, r, h => by simp [Fw] at h; rw [h]
  | (q1, q2) :: pts, cells, r, h => by
    simp only [Fw] at h
    cases hp : place q1 with
    | none => simp [hp] at h
    | some os =>
      obtain ⟨off, size⟩ := os
      simp only [hp] at h
      cases hc : GC q2 with
      | none => simp [hc] at h
      | some l =>
        simp only [hc, Option.bind_some] at h
        split at h
        · rename_i hh
          have := Kl h
          rw [this]; simp; omega
        · cases h
theorem DN (hT : BU P T.ty) (R : Aj w0 fr s a w p) {o : Oper} (hd : Co s.nt o.dst = true) {nm : Nm} {t : TypeId} {n : Nat} {parts : Array (Nat × Operand)} (ho : o.op = .buildSlice t n parts) (h : JK T s nm o.dst t n parts = some s') : Stp P w0 fr s' o a w := by
  unfold JK at h
  split at h
  case h_2 => cases h
  rename_i d e hdd hde
  split at h
  case h_2 => cases h
  rename_i z hz
  split at h
  case isFalse => cases h
  rename_i hle
  split at h
  case h_2 => cases h
  rename_i r hf
  have hu := Ax hT hde
  obtain ⟨i, v, hi, hv, hsz, hzs, h1⟩ := JU hT hz
  have hzl : z.length = i.size := by rw [hzs]; simp [hsz]
  let z0 : Array Value := if n * i.size = 0 then #[] else v.cells
  have hget : ∀ (j : Nat), j < n * i.size → z0[j % z0.size]! = v.cells[j % i.size]?.getD default ∧ v.cells[j % i.size]? = some (z0[j % z0.size]!) := fun j h0 => by
    have hne : ¬ (n * i.size = 0) := by omega
    have hpos : 0 < i.size := Nat.pos_of_ne_zero (fun e => hne (by rw [e, Nat.mul_zero]))
    have hz0 : z0 = v.cells := if_neg hne
    rw [hz0, hsz]
    have hlt : j % i.size < v.cells.size := by rw [hsz]; exact Nat.mod_lt _ hpos
    rw [getElem!_pos v.cells _ hlt, Array.getElem?_eq_getElem hlt]
    exact ⟨rfl, rfl⟩
  have hcell : ∀ (j : Nat) (u : Value), ((Array.range (n * i.size)).map (fun x => z0[x % z0.size]!))[j]? = some u → j < n * i.size ∧ v.cells[j % i.size]? = some u := by
    intro j u hj
    rw [Array.getElem?_map] at hj
    by_cases h0 : j < n * i.size
    · simp only [Array.getElem?_range, h0, if_true, Option.map_some] at hj
      cases hj
      exact ⟨h0, (hget j h0).2⟩
    · simp only [Array.getElem?_range, h0, if_false, Option.map_none] at hj; cases hj
  obtain ⟨cs', c1, c2, c3, c4⟩ := FL (lv := lvH s.hp) (p := p) (cs := (Array.range (n * i.size)).map (fun x => z0[x % z0.size]!)) hf (vals := (parts.map fun (i, x) => (i, a.eval x)).toList) (by simp [Fc]) (MU R)
    (by simp [Q3, hzl]) (fun j x u hx hu => by
      obtain ⟨h2, h3⟩ := hcell j u hu
      obtain ⟨_, h4⟩ := JZ z n j x hx
      rw [hzs] at h4
      simp only [List.length_map, Array.length_toList, hsz] at h4
      exact FK v.cells _ x u h4 h3) (fun j u hu => h1 _ u (hcell j u hu).2)
  have hlen := Kl hf
  obtain ⟨f1, f2, f3, f4, f5, f6⟩ := H3 w cs' e
  refine H5 R hd hdd h f1 f2 f3 f4 f5 f6 (by omega) c3 c4 ?_
  have hnle : ¬ (n * i.size > 2 ^ 24) := by rw [← hzl]; omega
  have hc1 : Instr.fill (fun i_1 => some (i_1 * i.size, i.size)) ((Array.range (n * i.size)).map (fun x => z0[x % z0.size]!)) (parts.map fun (i, x) => (i, a.eval x)).toList = some cs' := by rw [← hzl] at c1 ⊢; exact c1
  by_cases h0 : n * i.size = 0
  · have hz0 : z0 = #[] := if_pos h0
    rw [hz0] at hc1
    simp only [execOp, ho, Instr.buildSlice, Sem.run_bind, run_underlying hu, Result.andThen_ok, AU (show Ad P e = some i.size by simp [Ad, hi]), Sem.run_ite, if_neg hnle, if_pos h0, Sem.run_pure, hc1, newRow, run_newObj, World.alloc_eq]
  · have hz0 : z0 = v.cells := if_neg h0
    rw [hz0] at hc1
    simp only [execOp, ho, Instr.buildSlice, Sem.run_bind, run_underlying hu, Result.andThen_ok, AU (show Ad P e = some i.size by simp [Ad, hi]), Sem.run_ite, if_neg hnle, if_neg h0, Sem.run_pure, zeroValue, typeInfo, run_program, hi, hv, hc1, newRow, run_newObj, World.alloc_eq]
theorem H7 (hT : BU P T.ty) {t : TypeId} {x : TI} (h : T.ty.get t = some x) {i : TypeInfo} (hi : P.info? t = some i) : i.bytes ≤ 65536 := by
  have := (hT t x h).2.2.2.2.1
  simpa [EX, hi] using this
theorem Wv {t : TypeId} {z : List CV} (h : II T t = some z) : ∃ x, T.ty.get t = some x := by
  unfold II at h
  obtain ⟨i, hi, _⟩ := Option.map_eq_some_iff.1 h
  exact ⟨i, hi⟩
theorem ZD {t : TypeId} {z : Nat} (h : szC T t = some z) : ∃ x, T.ty.get t = some x := by
  unfold szC at h
  obtain ⟨i, hi, _⟩ := Option.map_eq_some_iff.1 h
  exact ⟨i, hi⟩
theorem HD (hT : BU P T.ty) (R : Aj w0 fr s a w p) {o : Oper} (hd : Co s.nt o.dst = true) {nm : Nm} {t : TypeId} {l c : Operand} (ho : o.op = .makeSlice t l c) (h : LO T s nm o.dst t l c = some s') : Stp P w0 fr s' o a w := by
  unfold LO at h
  split at h
  case h_2 => cases h
  rename_i d e hdd hde
  split at h
  case h_2 => cases h
  rename_i z n m hz hl hc
  split at h
  case isFalse => cases h
  rename_i hh
  obtain ⟨h0, rfl, hle⟩ := hh
  have hu := Ax hT hde
  obtain ⟨i, v, hi, hv, hsz, hzs, h1⟩ := JU hT hz
  have hzl : z.length = i.size := by rw [hzs]; simp [hsz]
  obtain ⟨kl, hl'⟩ := CW hl (R.opd l)
  obtain ⟨kc, hc'⟩ := CW hc (R.opd c)
  obtain ⟨x, hx⟩ := Wv hz
  have hbytes := H7 hT hx hi
  obtain ⟨k, rfl⟩ : ∃ k : Nat, n = (k : Int) := ⟨n.toNat, by omega⟩
  have hmul : i.bytes * k ≤ 65536 * 65536 := Nat.mul_le_mul hbytes (by omega)
  obtain ⟨w', g1, g2, g3⟩ := run_make_full (P := P) w 0 t e i v i.size hu hi hv rfl kl kc k (by omega) (by simp only [maxLen]; omega) (Nat.zero_le _)
  rcases g2.2 with ⟨e0, _⟩ | ⟨g, cap, cur, e0, _, k2, k3, _, k5, k6⟩
  · cases e0
  injection e0 with e1 e2 e3
  injection e1 with e1
  injection e1 with e1
  subst e1; subst e3
  have hcur : cur = madeCells v.cells (k * i.size) := by
    have h9 : cur.toList.take (k * i.size) = cur.toList := List.take_of_length_le (by rw [Array.length_toList, k5]; exact Nat.le_refl _)
    rw [h9] at k6
    exact Array.toList_inj.1 k6
  have hcell : ∀ (j : Nat) (u : Value), cur[j]? = some u → v.cells[j % i.size]? = some u := fun j u hj => by
    rw [hcur] at hj
    unfold madeCells at hj
    rw [Array.getElem?_map] at hj
    by_cases h9 : j < k * i.size
    · simp only [Array.getElem?_range, h9, if_true, Option.map_some] at hj
      cases hj
      have hpos : 0 < i.size := Nat.pos_of_ne_zero (fun e => by rw [e, Nat.mul_zero] at h9; omega)
      have hlt : j % i.size < v.cells.size := by rw [hsz]; exact Nat.mod_lt _ hpos
      rw [hsz, getElem!_pos v.cells _ hlt, Array.getElem?_eq_getElem hlt]
    · simp only [Array.getElem?_range, h9, if_false, Option.map_none] at hj; cases hj
  have hgs : w.heap.size < w'.heap.size := (Array.getElem?_eq_some_iff.1 k2).1
  refine H5 (vs := cur) (ty := e) R hd hdd h hgs g3.os g3.tape g3.output (fun b hb => g3.block b hb (by simp)) k2 ?_ (fun j x u hx hu => ?_) (fun j u hu => h1 _ u (hcell j u hu)) ?_
  · rw [k5]; simp [Q3, hzl]
  · obtain ⟨_, h4⟩ := JZ z k j x (by simpa [Q3] using hx)
    rw [hzs] at h4
    simp only [List.length_map, Array.length_toList, hsz] at h4
    exact FK v.cells _ x u h4 (hcell j u hu)
  · simp [execOp, ho, hl', hc', g1]
theorem Nb (R : Aj w0 fr s a w p) {o : Oper} (hd : Co s.nt o.dst = true) {f : Fn} {first caps : Array Operand} (ho : o.op = .makeFunc f first caps) (h : NO s o.dst f first caps = some s') : Stp P w0 fr s' o a w := by
  unfold NO at h
  split at h
  case h_2 => cases h
  rename_i f hf
  cases h
  have e : first = #[] := by cases first; simpa using hf
  subst e
  refine Stp.val R hd (v := .func (.func f) #[] (caps.map a.eval)) (by simp [execOp, ho, Instr.makeFunc]) (.fn (by simp [IY]) (fun i x v hx hv => ?_))
  rw [IY] at hx
  simp only [List.getElem?_map, Array.getElem?_toList, Option.map_eq_some_iff] at hx
  simp only [Array.getElem?_map, Option.map_eq_some_iff] at hv
  obtain ⟨q, hq, rfl⟩ := hx
  obtain ⟨q', hq', rfl⟩ := hv
  rw [hq] at hq'; cases hq'
  exact R.opd q
theorem MV (hT : BU P T.ty) (R : Aj w0 fr s a w p) {o : Oper} (hd : Co s.nt o.dst = true) {nm : Nm} {t : TypeId} {x : Operand} (ho : o.op = .range t x) (ht : dsC T t = some .string) (h : LP s nm o.dst x = some s') : Stp P w0 fr s' o a w := by
  unfold LP at h
  have hx := R.opd x
  split at h
  case h_2 => cases h
  rename_i d b hdd hb
  rw [hb] at hx
  split at h
  case h_2 => cases h
  rename_i s1 hs1
  obtain ⟨hn, rfl⟩ := Dk hs1
  cases h
  generalize hax : a.eval x = ax at *
  cases hx with | str hs =>
  rename_i bs
  obtain ⟨p', R', e1, e2, hlv, _⟩ := R.h.new (nm := nm) (ob := .siter b 0) (w' := w.alloc (.stringIter bs 0)) hn (by simp) rfl rfl rfl (fun b hb => Below.heap_alloc w _ b hb) 0 (fun lv' p' _ e1 _ => ⟨bs, hs, by rw [e1]; exact heap_alloc_new w _⟩)
  have R1 : Aj w0 fr { s with hp := s.hp.set nm (.siter b 0) } a (w.alloc (.stringIter bs 0)) p' := ⟨R', R.nt, R.dfr⟩
  rw [← hdd]
  refine ⟨_, p', .inl ⟨.pointer (some ⟨w.heap.size, 0, none⟩), ?_, R1.put hd (by rw [← e1]; exact .ptr hlv)⟩⟩
  simp [execOp, ho, hax, Instr.range, run_underlying (Ax hT ht)]
end
end Go.Ev

namespace Go.Ev
open Go Go.Vl Go.RowKit
section
variable {P : Program} {T : Tab} {w0 : Kp} {fr : List (Array Value)} {s s' : Cx} {a : Act} {w : World} {p : Pm}
theorem RP {b : ByteArray} {s : List Nat} (h : b.data.toList.map (·.toNat) = s) : (⟨(s.map UInt8.ofNat).toArray⟩ : ByteArray) = b := (JX h).symm
theorem Nc (R : Aj w0 fr s a w p) {o : Oper} (hd : Co s.nt o.dst = true) {x : Operand} {b : Bool} (ho : o.op = .next x b) (h : NP s o.dst x b = some s') : Stp P w0 fr s' o a w := by
  unfold NP at h
  split at h
  case h_2 => cases h
  rename_i d hdd
  have hx := R.opd x
  unfold WP at h
  split at h
  case h_2 => cases h
  rename_i n hn
  rw [hn] at hx
  split at h
  case h_2 => cases h
  rename_i bs pos hob
  obtain ⟨b, hb, hat⟩ := R.h.ob n _ hob
  generalize hax : a.eval x = ax at *
  cases hx with | ptr hlv =>
  have hsz := Fe hb
  rw [RP hb] at h
  split at h
  · rename_i hlt
    cases h
    have hR := R.h.setO (ob := .siter bs (pos + (Utf8.decode b pos).2)) (w' := { w with heap := w.heap.setIfInBounds (p.b n) (.stringIter b (pos + (Utf8.decode b pos).2)) }) hob rfl (by simp) rfl rfl rfl (fun b' hb' => by simp [Array.getElem?_setIfInBounds, Ne.symm hb']) ⟨b, hb, by simp [(Array.getElem?_eq_some_iff.1 hat).1]⟩
    have R1 : Aj w0 fr (s.set n (.siter bs (pos + (Utf8.decode b pos).2))) a _ p := ⟨hR, R.nt, R.dfr⟩
    rw [← hdd]
    refine ⟨_, p, .inl ⟨.tuple #[.bool true, goInt pos, .int .i32 (Utf8.decode b pos).1], ?_, R1.put hd (.tup rfl (fun i x v hx hv => ?_))⟩⟩
    · have hlt' : pos < b.size := by omega
      simp [execOp, ho, hax, Instr.next, getObj, setObj, Sem.run, hat, hlt']
    · match i with
      | 0 => simp at hx hv; subst hx; subst hv; exact .bool
      | 1 => simp at hx hv; subst hx; subst hv; exact .int
      | 2 => simp at hx hv; subst hx; subst hv; exact .int
      | i + 3 => simp at hx
  · rename_i hlt
    cases h
    rw [← hdd]
    refine Stp.val R hd (v := .tuple #[.bool false]) ?_ (.tup rfl (fun i x v hx hv => ?_))
    · have hlt' : ¬ pos < b.size := by omega
      simp [execOp, ho, hax, Instr.next, getObj, Sem.run, hat, hlt']
    · match i with
      | 0 => simp at hx hv; subst hx; subst hv; exact .bool
      | i + 1 => simp at hx
theorem IZ {t : TypeId} {k : Nat} (h : Ad P t = some k) : ∃ i, P.info? t = some i ∧ i.size = k := by
  unfold Ad at h
  obtain ⟨i, hi, e⟩ := Option.map_eq_some_iff.1 h
  exact ⟨i, hi, e⟩
theorem Pe {e : TypeId} {count : Nat} (hc : P.cellsOf e ≠ 0) (hn : 1 ≤ count) : liesAt P P.depth e count 0 e 1 = true := by
  have hd : P.depth = (2 * (P.types.size + Made.depth) + 1) + 1 := rfl
  rw [hd]
  simp only [liesAt, Bool.or_eq_true]
  left
  rw [hd]
  simp [rowAt, hc, hn, sameLayout]
theorem Nf (hT : BU P T.ty) (R : Aj w0 fr s a w p) {o : Oper} (hd : Co s.nt o.dst = true) {nm : Nm} {t u : TypeId} {x : Operand} (ho : o.op = .convert t u x) (h : NQ T s nm o.dst t u x = some s') : Stp P w0 fr s' o a w := by
  unfold NQ at h
  split at h
  case h_2 => cases h
  rename_i d hdd
  have hx := R.opd x
  unfold WO at h
  split at h
  · rename_i e b h1 h2 hq
    rw [hq] at hx
    split at h
    case h_2 => cases h
    rename_i h3
    obtain ⟨s1, hs1, rfl⟩ := Option.map_eq_some_iff.1 h
    obtain ⟨hn, rfl⟩ := Dk hs1
    generalize hax : a.eval x = ax at *
    cases hx with | str hs =>
    rename_i bs
    have hsz := Fe hs
    have hrun := Lib.run_convert_string_bytes (P := P) w t u e bs (Ax hT h1) (Ax hT h2) (Ax hT h3)
    have hws : (Lib.bytesWorld w e bs).os = w.os ∧ (Lib.bytesWorld w e bs).tape = w.tape ∧ (Lib.bytesWorld w e bs).output = w.output := ⟨rfl, rfl, rfl⟩
    obtain ⟨p', R', e1, e2, hlv, _⟩ := R.h.new (nm := nm) (ob := .rd (b.map fun (x : Nat) => CV.int .u8 (x : Int))) (w' := Lib.bytesWorld w e bs) hn (by rw [Lib.bytesWorld_size]; omega) hws.1 hws.2.1 hws.2.2 (fun j hj => Lib.bytesWorld_at_old w e bs j hj) (grownCap w bs.size 0 e) (fun lv' p' _ e1 _ => by
      refine ⟨Lib.bytesCells w e bs, e, _, by rw [e1]; exact Lib.bytesWorld_at_new w e bs, ?_, fun i c v hc hv => ?_, fun i v hv => ?_⟩
      · simp only [List.length_map, Lib.bytesCells, Array.size_append, Array.size_map, Array.size_replicate, ← hsz]
        have : bs.data.size = bs.size := rfl
        omega
      · unfold Lib.bytesCells at hv
        subst hs
        rw [List.map_map, List.getElem?_map] at hc
        obtain ⟨q, hq1, rfl⟩ := Option.map_eq_some_iff.1 hc
        have hi : i < bs.data.size := by have := (List.getElem?_eq_some_iff.1 hq1).1; simpa using this
        rw [Array.getElem?_append_left (by simpa using hi), Array.getElem?_map] at hv
        rw [Array.getElem?_toList] at hq1
        rw [hq1] at hv
        cases hv
        exact .int
      · unfold Lib.bytesCells at hv
        rw [Array.getElem?_append] at hv
        split at hv
        · rw [Array.getElem?_map] at hv
          obtain ⟨q, _, rfl⟩ := Option.map_eq_some_iff.1 hv
          rfl
        · rw [Array.getElem?_replicate] at hv
          split at hv
          · cases hv; rfl
          · cases hv)
    have R1 : Aj w0 fr { s with hp := s.hp.set nm (.rd (b.map fun (x : Nat) => CV.int .u8 (x : Int))) } a (Lib.bytesWorld w e bs) p' := ⟨R', R.nt, R.dfr⟩
    rw [← hdd]
    refine ⟨_, p', .inl ⟨.slice (some ⟨w.heap.size, 0, none⟩) bs.size (grownCap w bs.size 0 e), ?_, R1.put hd ?_⟩⟩
    · simp [execOp, ho, hax, hrun]
    · rw [← e1, hsz]
      exact .sl hlv (by rw [← hsz]; exact grownCap_ge w _ _ e) (fun k hk => by cases hk) (fun _ _ => by rw [e2, hsz])
  · rename_i e n q h1 h2 hq
    rw [hq] at hx
    split at h
    case h_2 => cases h
    rename_i l z m k hob hz
    split at h
    case isFalse => cases h
    rename_i hlt
    cases h
    obtain ⟨vs, ty, g1, g2, _⟩ := R.h.ob n _ hob
    obtain ⟨i, hi, hiz⟩ := IZ (Dj hT hz)
    generalize hax : a.eval x = ax at *
    cases hx with | ptr hlv =>
    rw [← hdd]
    refine Stp.val R hd (v := .pointer (some ⟨p.b n, q, none⟩)) ?_ (.ptr hlv)
    have := Lib.run_to_unsafe (P := P) w ⟨p.b n, q, none⟩ (Ax hT h1) (Ax hT h2) hi (by omega) (e := ty) (cells := vs.size) (by simp [World.shape?, g1]) (by show q < vs.size; omega)
    simp [execOp, ho, hax, this]
  · rename_i e n h1 h2 hq
    rw [hq] at hx
    split at h
    case h_2 => cases h
    rename_i l z e' k hob hz
    split at h
    case isFalse => cases h
    rename_i hlt
    obtain ⟨rfl, rfl, hl0⟩ := hlt
    cases h
    obtain ⟨vs, ty, g1, g2, _, _, g5⟩ := R.h.ob n _ hob
    obtain ⟨rfl, g6⟩ := g5 _ rfl
    obtain ⟨i, hi, hiz⟩ := IZ (Dj hT hz)
    generalize hax : a.eval x = ax at *
    cases hx with | ptr hlv =>
    rw [← hdd]
    refine Stp.val R hd (v := .pointer (some ⟨p.b n, 0, none⟩)) ?_ (.ptr hlv)
    have hc : P.cellsOf ty = k + 1 := by simp [Program.cellsOf, hi, hiz]
    have hcnt : 1 ≤ vs.size / P.cellsOf ty := by
      rw [hc, g6, Nat.mul_div_cancel _ (Nat.succ_pos k)]
      cases hq : p.c n with
      | zero => rw [hq, Nat.zero_mul] at g6; omega
      | succ j => omega
    have := Lib.run_from_unsafe (P := P) w ⟨p.b n, 0, none⟩ (Ax hT h1) (Ax hT h2) hi (e := ty) (cells := vs.size) (by simp [World.shape?, g1]) (Pe (by omega) hcnt)
    simp [execOp, ho, hax, this]
  · rename_i d0 k k0 n h1 h2 hq
    rw [hq] at hx
    cases h
    generalize hax : a.eval x = ax at *
    cases hx
    rw [← hdd]
    exact Stp.val R hd (v := .int k (k.wrap n)) (by simp [execOp, ho, hax, convert, run_underlying (Ax hT h1), run_underlying (Ax hT h2), Conv.intToInt]) .int
  · cases h
theorem Gp (R : Aj w0 fr s a w p) {d : Int} {o : Option Operand} {n : Int} (h : bnd d (Ez s o) = some n) : ∃ r : Option Int, ((o.map a.eval = none ∧ r = none) ∨ ∃ k n, o.map a.eval = some (.int k n) ∧ r = some n) ∧ r.getD d = n := by
  cases o with
  | none => simp [Ez, bnd] at h; subst h; exact ⟨none, .inl ⟨rfl, rfl⟩, rfl⟩
  | some x =>
    simp only [Ez, bnd] at h
    obtain ⟨k, hk⟩ := CW h (R.opd x)
    exact ⟨some n, .inr ⟨k, n, by simp [hk], rfl⟩, rfl⟩
theorem MW (hT : BU P T.ty) (R : Aj w0 fr s a w p) {o : Oper} (hd : Co s.nt o.dst = true) {t : TypeId} {x : Operand} {lo hi mx : Option Operand} (ho : o.op = .slice t x lo hi mx) {y : CV} (h : NM T t (opd s x) (Ez s lo) (Ez s hi) (Ez s mx) = some y) :
    ∃ v, (execOp a.eval o).run P w = .ok (.value v) w ∧ RV (lvH s.hp) p y v := by
  unfold NM at h
  have hx := R.opd x
  split at h
  · rename_i b ht hb
    rw [hb] at hx
    cases hl : bnd 0 (Ez s lo) with
    | none => simp [hl] at h
    | some l =>
      cases hh : bnd b.length (Ez s hi) with
      | none => simp [hl, hh] at h
      | some r =>
        simp only [hl, hh, Option.bind_some] at h
        split at h
        case isFalse => cases h
        rename_i hc
        obtain ⟨hm, c1, c2, c3⟩ := hc
        cases h
        have hmx : mx = none := by cases mx with | none => rfl | some _ => simp [Ez] at hm
        subst hmx
        obtain ⟨rl, hl1, hl2⟩ := Gp R hl
        obtain ⟨rh, hh1, hh2⟩ := Gp R hh
        generalize hax : a.eval x = ax at *
        cases hx with | str hs =>
        rename_i bs
        have hsz := Fe hs
        rw [← hsz] at hh2 c3
        have hb := Cs (P := P) (w := w) (isS := false) (len := bs.size) (cap := bs.size) hl1 hh1 (by rw [hl2]; exact c1) (by rw [hl2, hh2]; exact c2) (by rw [hh2]; exact c3) (Nat.le_refl _)
        rw [hl2, hh2] at hb
        refine ⟨.string (bs.extract l.toNat r.toNat), ?_, .str ?_⟩
        · simp [execOp, ho, hax, Instr.sliceAt, Instr.slice, run_underlying (Ax hT ht), hb]
        · subst hs
          rw [ByteArray.data_extract, Array.toList_extract]
          simp only [List.extract, List.map_take, List.map_drop, List.drop_take]
  · rename_i e n q l c ht hb
    rw [hb] at hx
    cases hz : szC T e with
    | none => simp [hz] at h
    | some z =>
    cases hl : bnd 0 (Ez s lo) with
    | none => simp [hz, hl] at h
    | some i =>
      cases hh : bnd l (Ez s hi) with
      | none => simp [hz, hl, hh] at h
      | some r =>
        simp only [hz, hl, hh, Option.bind_some] at h
        split at h
        case isFalse => cases h
        rename_i hc
        obtain ⟨c1, c2, c3, c4, c5⟩ := hc
        obtain ⟨rl, hl1, hl2⟩ := Gp R hl
        obtain ⟨rh, hh1, hh2⟩ := Gp R hh
        generalize hax : a.eval x = ax at *
        cases hx with | sl hlv g1 g2 g3 =>
        rename_i cap
        split at h
        · rename_i hm
          have hmx : mx = none := by cases mx with | none => rfl | some _ => simp [Ez] at hm
          subst hmx
          cases h
          have hb := Cs (P := P) (w := w) (isS := true) (len := l) (cap := cap) hl1 hh1 (by rw [hl2]; exact c1) (by rw [hl2, hh2]; exact c2) (by rw [hh2]; exact c3) g1
          rw [hl2, hh2] at hb
          refine ⟨.slice (some ⟨p.b n, q + i.toNat * z, none⟩) (r - i).toNat (cap - i.toNat), ?_, .sl hlv (by omega) (fun k hk => ?_) (fun hk h0 => ?_)⟩
          · have e1 : (r - i).toNat = r.toNat - i.toNat := by omega
            have e2 : (if cap = i.toNat then (some ⟨p.b n, q, none⟩ : Option Addr) else (some ⟨p.b n, q, none⟩ : Option Addr).map (·.add (i.toNat * z))) = some ⟨p.b n, q + i.toNat * z, none⟩ := by
              split
              · have : i.toNat = 0 := by omega
                rw [this]; simp
              · simp [Ah]
            simp only [execOp, ho, hax, Option.map_none, Instr.sliceAt, Instr.slice, Sem.run_bind, run_underlying (Ax hT ht), Result.andThen_ok, hb, AU (Dj hT hz), Sem.run_pure, e1, e2]
          · obtain ⟨c', hc', rfl⟩ := Option.map_eq_some_iff.1 hk
            rw [g2 _ hc']
          · cases c with
            | some c => cases hk
            | none =>
              have h8 : q = 0 ∧ i.toNat * z = 0 := by omega
              have h9 : i.toNat = 0 := (Nat.mul_eq_zero.1 h8.2).resolve_right (by omega)
              rw [h9, Nat.sub_zero]
              exact g3 rfl h8.1
        · rename_i m hm
          cases hmi : intOf m with
          | none => simp [hmi] at h
          | some m' =>
            simp only [hmi, Option.bind_some] at h
            split at h
            case isFalse => cases h
            rename_i hcc
            obtain ⟨d1, d2, d3⟩ := hcc
            cases h
            cases mx with
            | none => cases hm
            | some mo =>
              simp only [Ez, Option.some.injEq] at hm
              subst hm
              obtain ⟨km, hkm⟩ := CW hmi (R.opd mo)
              cases hi with
              | none => simp [Ez] at d3
              | some ho' =>
                simp only [Ez, bnd] at hh
                obtain ⟨kh, hkh⟩ := CW hh (R.opd ho')
                have hb := Hk (P := P) (w := w) (len := l) (cap := cap) (k := kh) (k' := km) hl1 (by rw [hl2]; exact c1) (by rw [hl2]; exact c2) d1 (by omega : m' ≤ cap)
                rw [hl2] at hb
                refine ⟨.slice (some ⟨p.b n, q + i.toNat * z, none⟩) (r - i).toNat (m' - i).toNat, ?_, .sl hlv (by omega) (fun k hk => by cases hk; rfl) (fun hk => by cases hk)⟩
                have e1 : (r - i).toNat = r.toNat - i.toNat := by omega
                have e3 : (m' - i).toNat = m'.toNat - i.toNat := by omega
                have e2 : (if m'.toNat = i.toNat then (some ⟨p.b n, q, none⟩ : Option Addr) else some ((⟨p.b n, q, none⟩ : Addr).add (i.toNat * z))) = some ⟨p.b n, q + i.toNat * z, none⟩ := by
                  split
                  · have : i.toNat = 0 := by omega
                    rw [this]; simp
                  · simp [Ah]
                simp only [execOp, ho, hax, hkm, hkh, Option.map_some, Instr.sliceAt, Instr.slice, Sem.run_bind, run_underlying (Ax hT ht), Result.andThen_ok, hb, AU (Dj hT hz), Sem.run_pure, e1, e2, e3]
  · cases h
end
end Go.Ev

namespace Go.Ev
open Go Go.Vl Go.RowKit
section
variable {P : Program} {T : Tab} {w0 : Kp} {fr : List (Array Value)} {s s' : Cx} {a : Act} {w : World} {p : Pm}
theorem Pf (R : Aj w0 fr s a w p) {o : Oper} (hd : Co s.nt o.dst = true) {x y : Operand} {ts : List TypeId} (ho : o.op = .call { callee := .builtin .min, args := #[x, y], argTypes := ts.toArray }) (h : Kh s o.dst x y false = some s') : Stp P w0 fr s' o a w := by
  unfold Kh at h
  have g1 := R.opd x
  have g2 := R.opd y
  split at h
  case h_2 => cases h
  rename_i u v h1 h2
  cases h
  rw [h1] at g1; rw [h2] at g2
  have e1 : a.eval x = .int .i64 u := by generalize a.eval x = q at g1; cases g1; rfl
  have e2 : a.eval y = .int .i64 v := by generalize a.eval y = q at g2; cases g2; rfl
  refine Stp.val R hd (v := .int .i64 (if v < u then v else u)) ?_ .int
  simp [execOp, ho, resolve, invoke, builtin, e1, e2, Builtin.min_, Builtin.min2]
theorem Pg (R : Aj w0 fr s a w p) {o : Oper} (hd : Co s.nt o.dst = true) {x y : Operand} {ts : List TypeId} (ho : o.op = .call { callee := .builtin .max, args := #[x, y], argTypes := ts.toArray }) (h : Kh s o.dst x y true = some s') : Stp P w0 fr s' o a w := by
  unfold Kh at h
  have g1 := R.opd x
  have g2 := R.opd y
  split at h
  case h_2 => cases h
  rename_i u v h1 h2
  cases h
  rw [h1] at g1; rw [h2] at g2
  have e1 : a.eval x = .int .i64 u := by generalize a.eval x = q at g1; cases g1; rfl
  have e2 : a.eval y = .int .i64 v := by generalize a.eval y = q at g2; cases g2; rfl
  refine Stp.val R hd (v := .int .i64 (if v > u then v else u)) ?_ .int
  simp [execOp, ho, resolve, invoke, builtin, e1, e2, Builtin.max_, Builtin.max2]
theorem Ia (hT : BU P T.ty) {t : TypeId} (h : Kg T t = true) : ∃ e, P.underlying t = some (.slice e) := by
  unfold Kg at h
  split at h
  case h_2 => cases h
  rename_i e hd
  exact ⟨e, Ax hT hd⟩
theorem Ph (hT : BU P T.ty) (R : Aj w0 fr s a w p) {o : Oper} (hd : Co s.nt o.dst = true) {x : Operand} {t : TypeId} (ho : o.op = .call { callee := .builtin .cap, args := #[x], argTypes := #[t] }) (h : Q7 T s o.dst t x = some s') : Stp P w0 fr s' o a w := by
  unfold Q7 at h
  have g1 := R.opd x
  split at h
  · rename_i n q l c ht hx
    cases h
    rw [hx] at g1
    obtain ⟨e, hu⟩ := Ia hT ht
    generalize hax : a.eval x = ax at *
    cases g1 with | sl k1 k2 k3 k4 =>
    rename_i cap
    have := k3 _ rfl
    subst this
    refine Stp.val R hd (v := .int .i64 cap) ?_ .int
    simp [execOp, ho, resolve, invoke, builtin, hax, Builtin.cap_, run_underlying hu, goInt]
  · rename_i ht hx
    cases h
    rw [hx] at g1
    obtain ⟨e, hu⟩ := Ia hT ht
    generalize hax : a.eval x = ax at *
    cases g1
    refine Stp.val R hd (v := .int .i64 0) ?_ .int
    simp [execOp, ho, resolve, invoke, builtin, hax, Builtin.cap_, run_underlying hu, goInt]
  · cases h
theorem Ng (R : Aj w0 fr s a w p) {o : Oper} (hd : Co s.nt o.dst = true) {x : Operand} {ts : List TypeId} (ho : o.op = .call { callee := .builtin .unsafeSliceData, args := #[x], argTypes := ts.toArray }) (h : NS s o.dst x = some s') : Stp P w0 fr s' o a w := by
  unfold NS at h
  have g1 := R.opd x
  split at h
  case h_2 => cases h
  rename_i n q l c hx
  rw [hx] at g1
  split at h
  case isFalse => cases h
  rename_i hl
  cases h
  generalize hax : a.eval x = ax at *
  cases g1 with | sl k1 k2 k3 k4 =>
  rename_i cap
  refine Stp.val R hd (v := .pointer (some ⟨p.b n, q, none⟩)) ?_ (.ptr k1)
  have := Lib.run_unsafeSliceData_row (P := P) w ts.toArray o.type ⟨p.b n, q, none⟩ l cap (by omega)
  simp [execOp, ho, resolve, invoke, builtin, hax, this]
theorem RQ {y : CV} {n : Int} (h : NN y = some n) {lv : Nm → Prop} {v : Value} (hv : RV lv p y v) : ∃ k : Nat, n = k ∧ ∀ w : World, (Builtin.lenOf v).run P w = .ok k w := by
  unfold NN at h
  split at h
  · cases h; cases hv with | str hs => exact ⟨_, rfl, fun w => by simp [Builtin.lenOf, Fe hs]⟩
  · cases h; cases hv with | sl => exact ⟨_, rfl, fun w => rfl⟩
  · cases h; cases hv with | nils => exact ⟨0, rfl, fun w => rfl⟩
  · cases h
theorem RR {y : CV} {n : Int} (h : NN y = some n) {lv : Nm → Prop} {v : Value} (hv : RV lv p y v) (size : Nat) (w : World) : (Builtin.firstCells size 0 v).run P w = .ok #[] w := by
  unfold NN at h
  split at h
  · cases hv with | str hs => simp [Builtin.firstCells]
  · cases hv with | sl => simp [Builtin.firstCells, loadCells, loadCellsFrom]
  · cases hv with | nils => simp [Builtin.firstCells]
  · cases h
theorem F3 (hT : BU P T.ty) (R : Aj w0 fr s a w p) {o : Oper} (hd : Co s.nt o.dst = true) {x y : Operand} {t t' : TypeId} (ho : o.op = .call { callee := .builtin .copy, args := #[x, y], argTypes := #[t, t'] }) (h : NR T s o.dst t x y = some s') : Stp P w0 fr s' o a w := by
  unfold NR at h
  have g1 := R.opd x
  have g2 := R.opd y
  split at h
  · rename_i e n ht hx hy
    rw [hx] at g1
    split at h
    case h_2 => cases h
    rename_i z hz
    cases h
    obtain ⟨k, rfl, hk⟩ := RQ (P := P) hy g2
    have hf := RR (P := P) hy g2 z w
    generalize hax : a.eval x = ax at *
    generalize hay : a.eval y = ay at *
    cases g1
    refine Stp.val R hd (v := .int .i64 0) ?_ .int
    simp [execOp, ho, resolve, invoke, builtin, hax, hay, Builtin.copy_, run_underlying (Ax hT ht), AU (Dj hT hz), hk, hf, goInt]
  · rename_i e n q l c b ht hx hy
    rw [hx] at g1
    split at h
    case h_2 => cases h
    rename_i z hz
    split at h
    case isFalse => cases h
    rename_i h0
    cases h
    obtain ⟨k, rfl, hk⟩ := RQ (P := P) hy g2
    have hf := RR (P := P) hy g2 z w
    generalize hax : a.eval x = ax at *
    generalize hay : a.eval y = ay at *
    cases g1
    refine Stp.val R hd (v := .int .i64 0) ?_ .int
    have hm : Nat.min k l = 0 := by
      rcases h0 with h0 | h0
      · rw [h0]; exact Nat.min_zero k
      · have : k = 0 := by omega
        rw [this]; exact Nat.zero_min l
    simp [execOp, ho, resolve, invoke, builtin, hax, hay, Builtin.copy_, run_underlying (Ax hT ht), AU (Dj hT hz), hk, hm, hf, goInt, storeCells]
  · cases h
end
end Go.Ev

namespace Go.Ev
open Go Go.Vl Go.RowKit
section
variable {P : Program} {T : Tab} {w0 : Kp} {fr : List (Array Value)} {s s' : Cx} {a : Act} {w : World} {p : Pm}
theorem setCells_eq (P : Program) {b off : Nat} {ty : TypeId} {cur : Array Value} {news : List Value} (hb : w.heap[b]? = some (.cells cur ty (0, 0))) (hle : off + news.length ≤ cur.size) (h1 : ∀ v ∈ news, v.oneCell' = true) :
    w.setCells b off news = w.setRow b (cur.toList.take off ++ news ++ cur.toList.drop (off + news.length)).toArray := by
  have e1 := run_storeCells_at P b off ty news 0 cur w hb (by simpa using hle) h1
  have e2 := run_storeCells_cells (P := P) b off news 0 w (fun j hj => by rw [cell_of_row w b _ cur ty _ hb]; simp; omega) (fun j hj => frozen_of_row w b _ cur ty hb) h1
  simp only [Nat.add_zero] at e1 e2
  rw [e1] at e2
  injection e2 with _ e2
  exact e2.symm
theorem Ww (hT : BU P T.ty) (R : Aj w0 fr s a w p) {e t' : TypeId} {y : CV} {ys : List CV} {n z : Nat} (h : TM T s e y = some (ys, n)) (hz : szC T e = some z) (ht : Ec T t' y = true) {u : Value} (hu : RV (lvH s.hp) p y u) :
    ∃ news, Src P z t' u n news w ∧ ys.length = news.length ∧ (∀ (i : Nat) (c : CV) (v : Value), ys[i]? = some c → news[i]? = some v → RV (lvH s.hp) p c v) := by
  unfold TM at h
  split at h
  · cases h
    obtain ⟨e', he⟩ := Ia hT (t := t') (by simpa [Ec] using ht)
    cases hu
    exact ⟨[], Src.ofNil w he 0, rfl, fun i c v hc => by simp at hc⟩
  · rename_i b
    split at h
    case h_2 => cases h
    rename_i hz1
    rw [hz] at hz1
    cases hz1
    cases h
    have hd : P.underlying t' = some .string := by
      simp only [Ec] at ht
      split at ht
      case h_2 => cases ht
      rename_i hd
      exact Ax hT hd
    cases hu with | str hs =>
    rename_i bs
    subst hs
    refine ⟨byteCells bs, by rw [List.length_map, Array.length_toList]; exact Src.ofString w hd bs, by simp [byteCells], fun i c v hc hv => ?_⟩
    rw [List.getElem?_map, List.getElem?_map] at hc
    unfold byteCells at hv
    rw [List.getElem?_map] at hv
    cases hq : bs.data.toList[i]? with
    | none => rw [hq] at hc; cases hc
    | some q =>
      rw [hq] at hc hv
      cases hc; cases hv
      exact .int
  · rename_i n' o l c
    split at h
    case h_2 => cases h
    rename_i cs z' m hob
    rw [hz] at h
    simp only [Option.bind_some] at h
    split at h
    case isFalse => cases h
    rename_i hle
    cases h
    obtain ⟨e', he⟩ := Ia hT (t := t') (by simpa [Ec] using ht)
    obtain ⟨vs, ty, g1, g2, g3, g4, _⟩ := R.h.ob n' _ hob
    cases hu with | sl k1 k2 k3 k4 =>
    rename_i cap
    have hlen : ((vs.toList.drop o).take (n * z)).length = n * z := by simp; omega
    refine ⟨(vs.toList.drop o).take (n * z), Src.ofSlice w he ⟨p.b n', o, none⟩ n cap _ hlen (fun j u hj => ?_) (fun u hm => ?_), by rw [hlen]; simp; omega, fun i c v hc hv => ?_⟩
    · rw [Ah, cell_of_row w _ _ vs ty _ g1]
      rw [List.getElem?_take] at hj
      split at hj
      case isFalse => cases hj
      rw [List.getElem?_drop] at hj
      simpa using hj
    · obtain ⟨j, hj⟩ := List.getElem?_of_mem hm
      rw [List.getElem?_take] at hj
      split at hj
      case isFalse => cases hj
      rw [List.getElem?_drop] at hj
      exact g4 (o + j) u (by simpa using hj)
    · rw [List.getElem?_take] at hv hc
      split at hv
      case isFalse => cases hv
      rename_i hi
      rw [if_pos hi] at hc
      rw [List.getElem?_drop] at hv hc
      exact g3 (o + i) c v hc (by simpa using hv)
  · cases h
theorem Of {hp : Hp} {n : Nm} {o0 : Ob} (hn : hp.get n = some o0) (hro : o0.ro = false) : ∀ m l, hp.get m = some (.rd l) → Nat.beq n m = false := fun m l h => by
  cases he : Nat.beq n m with
  | false => rfl
  | true =>
    have e := Nat.eq_of_beq_eq_true he
    subst e
    rw [hn] at h; cases h; cases hro
theorem BD.take {stk : List Env} {hp : Hp} {fr : List (Array Value)} (R : BD w0 fr stk hp w p) {n nm : Nm} {o0 ob : Ob} (hn : hp.get n = some o0) (hro : o0.ro = false) (hnm : (By (Nat.beq n) hp).get nm = none) {w' : World} (hs : w'.heap.size = w.heap.size) (ho : w'.os = w.os) (ht : w'.tape = w.tape) (hu : w'.output = w.output) (hb : ∀ b, b ≠ p.b n → w'.heap[b]? = w.heap[b]?) (c : Nat)
    (hob : ∀ (lv' : Nm → Prop) (p' : Pm), (∀ x v, RV (lvH hp) p x v → RV lv' p' (scr (Nat.beq n) x) v) → p'.b nm = p.b n → p'.c nm = c → KH lv' p' w' nm ob) : ∃ p', BD w0 fr (stk.map (Gh (Nat.beq n))) ((By (Nat.beq n) hp).set nm ob) w' p' ∧ p'.b nm = p.b n ∧ p'.c nm = c ∧ lvH ((By (Nat.beq n) hp).set nm ob) nm := by
  have hne : ∀ m, lvH (By (Nat.beq n) hp) m → m ≠ nm := fun m h e => by subst e; unfold lvH at h; rw [hnm] at h; cases h
  have hl : ∀ m, lvH hp m → Nat.beq n m = false → lvH ((By (Nat.beq n) hp).set nm ob) m ∧ upd p.b nm (p.b n) m = p.b m ∧ upd p.c nm c m = p.c m := fun m h hk => by
    have h1 : lvH (By (Nat.beq n) hp) m := Ci.2 ⟨hk, h⟩
    exact ⟨BP.2 (.inr h1), upd_ne _ _ (hne m h1), upd_ne _ _ (hne m h1)⟩
  have hkn : ∀ m, lvH (By (Nat.beq n) hp) m → m ≠ n ∧ lvH hp m := fun m h => by
    obtain ⟨h1, h2⟩ := Ci.1 h
    exact ⟨fun e => by subst e; simp at h1, h2⟩
  refine ⟨⟨upd p.b nm (p.b n), upd p.c nm c⟩, ?_, upd_same _ _ _, upd_same _ _ _, BP.2 (.inl rfl)⟩
  exact { size := by rw [hs]; exact R.size, os := ho.trans R.os, tape := ht.trans R.tape, output := hu.trans R.output
          klt := R.klt
          old := fun b h => (hb b (fun e => R.base n o0 hn hro (e ▸ h))).trans (R.old b h)
          pin := fun q hq => by
            obtain ⟨h1, h2, l, h3⟩ := R.pin q hq
            have h4 : (By (Nat.beq n) hp).get q.1 = some (.rd (l.map (scr (Nat.beq n)))) := by rw [C8, Of hn hro _ _ h3, h3]; rfl
            have h5 := hne _ (A6 h4)
            exact ⟨(upd_ne _ _ h5).trans h1, (upd_ne _ _ h5).trans h2, _, by rw [BM, if_neg h5]; exact h4⟩
          stk := R.stk.turn hl
          ob := fun m o h => by
            rw [BM] at h
            split at h
            · rename_i e; subst e; cases h
              exact hob _ _ (fun x v hx => hx.scr hl) (upd_same _ _ _) (upd_same _ _ _)
            · rename_i e
              have hlm := hkn m (A6 h)
              rw [C8] at h
              split at h
              · cases h
              · obtain ⟨q, hq, rfl⟩ := Option.map_eq_some_iff.1 h
                exact (R.ob m q hq).turn hl (upd_ne _ _ e) (upd_ne _ _ e) (hb _ (R.inj m n hlm.2 (A6 hn) hlm.1))
          base := fun m o h ho' => by
            rw [BM] at h
            split at h
            · rename_i e; subst e; simp only [upd_same]; exact R.base n o0 hn hro
            · rename_i e
              simp only [upd_ne _ _ e]
              rw [C8] at h
              split at h
              · cases h
              · obtain ⟨q, hq, rfl⟩ := Option.map_eq_some_iff.1 h
                exact R.base m q hq (by rw [← Oc (Nat.beq n)]; exact ho')
          inj := fun m k h1 h2 e => by
            rcases BP.1 h1 with e1 | h1
            · rcases BP.1 h2 with e2 | h2
              · exact absurd (e1.trans e2.symm) e
              · rw [e1]
                simp only [upd_same, upd_ne _ _ (hne k h2)]
                exact R.inj n k (A6 hn) (hkn k h2).2 (Ne.symm (hkn k h2).1)
            · rcases BP.1 h2 with e2 | h2
              · rw [e2]
                simp only [upd_same, upd_ne _ _ (hne m h1)]
                exact R.inj m n (hkn m h1).2 (A6 hn) (hkn m h1).1
              · simp only [upd_ne _ _ (hne m h1), upd_ne _ _ (hne k h2)]
                exact R.inj m k (hkn m h1).2 (hkn k h2).2 e }
theorem Aj.kill (R : Aj w0 fr s a w p) (k : Nm → Bool) (hk : ∀ n l, s.hp.get n = some (.rd l) → k n = false) : Aj w0 fr (s.kill k) a w p := ⟨R.h.kill k hk, R.nt, R.dfr⟩
theorem Jb (R : Aj w0 fr s a w p) {d : Option Nat} (hd : Co s.nt d = true) {nm : Nm} (hn : s.hp.get nm = none) {C : List CV} {vals : List Value} {zv : Array Value} {e : TypeId} {z G k m : Nat} (hl : C.length = vals.length) (hG : vals.length + k * zv.size = G * z) (hm : m ≤ G)
    (hr : ∀ (i : Nat) (c : CV) (v : Value), C[i]? = some c → vals[i]? = some v → RV (lvH s.hp) p c v) (h1 : ∀ u ∈ vals, u.oneCell' = true) (hz : ∀ (j : Nat) (u : Value), zv[j]? = some u → u.oneCell' = true) :
    ∃ p', Aj w0 fr (Cx.put { s with hp := s.hp.set nm (.cells C z (some e)) } d (.sl nm 0 m none)) (a.put d (.slice (some ⟨w.heap.size, 0, none⟩) m G)) (w.drew.alloc (.cells (vals.toArray ++ Builtin.zeroCells zv k) e)) p' := by
  have hsz : (vals.toArray ++ Builtin.zeroCells zv k).size = G * z := by simp only [Array.size_append, List.size_toArray, size_zeroCells]; exact hG
  have hz' : ∀ (j : Nat) (u : Value), (Builtin.zeroCells zv k)[j]? = some u → u.oneCell' = true := fun j u hj => by
    unfold Builtin.zeroCells at hj
    rw [Array.getElem?_map] at hj
    obtain ⟨q, hq, rfl⟩ := Option.map_eq_some_iff.1 hj
    have hlt : q < k * zv.size := by
      obtain ⟨h1, h2⟩ := Array.getElem?_eq_some_iff.1 hq
      simp at h1 h2; omega
    have hpos : 0 < zv.size := Nat.pos_of_ne_zero (fun e => by rw [e, Nat.mul_zero] at hlt; omega)
    have hm : q % zv.size < zv.size := Nat.mod_lt _ hpos
    rw [getElem!_pos zv _ hm]
    exact hz _ _ (Array.getElem?_eq_getElem hm)
  refine R.newCells (l := C) (z := z) (c := G) (m := some e) hd hn (vs := vals.toArray ++ Builtin.zeroCells zv k) (ty := e) (w' := w.drew.alloc (.cells (vals.toArray ++ Builtin.zeroCells zv k) e)) (x := .sl nm 0 m none) (v := .slice (some ⟨w.heap.size, 0, none⟩) m G) (by simp) rfl rfl rfl (fun b hb => Below.heap_alloc w.drew _ b hb) (heap_alloc_new w.drew _) (by rw [Array.size_append, List.size_toArray]; omega) (fun i c v hc hv => ?_) (fun i v hv => ?_) (fun e' he' => by cases he'; exact ⟨rfl, hsz⟩) (fun lv' p' g1 g2 g3 => by
    rw [← g2]; exact .sl g1 hm (fun k hk => by cases hk) (fun _ _ => g3.symm))
  · have hi : i < vals.length := by have := (List.getElem?_eq_some_iff.1 hc).1; omega
    rw [Array.getElem?_append_left (by simpa using hi)] at hv
    exact hr i c v hc (by simpa using hv)
  · rw [Array.getElem?_append] at hv
    split at hv
    · exact h1 v (by have := Array.mem_of_getElem? hv; simpa using this)
    · exact hz' _ v hv
theorem Pi (hT : BU P T.ty) (R : Aj w0 fr s a w p) {o : Oper} (hd : Co s.nt o.dst = true) {nm : Nm} {x y : Operand} {t t' : TypeId} (ho : o.op = .call { callee := .builtin .append, args := #[x, y], argTypes := #[t, t'] }) (h : JM T s nm o.dst t t' x y = some s') : Stp P w0 fr s' o a w := by
  unfold JM at h
  split at h
  case h_2 => cases h
  rename_i d hdd ht'
  have hx := R.opd x
  have hy := R.opd y
  have fin : ∀ {v : Value} {w' : World}, (Builtin.append_ #[t, t'] o.type #[a.eval x, a.eval y]).run P w = .ok v w' → (execOp a.eval o).run P w = .ok (.value v) w' := fun hq => by
    simp [execOp, ho, resolve, invoke, builtin, hq]
  generalize a.eval x = ux at *
  generalize a.eval y = uy at *
  generalize opd s x = cx at *
  generalize opd s y = cy at *
  unfold ZB at h
  split at h
  case h_2 => cases h
  rename_i e hde
  cases hs : TM T s e cy with
  | none => simp [hs] at h
  | some q =>
  obtain ⟨ys, n⟩ := q
  cases hz : szC T e with
  | none => simp [hs, hz] at h
  | some z =>
  simp only [hs, hz, Option.bind_some] at h
  obtain ⟨news, hsrc, hnl, hnr⟩ := Ww hT R hs hz ht' hy
  obtain ⟨ti, hti⟩ := ZD hz
  obtain ⟨i, hi, hiz⟩ := IZ (Dj hT hz)
  have hbytes := H7 hT hti hi
  have hu := Ax hT hde
  obtain ⟨zi, zv, hzi, hzv, hzs, _, hz1⟩ := JU hT (t := e) (z := ti.zero) (by simp [II, hti])
  rw [hi] at hzi
  cases hzi
  rw [← hiz] at hsrc
  have hnews : news.length = n * z := by rw [← hiz]; exact hsrc.newsLen
  split at h
  · rename_i hpos
    obtain ⟨hz0, hn0⟩ := hpos
    have grow : ∀ {base : Option Addr} {l cap : Nat} {olds : List Value}, (Builtin.firstCells i.size l (.slice base l cap)).run P w.drew = .ok olds.toArray w.drew → cap < l + n → l + n ≤ 268435456 →
        (Builtin.append_ #[t, t'] o.type #[.slice base l cap, uy]).run P w = .ok (.slice (some ⟨w.heap.size, 0, none⟩) (l + n) (grownCap w (l + n) cap e)) (w.drew.alloc (.cells ((olds ++ news).toArray ++ Builtin.zeroCells zv.cells (grownCap w (l + n) cap e - (l + n))) e)) := fun {base l cap olds} hold hc hle => by
      have hb : (l + n) * i.bytes ≤ 268435456 * 65536 := Nat.mul_le_mul hle hbytes
      exact run_append_grow_src w t t' o.type e i zv hu hi hzv base l cap olds hold uy n news hsrc hc (by omega) (growslice_fits hc (by omega))
    have hGm : ∀ (l cap : Nat), (l + n) * z + (grownCap w (l + n) cap e - (l + n)) * zv.cells.size = grownCap w (l + n) cap e * z := fun l cap => by
      have := grownCap_ge w (l + n) cap e
      rw [hzs, hiz, ← Nat.add_mul]; congr 1; omega
    split at h
    · split at h
      case isFalse => cases h
      rename_i hle
      obtain ⟨s1, hs1, rfl⟩ := Option.map_eq_some_iff.1 h
      obtain ⟨hnn, rfl⟩ := Dk hs1
      cases hx
      have hrun := grow (base := none) (l := 0) (cap := 0) (olds := []) (run_firstCells_none w.drew i.size 0 0 0) (by omega) (by omega)
      simp only [Nat.zero_add, List.nil_append] at hrun
      obtain ⟨p', R'⟩ := Jb R hd hnn (C := ys) (vals := news) (zv := zv.cells) (e := e) (z := z) (G := grownCap w n 0 e) (k := grownCap w n 0 e - n) (m := n) hnl (by have := hGm 0 0; simp only [Nat.zero_add] at this; rw [hnews]; exact this) (grownCap_ge w n 0 e) hnr hsrc.one hz1
      rw [← hdd]
      exact ⟨_, p', .inl ⟨_, fin hrun, R'⟩⟩
    · rename_i n' q l c
      split at h
      case h_2 => cases h
      rename_i cs z' m hob
      split at h
      case isFalse => cases h
      rename_i hzz
      subst hzz
      obtain ⟨vs, ty, g1, g2, g3, g4, g5⟩ := R.h.ob n' _ hob
      cases hx with | sl k1 k2 k3 k4 =>
      rename_i cap
      have olds : q + l * z' ≤ cs.length → ((vs.toList.drop q).take (l * z')).length = l * z' ∧ (Builtin.firstCells i.size l (.slice (some ⟨p.b n', q, none⟩) l cap)).run P w.drew = .ok ((vs.toList.drop q).take (l * z')).toArray w.drew ∧
          (∀ (j : Nat) (c : CV) (v : Value), ((cs.drop q).take (l * z'))[j]? = some c → ((vs.toList.drop q).take (l * z'))[j]? = some v → RV (lvH s.hp) p c v) ∧ ∀ u ∈ (vs.toList.drop q).take (l * z'), u.oneCell' = true := fun hle => by
        have hlen : ((vs.toList.drop q).take (l * z')).length = l * z' := by simp; omega
        refine ⟨hlen, ?_, fun j c v hc hv => ?_, fun u hm => ?_⟩
        · refine run_firstCells_some w.drew i.size l ⟨p.b n', q, none⟩ l cap _ (by rw [hlen, hiz]) (fun j u hj => ?_)
          rw [Ah, cell_of_row w.drew _ _ vs ty _ g1]
          rw [List.getElem?_take] at hj
          split at hj
          case isFalse => cases hj
          rw [List.getElem?_drop] at hj
          simpa using hj
        · rw [List.getElem?_take] at hv hc
          split at hv
          case isFalse => cases hv
          rename_i hi
          rw [if_pos hi] at hc
          rw [List.getElem?_drop] at hv hc
          exact g3 (q + j) c v hc (by simpa using hv)
        · obtain ⟨j, hj⟩ := List.getElem?_of_mem hm
          rw [List.getElem?_take] at hj
          split at hj
          case isFalse => cases hj
          rw [List.getElem?_drop] at hj
          exact g4 (q + j) u (by simpa using hj)
      split at h
      · split at h
        case isFalse => cases h
        rename_i hh
        obtain ⟨rfl, rfl, hle, hsz⟩ := hh
        obtain ⟨s1, hs1, rfl⟩ := Option.map_eq_some_iff.1 h
        obtain ⟨hnn, rfl⟩ := Dk hs1
        obtain ⟨o1, o2, o3, o4⟩ := olds (by omega)
        obtain ⟨rfl, hvs⟩ := g5 _ rfl
        have hcap := k4 rfl rfl
        rw [List.drop_zero] at o1 o2 o3 o4
        rw [List.drop_zero] at o3
        have hkill : ∀ x v, RV (lvH s.hp) p x v → RV (lvH (s.kill (Nat.beq n')).hp) p (scr (Nat.beq n') x) v := fun x v hx => hx.scr (fun m hm hk => ⟨Ci.2 ⟨hk, hm⟩, rfl, rfl⟩)
        have hC : ∀ (lv' : Nm → Prop) (p' : Pm), (∀ x v, RV (lvH s.hp) p x v → RV lv' p' (scr (Nat.beq n') x) v) → ∀ (j : Nat) (c : CV) (v : Value), ((cs.take (l * z') ++ ys).map (scr (Nat.beq n')))[j]? = some c → (vs.toList.take (l * z') ++ news)[j]? = some v → RV lv' p' c v := fun lv' p' hm j c v hc hv => by
          rw [List.getElem?_map] at hc
          obtain ⟨c0, hc0, rfl⟩ := Option.map_eq_some_iff.1 hc
          refine hm _ _ ?_
          rw [List.getElem?_append] at hc0 hv
          have e1 : (cs.take (l * z')).length = l * z' := by simp; omega
          rw [o1] at hv
          rw [e1] at hc0
          split at hv
          · rw [if_pos ‹_›] at hc0; exact o3 j c0 v hc0 hv
          · rw [if_neg ‹_›] at hc0; exact hnr _ c0 v hc0 hv
        by_cases hroom : l + n ≤ cap
        · -- where it lies
          have hfit : l * z' + news.length ≤ vs.size := by
            rw [hnews, hvs, ← hcap, ← Nat.add_mul]; exact Nat.mul_le_mul_right _ hroom
          have hrun := run_append_room_src w t t' o.type ty i hu hi (p.b n') 0 l cap uy n news hsrc hroom (fun j hj => by rw [cell_of_row w _ _ vs ty _ g1]; simp; rw [hiz]; omega) (fun j hj => frozen_of_row w _ _ vs ty g1)
          rw [Nat.zero_add, hiz, setCells_eq P g1 hfit hsrc.one] at hrun
          have hlen : (vs.toList.take (l * z') ++ news ++ vs.toList.drop (l * z' + news.length)).length = vs.size := by simp; omega
          obtain ⟨p', R', e1, e2, hlv⟩ := R.h.take (nm := nm) (ob := .cells ((cs.take (l * z') ++ ys).map (scr (Nat.beq n'))) z' (some ty)) hob rfl hnn (w' := w.setRow (p.b n') (vs.toList.take (l * z') ++ news ++ vs.toList.drop (l * z' + news.length)).toArray) (by simp [World.setRow]) rfl rfl rfl (fun b hb => by unfold World.setRow; simp [Array.getElem?_modify, Ne.symm hb]) cap (fun lv' p' hm e1 e2 => by
            refine ⟨_, ty, by rw [e1]; exact setRow_heap w _ vs _ ty _ g1, ?_, fun j c v hc hv => ?_, fun j v hv => ?_, fun e' he' => ?_⟩
            · simp only [List.size_toArray, hlen, List.length_map, List.length_append, List.length_take, hnl]; omega
            · rw [List.getElem?_toArray] at hv
              have hj : j < (vs.toList.take (l * z') ++ news).length := by
                have := (List.getElem?_eq_some_iff.1 hc).1
                simp only [List.length_map, List.length_append, List.length_take, hnl] at this
                simp only [List.length_append, o1]
                omega
              rw [List.getElem?_append_left hj] at hv
              exact hC lv' p' hm j c v hc hv
            · rw [List.getElem?_toArray, List.getElem?_append] at hv
              split at hv
              · rw [List.getElem?_append] at hv
                split at hv
                · exact o4 v (List.mem_of_getElem? hv)
                · exact hsrc.one v (List.mem_of_getElem? hv)
              · rw [List.getElem?_drop] at hv; exact g4 _ v (by simpa using hv)
            · cases he'
              exact ⟨rfl, by rw [e2, List.size_toArray, hlen, hvs, hcap]⟩)
          have R1 : Aj w0 fr { s.kill (Nat.beq n') with hp := (By (Nat.beq n') s.hp).set nm (.cells ((cs.take (l * z') ++ ys).map (scr (Nat.beq n'))) z' (some ty)) } a _ p' := ⟨R', R.nt, R.dfr⟩
          rw [← hdd]
          exact ⟨_, p', .inl ⟨_, fin hrun, R1.put hd (by rw [← e1]; exact .sl hlv hroom (fun k hk => by cases hk) (fun _ _ => e2.symm))⟩⟩
        · have hrun := grow o2 (by omega) hsz
          obtain ⟨p', R'⟩ := Jb (R.kill (Nat.beq n') (Of hob rfl)) hd hnn (C := (cs.take (l * z') ++ ys).map (scr (Nat.beq n'))) (vals := vs.toList.take (l * z') ++ news) (zv := zv.cells) (e := ty) (z := z') (G := grownCap w (l + n) cap ty) (k := grownCap w (l + n) cap ty - (l + n)) (m := l + n)
            (by simp only [List.length_map, List.length_append, List.length_take, hnl, Array.length_toList]; omega) (by rw [List.length_append, o1, hnews, ← Nat.add_mul]; exact hGm l cap) (grownCap_ge w _ _ _) (hC _ _ hkill) (fun u hm => (List.mem_append.1 hm).elim (o4 u) (hsrc.one u)) hz1
          rw [← hdd]
          exact ⟨_, p', .inl ⟨_, fin hrun, R'⟩⟩
      · rename_i c
        split at h
        case isFalse => cases h
        rename_i hh
        obtain ⟨hlt, hle, hsz⟩ := hh
        have := k3 c rfl
        subst this
        obtain ⟨s1, hs1, rfl⟩ := Option.map_eq_some_iff.1 h
        obtain ⟨hnn, rfl⟩ := Dk hs1
        obtain ⟨o1, o2, o3, o4⟩ := olds hle
        have hrun := grow o2 hlt hsz
        obtain ⟨p', R'⟩ := Jb R hd hnn (C := (cs.drop q).take (l * z') ++ ys) (vals := (vs.toList.drop q).take (l * z') ++ news) (zv := zv.cells) (e := e) (z := z') (G := grownCap w (l + n) cap e) (k := grownCap w (l + n) cap e - (l + n)) (m := l + n)
          (by simp only [List.length_append, hnl, o1]; simp; omega) (by rw [List.length_append, o1, hnews, ← Nat.add_mul]; exact hGm l cap) (grownCap_ge w _ _ _) (fun j c v hc hv => by
            rw [List.getElem?_append] at hc hv
            have e1 : ((cs.drop q).take (l * z')).length = l * z' := by simp; omega
            rw [o1] at hv
            rw [e1] at hc
            split at hv
            · rw [if_pos ‹_›] at hc; exact o3 j c v hc hv
            · rw [if_neg ‹_›] at hc; exact hnr _ c v hc hv) (fun u hm => (List.mem_append.1 hm).elim (o4 u) (hsrc.one u)) hz1
        rw [← hdd]
        exact ⟨_, p', .inl ⟨_, fin hrun, R'⟩⟩
    · cases h
  · split at h
    case isFalse => cases h
    rename_i h0
    subst h0
    have hnw : news = [] := List.eq_nil_of_length_eq_zero (by rw [hnews, Nat.zero_mul])
    subst hnw
    have none_ : ∀ (base : Option Addr) (l cap : Nat), l ≤ cap → (Builtin.append_ #[t, t'] o.type #[.slice base l cap, uy]).run P w = .ok (.slice base l cap) w := fun base l cap hle => by
      have hc := hsrc.cells
      rcases hsrc.kind with ⟨e', hk⟩ | hk <;> cases base <;> simp [Builtin.append_, run_underlying hu, run_underlying hk, sizeOf, typeInfo, hi, hsrc.len, hle, hc, storeCells]
    split at h
    · cases h
      cases hx
      rw [← hdd]
      exact Stp.val R hd (fin (none_ none 0 0 (Nat.le_refl _))) .nils
    · cases h
      cases hx with | sl k1 k2 k3 k4 =>
      rw [← hdd]
      exact Stp.val R hd (fin (none_ _ _ _ k2)) (.sl k1 k2 k3 k4)
    · cases h
theorem H8 : ∀ {l : List CV} {r : List Nat}, bytesOf l = some r → r.length = l.length ∧ ∀ (i n : Nat), r[i]? = some n → l[i]? = some (.int .u8 n) ∧ n < 256
  | [], r, h => by simp [bytesOf] at h; subst h; exact ⟨rfl, fun i n hn => by simp at hn⟩
  | x :: l, r, h => by
    cases x with
    | int k m =>
      cases k <;> simp only [bytesOf, reduceCtorEq] at h
      split at h
      case isFalse => cases h
      rename_i hm
      obtain ⟨r', hr, rfl⟩ := Option.map_eq_some_iff.1 h
      obtain ⟨h1, h2⟩ := H8 hr
      refine ⟨by simp [h1], fun i n hn => ?_⟩
      cases i with
      | zero => simp at hn; subst hn; exact ⟨by simp; omega, by omega⟩
      | succ i => simpa using h2 i n (by simpa using hn)
    | _ => simp [bytesOf] at h
theorem BD.drop {stk : List Env} {hp : Hp} {fr : List (Array Value)} (R : BD w0 fr stk hp w p) {n : Nm} {o0 : Ob} (hn : hp.get n = some o0) (hro : o0.ro = false) {w' : World} (hs : w'.heap.size = w.heap.size) (ho : w'.os = w.os) (ht : w'.tape = w.tape) (hu : w'.output = w.output) (hb : ∀ b, b ≠ p.b n → w'.heap[b]? = w.heap[b]?) :
    BD w0 fr (stk.map (Gh (Nat.beq n))) (By (Nat.beq n) hp) w' p := by
  have R1 := R.kill (Nat.beq n) (Of hn hro)
  exact { size := by rw [hs]; exact R.size, os := ho.trans R.os, tape := ht.trans R.tape, output := hu.trans R.output
          klt := R.klt
          old := fun b h => (hb b (fun e => R.base n o0 hn hro (e ▸ h))).trans (R.old b h)
          pin := R1.pin
          stk := R1.stk
          ob := fun m o h => by
            have hm := Ci.1 (A6 h)
            have := (R1.ob m o h).turn (k := fun _ => false) (lv' := lvH (By (Nat.beq n) hp)) (p' := p) (w' := w') (fun n hn _ => ⟨hn, rfl, rfl⟩) rfl rfl (hb _ (R.inj m n hm.2 (A6 hn) (fun e => by subst e; simp at hm)))
            rwa [Gm] at this
          base := R1.base, inj := R1.inj }
theorem Pj (hT : BU P T.ty) (R : Aj w0 fr s a w p) {o : Oper} (hd : Co s.nt o.dst = true) {x y : Operand} {t t' : TypeId} (ho : o.op = .call { callee := .builtin .unsafeString, args := #[x, y], argTypes := #[t, t'] }) (h : JL T s o.dst t x y = some s') : Stp P w0 fr s' o a w := by
  unfold JL at h
  have hx := R.opd x
  have hy := R.opd y
  split at h
  case h_2 => cases h
  rename_i e n k hde hcx hcy
  rw [hcx] at hx
  rw [hcy] at hy
  split at h
  case h_2 => cases h
  rename_i cs z e' hob
  split at h
  case isFalse => cases h
  rename_i hh
  obtain ⟨rfl, hz, h0, hle, h63⟩ := hh
  split at h
  case h_2 => cases h
  rename_i b hb
  cases h
  obtain ⟨vs, ty, g1, g2, g3, g4, g5⟩ := R.h.ob n _ hob
  obtain ⟨rfl, g6⟩ := g5 _ rfl
  obtain ⟨i, hi, hiz⟩ := IZ (Dj hT hz)
  obtain ⟨b1, b2⟩ := H8 hb
  generalize hax : a.eval x = ax at *
  generalize hay : a.eval y = ay at *
  cases hx with | ptr hlv =>
  cases hy
  have hbl : b.length = k.toNat := by rw [b1]; simp; omega
  have hk : (k : Int) = ((b.map UInt8.ofNat).length : Nat) := by rw [List.length_map, hbl]; omega
  have hrun := Lib.run_unsafeString_row (P := P) w t t' o.type ty (Ax hT hde) (by simp [Program.cellsOf, hi, hiz]) (p.b n) vs.size (by simp [World.shape?, g1]) (b.map UInt8.ofNat) (fun e => by simp at e; subst e; simp at hbl; omega) (by rw [List.length_map, hbl]; omega) (by rw [List.length_map, hbl]; omega) (fun j u hj => by
    rw [List.getElem?_map] at hj
    obtain ⟨m, hm, rfl⟩ := Option.map_eq_some_iff.1 hj
    obtain ⟨c1, c2⟩ := b2 j m hm
    rw [List.getElem?_take] at c1
    split at c1
    case isFalse => cases c1
    rename_i hj2
    have hlt : j < vs.size := by omega
    have := g3 j _ _ c1 (Array.getElem?_eq_getElem hlt)
    rw [Ah, Nat.zero_add, cell_of_row w _ j vs ty _ g1, Array.getElem?_eq_getElem hlt]
    generalize vs[j] = q at this
    cases this
    simp; omega)
  rw [← hk] at hrun
  have hfr : ∀ (m : Nat), (w.freeze ⟨p.b n, 0, none⟩ m).heap.size = w.heap.size ∧ (w.freeze ⟨p.b n, 0, none⟩ m).os = w.os ∧ (w.freeze ⟨p.b n, 0, none⟩ m).tape = w.tape ∧ (w.freeze ⟨p.b n, 0, none⟩ m).output = w.output ∧ ∀ c, c ≠ p.b n → (w.freeze ⟨p.b n, 0, none⟩ m).heap[c]? = w.heap[c]? := fun m => by
    unfold World.freeze
    split
    · exact ⟨rfl, rfl, rfl, rfl, fun _ _ => rfl⟩
    · exact ⟨by simp, rfl, rfl, rfl, fun c hc => by simp [Array.getElem?_modify, Ne.symm hc]⟩
  obtain ⟨f1, f2, f3, f4, f5⟩ := hfr (b.map UInt8.ofNat).length
  have R1 : Aj w0 fr (s.kill (Nat.beq n)) a (w.freeze ⟨p.b n, 0, none⟩ (b.map UInt8.ofNat).length) p := ⟨R.h.drop hob rfl f1 f2 f3 f4 f5, R.nt, R.dfr⟩
  refine ⟨_, p, .inl ⟨.string ⟨(b.map UInt8.ofNat).toArray⟩, ?_, R1.put hd (.str ?_)⟩⟩
  · simp [execOp, ho, resolve, invoke, builtin, hax, hay, hrun]
  · have : ∀ m ∈ b, m < 256 := fun m hm => by
      obtain ⟨j, hj⟩ := List.getElem?_of_mem hm
      exact (b2 j m hj).2
    simp only [List.map_map]
    conv => rhs; rw [← List.map_id b]
    exact List.map_congr_left fun m hm => by have := this m hm; simp; omega
end
end Go.Ev

namespace Go.Ev
open Go Go.Vl Go.RowKit
section
variable {P : Program} {T : Tab} {w0 : Kp} {fr : List (Array Value)} {s s' : Cx} {a : Act} {w : World} {p : Pm}
theorem RS (hT : BU P T.ty) (R : Aj w0 fr s a w p) {o : Oper} (hd : Co s.nt o.dst = true) {nm : Nm} {b : Builtin} {args : List Operand} {ts : List TypeId} (ho : o.op = .call { callee := .builtin b, args := args.toArray, argTypes := ts.toArray }) (hb : b ≠ .len) (h : Cu T s nm o.dst b args ts = some s') : Stp P w0 fr s' o a w := by
  unfold Cu at h
  split at h
  · exact absurd rfl hb
  · exact Pi hT R hd ho h
  · exact Pf R hd ho h
  · exact Pg R hd ho h
  · exact Ph hT R hd ho h
  · exact F3 hT R hd ho h
  · exact Ng R hd ho h
  · exact Pj hT R hd ho h
  · cases h
theorem RU (hT : BU P T.ty) (hE : Di P T) (R : Aj w0 fr s a w p) {o : Oper} (hd : Co s.nt o.dst = true) {call : Ak} {base : Nm} (hnc : ∀ c y, o.op = .call c → c.callee ≠ .value y) (h : KG call T base s o = some s') : Stp P w0 fr s' o a w := by
  by_cases hp : Ch o = true
  · obtain ⟨x, v, rfl, h1, h2⟩ := Dd hT hE R hp h
    exact Stp.val R hd (h1 w) h2
  · unfold KG at h
    split at h
    · rename_i c ho
      unfold Gj at h
      split at h
      · rename_i y hc; exact absurd hc (hnc c y ho)
      · rename_i b hc
        obtain ⟨callee, ⟨args⟩, ⟨tys⟩⟩ := c
        simp only at hc
        subst hc
        refine RS hT R hd ho (fun e => ?_) h
        subst e
        exact hp (by unfold Ch; rw [ho])
      · cases h
    · unfold Dy at h
      split at h
      · rename_i ho; exact absurd (by unfold Ch; rw [ho]) hp
      · rename_i x ho
        cases h
        exact Stp.val R hd (v := a.eval x) (by simp [execOp, ho]) (R.opd x)
      · rename_i t x ho
        obtain ⟨y, hy, rfl⟩ := Bn h
        obtain ⟨v, h1, h2⟩ := Ja hT R hd ho hy
        exact Stp.val R hd h1 h2
      · rename_i t x y ho
        unfold OV at h
        split at h
        case h_2 => cases h
        rename_i hdd
        exact E9 hT R ho hdd h
      · rename_i ho; exact absurd (by unfold Ch; rw [ho]) hp
      · rename_i ho; exact absurd (by unfold Ch; rw [ho]) hp
      · rename_i ho; exact absurd (by unfold Ch; rw [ho]) hp
      · unfold Gi at h
        split at h
        · rename_i ho; exact absurd (by unfold Ch; rw [ho]) hp
        · rename_i ho; exact absurd (by unfold Ch; rw [ho]) hp
        · rename_i ho; exact D2 hT R hd ho h
        · rename_i ho; exact E8 R hd ho h
        · rename_i ho; exact absurd (by unfold Ch; rw [ho]) hp
        · rename_i ho; exact absurd (by unfold Ch; rw [ho]) hp
        · rename_i ho; exact absurd (by unfold Ch; rw [ho]) hp
        · rename_i ho; exact absurd (by unfold Ch; rw [ho]) hp
        · rename_i ho; exact Nf hT R hd ho h
        · rename_i ho; exact absurd (by unfold Ch; rw [ho]) hp
        · rename_i ho; exact DN hT R hd ho h
        · rename_i ho; exact HD hT R hd ho h
        · rename_i ho; exact Nb R hd ho h
        · rename_i ho
          obtain ⟨y, hy, rfl⟩ := Bn h
          obtain ⟨v, h1, h2⟩ := MW hT R hd ho hy
          exact Stp.val R hd h1 h2
        · rename_i ho
          split at h
          case h_2 => cases h
          rename_i ht
          exact MV hT R hd ho ht h
        · rename_i ho; exact Nc R hd ho h
        · cases h
end
end Go.Ev
