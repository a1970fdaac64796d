/- Hooks of the evaluator: functions that the model carries out itself. Conditions: none. -/
import Derived.Test.YtbnfogbfphakmaaGreatDoorLtx
import Derived.Lib.MakeNoZero
import Derived.Laws.Externs
import Derived.Lib.Bytealg
import Derived.Test.YtbnfogbfphakmaaGreatDoorProg
import Derived.Shelf.SlIter.Collect
import Derived.RangeFuncFrom
import Derived.RangeFuncBox
import Derived.RangeFuncNested
import Derived.RangeFuncLeaves
import Derived.Shelf.Abstract
import Derived.WalkKit
import Derived.OwnWalkIn
import Derived.TacticsInMore
import Derived.LoopNIn
import Derived.LoopIn
import Derived.OrdersHeld
set_option maxHeartbeats 4000000
set_option linter.unusedSimpArgs false
set_option linter.unusedVariables false
namespace Go.Ev
open Go Go.Vl Go.RowKit Go.Proofs
def orC (c1 c2 : Ak) : Ak := fun f args nm stk hp => match c1 f args nm stk hp with
  | some r => some r
  | none => c2 f args nm stk hp
theorem HY {P : Program} {c1 c2 : Ak} (h1 : BH P c1) (h2 : BH P c2) : BH P (orC c1 c2) := fun w0 fr f args pth stk hp r vs w p h R ha => by
  unfold orC at h
  split at h
  · rename_i r' hr; cases h; exact h1 w0 fr f args pth stk hp _ vs w p hr R ha
  · exact h2 w0 fr f args pth stk hp r vs w p h R ha
def Rj : Ak := fun f args _ stk hp => match Nat.beq f 145, args with
  | true, [x] => some ⟨x, stk, hp⟩
  | _, _ => none
theorem Rl : BH Tryz.prog Rj := fun w0 fr f args pth stk hp r vs w p h R ha => by
  unfold Rj at h
  split at h
  · rename_i x hf
    have e := Nat.eq_of_beq_eq_true hf
    subst e
    cases h
    obtain ⟨h1, h2⟩ := ha
    match vs, h1 with
    | ⟨[v]⟩, _ =>
      refine .inr ⟨v, w, ?_, v, p, rfl, R, h2 0 x v rfl rfl⟩
      rw [run_callFunc_extern Tryz.func145 (by kernel_rfl) (by kernel_rfl) (by kernel_rfl) (e := Extern.AbiNoEscape.same) (by kernel_rfl)]
      rfl
  · cases h
def Rm : List Nat → Nat → Nat → Int
  | [], _, _ => -1
  | b :: l, c, i => match Nat.beq b c with
    | true => (i : Int)
    | false => Rm l c (i + 1)
theorem Ol {P : Nat → Bool} : ∀ (l : List Nat) (c i : Nat), (∀ j b, l[j]? = some b → P (i + j) = Nat.beq b c) → Rm l c i = (match (List.range' i l.length).find? P with | some k => (k : Int) | none => -1)
  | [], c, i, _ => rfl
  | b :: l, c, i, h => by
    have h0 := h 0 b rfl
    simp only [Rm, List.length_cons, List.range'_succ, List.find?_cons]
    rw [Nat.add_zero] at h0
    rw [h0]
    cases Nat.beq b c with
    | true => rfl
    | false =>
      refine Ol l c (i + 1) fun j b' hj => ?_
      rw [show i + 1 + j = i + (j + 1) by omega]
      exact h (j + 1) b' (by simpa using hj)
theorem firstIdx_eq {b : ByteArray} {s : List Nat} (h : b.data.toList.map (·.toNat) = s) {c : Int} (h0 : 0 ≤ c) (h1 : c < 256) : firstIdx b c.toNat.toUInt8 = Rm s c.toNat 0 := by
  rw [Ol (P := fun i => b[i]! == c.toNat.toUInt8) s c.toNat 0 (fun j x hj => by
    obtain ⟨u, hu, rfl⟩ := Oe h hj
    rw [Nat.zero_add]
    have : b[j]! = u := by rw [getElem!_def, hu]
    rw [this]
    by_cases e : u = c.toNat.toUInt8
    · subst e
      have : (c.toNat.toUInt8).toNat = c.toNat := by simp; omega
      rw [this]; simp
    · have : u.toNat ≠ c.toNat := fun e' => e (by rw [← e']; simp)
      have h2 : Nat.beq u.toNat c.toNat = false := by
        cases hb : Nat.beq u.toNat c.toNat with
        | true => exact absurd (Nat.eq_of_beq_eq_true hb) this
        | false => rfl
      rw [h2]; exact beq_eq_false_iff_ne.2 e)]
  unfold firstIdx
  rw [Fe h, List.range_eq_range']
  generalize List.find? _ _ = q
  cases q <;> rfl
def Rn : Ak := fun f args _ stk hp => match Nat.beq f 156, args with
  | true, [.str s, .int .u8 c] => if 0 ≤ c ∧ c < 256 then some ⟨.int .i64 (Rm s c.toNat 0), stk, hp⟩ else none
  | _, _ => none
theorem Ro : BH Tryz.prog Rn := fun w0 fr f args pth stk hp r vs w p h R ha => by
  unfold Rn at h
  split at h
  · rename_i s c hf
    have e := Nat.eq_of_beq_eq_true hf
    subst e
    split at h
    case isFalse => cases h
    rename_i hc
    cases h
    obtain ⟨h1, h2⟩ := ha
    match vs, h1 with
    | ⟨[v, u]⟩, _ =>
      have hv := h2 0 _ v rfl rfl
      have hu := h2 1 _ u rfl rfl
      cases hu
      cases hv with | str hb =>
      refine .inr ⟨_, w, ?_, _, p, rfl, R, .int⟩
      rw [run_callFunc_extern Tryz.func156 (by kernel_rfl) (by kernel_rfl) (by kernel_rfl) (e := Extern.BytealgIndexByte.indexByte) (by kernel_rfl), run_indexByte_string, firstIdx_eq hb hc.1 hc.2]
      rfl
  · cases h
def Rq : List Nat → Nat → Nat
  | [], _ => 0
  | b :: l, c => match Nat.beq b c with
    | true => Rq l c + 1
    | false => Rq l c
theorem Yh {u : UInt8} {c : Int} (h0 : 0 ≤ c) (h1 : c < 256) : (u == c.toNat.toUInt8) = Nat.beq u.toNat c.toNat := by
  by_cases e : u = c.toNat.toUInt8
  · subst e
    have : (c.toNat.toUInt8).toNat = c.toNat := by simp; omega
    rw [this]; simp
  · have : u.toNat ≠ c.toNat := fun e' => e (by rw [← e']; simp)
    have h2 : Nat.beq u.toNat c.toNat = false := by
      cases hb : Nat.beq u.toNat c.toNat with
      | true => exact absurd (Nat.eq_of_beq_eq_true hb) this
      | false => rfl
    rw [h2]; exact beq_eq_false_iff_ne.2 e
theorem Om {c : Int} (h0 : 0 ≤ c) (h1 : c < 256) : ∀ l : List UInt8, Lib.countByte l c.toNat.toUInt8 = Rq (l.map (·.toNat)) c.toNat
  | [] => rfl
  | u :: l => by
    have ih := Om h0 h1 l
    unfold Lib.countByte at ih ⊢
    rw [List.count_cons, ih, Yh h0 h1]
    simp only [List.map_cons, Rq]
    cases Nat.beq u.toNat c.toNat <;> rfl
def Rr : Ak := fun f args _ stk hp => match Nat.beq f 199, args with
  | true, [.str s, .int .u8 c] => if 0 ≤ c ∧ c < 256 then some ⟨.int .i64 (Rq s c.toNat), stk, hp⟩ else none
  | _, _ => none
theorem Rs : BH Tryz.prog Rr := fun w0 fr f args pth stk hp r vs w p h R ha => by
  unfold Rr at h
  split at h
  · rename_i s c hf
    have e := Nat.eq_of_beq_eq_true hf
    subst e
    split at h
    case isFalse => cases h
    rename_i hc
    cases h
    obtain ⟨h1, h2⟩ := ha
    match vs, h1 with
    | ⟨[v, u]⟩, _ =>
      have hv := h2 0 _ v rfl rfl
      have hu := h2 1 _ u rfl rfl
      cases hu
      cases hv with | str hb =>
      refine .inr ⟨_, w, ?_, _, p, rfl, R, .int⟩
      rw [run_callFunc_extern Tryz.func199 (by kernel_rfl) (by kernel_rfl) (by kernel_rfl) (e := Extern.BytealgCount.count) (by kernel_rfl), Lib.run_countString, Om hc.1 hc.2, hb]
      rfl
  · cases h
def Rv : Ak := fun f args nm stk hp => match Nat.beq f 231, args with
  | true, [.int .i64 n] => match hp.get nm with
    | some _ => none
    | none => if 0 ≤ n ∧ n ≤ 65536 then some ⟨.sl nm 0 n.toNat none, stk, hp.set nm (.cells (List.replicate n.toNat .un) 1 (some 5))⟩ else none
  | _, _ => none
theorem Jk : ∀ (n t : Nat) (acc : Array Value), (∀ (i : Nat) (v : Value), acc[i]? = some v → v.oneCell' = true) → ∀ (i : Nat) (v : Value), (Extern.BytealgMakeNoZero.digits n t acc)[i]? = some v → v.oneCell' = true
  | 0, _, _, h => h
  | n + 1, t, acc, h => by
    rw [Extern.BytealgMakeNoZero.digits]
    refine Jk n _ _ fun i v hv => ?_
    rw [Array.getElem?_push] at hv
    split at hv
    · cases hv; rfl
    · exact h i v hv
theorem Rx (P : Program) (w : World) (ps : Array TypeId) (t e : TypeId) (ht : P.underlying t = some (.slice e)) (n : Nat) (hn : n ≤ 65536) :
    ∃ cs : Array Value, (Extern.BytealgMakeNoZero.makeNoZero ps #[t] #[.int .i64 n]).run P w = .ok (.slice (some ⟨w.heap.size, 0, none⟩) n cs.size) (w.drew.drew.alloc (.cells cs e)) ∧ n ≤ cs.size ∧ ∀ (i : Nat) (v : Value), cs[i]? = some v → v.oneCell' = true := by
  have h1 : ¬ (n : Int) < 0 := by omega
  have h2 : ¬ (281474976710656 : Int) < (n : Int) := by omega
  refine ⟨Extern.BytealgMakeNoZero.digits (grownCap w n 0 e) ((Question.extern "internal/bytealg.MakeNoZero.bytes" 0).cut (w.tape (w.drawn + 1) (.extern "internal/bytealg.MakeNoZero.bytes" 0))) #[], ?_, ?_, Jk _ _ _ (fun i v hv => by simp at hv)⟩
  · have hdef : Extern.BytealgMakeNoZero.makeNoZero ps #[t] #[.int .i64 n] =
        (do
          let .slice elem ← underlying t | stuck "bytealg.MakeNoZero: slice type expected"
          if (n : Int) < 0 || (n : Int) > 2 ^ 48 then runtimePanic (.error "makeslice: len out of range")
          let cap ← choose (.appendCap (n : Int).toNat 0 elem)
          askRoom cap
          let bytes ← choose (.extern "internal/bytealg.MakeNoZero.bytes" 0)
          let a ← newRow elem (Extern.BytealgMakeNoZero.digits cap bytes #[])
          pure (.slice (some a) (n : Int).toNat cap)) := rfl
    rw [hdef]
    simp [run_underlying ht, h1, h2, Question.forced, newRow, Lib.size_digits, grownCap]
  · rw [Lib.size_digits]
    simpa using grownCap_ge w n 0 e
theorem Ry (ht : Tryz.prog.underlying 123 = some (.slice 5)) : BH Tryz.prog Rv := fun w0 fr f args pth stk hp r vs w p h R ha => by
  unfold Rv at h
  split at h
  · rename_i n hf
    have e := Nat.eq_of_beq_eq_true hf
    subst e
    split at h
    · cases h
    rename_i hnn
    split at h
    case isFalse => cases h
    rename_i hc
    cases h
    obtain ⟨h1, h2⟩ := ha
    match vs, h1 with
    | ⟨[v]⟩, _ =>
      have hv := h2 0 _ v rfl rfl
      cases hv
      obtain ⟨k, rfl⟩ : ∃ k : Nat, n = (k : Int) := ⟨n.toNat, by omega⟩
      obtain ⟨cs, g1, g2, g3⟩ := Rx Tryz.prog w #[3] 123 5 ht k (by omega)
      obtain ⟨p', R', e1, e2, hlv, _⟩ := R.new (nm := pth) (ob := .cells (List.replicate k .un) 1 (some 5)) (w' := w.drew.drew.alloc (.cells cs 5)) hnn (by simp) rfl rfl rfl (fun b hb => Below.heap_alloc w.drew.drew _ b hb) cs.size (fun lv' p' _ e1 e2 => ⟨cs, 5, by rw [e1]; exact heap_alloc_new w.drew.drew _, by simpa using g2, (fun i c v hc _ => by
        rw [List.getElem?_replicate] at hc
        split at hc
        · cases hc; exact .un
        · cases hc), g3, fun e he => by cases he; exact ⟨rfl, by rw [e2, Nat.mul_one]⟩⟩)
      refine .inr ⟨.slice (some ⟨w.heap.size, 0, none⟩) k cs.size, _, ?_, _, p', rfl, R', ?_⟩
      · rw [run_callFunc_extern Tryz.func231 (by kernel_rfl) (by kernel_rfl) (by kernel_rfl) (e := Extern.BytealgMakeNoZero.makeNoZero #[3] #[123]) (by kernel_rfl), g1]
        rfl
      · rw [← e1]; exact .sl hlv g2 (fun j hj => by cases hj) (fun _ _ => e2.symm)
  · cases h
end Go.Ev

namespace Go.Ev
open Go Go.Proofs Go.RowKit Go.Maps Go.Sort Go.Shelf
attribute [local go_sem] Oper.semAt_some
structure But (B : Nat) (w w' : World) : Prop where
  os : w'.os = w.os
  tape : w'.tape = w.tape
  output : w'.output = w.output
  size : w.heap.size ≤ w'.heap.size
  block : ∀ k, k < w.heap.size → k ≠ B → w'.heap[k]? = w.heap[k]?
theorem But.refl (B : Nat) (w : World) : But B w w := ⟨rfl, rfl, rfl, Nat.le_refl _, fun _ _ _ => rfl⟩
theorem But.grown {B : Nat} {a w w' : World} {row : Option Nat} (h : But B a w) (hg : w.grownBy w' row) (hr : ∀ k, row = some k → a.heap.size ≤ k ∨ k = B) : But B a w' :=
  ⟨hg.os.trans h.os, hg.tape.trans h.tape, hg.output.trans h.output, Nat.le_trans h.size hg.size, fun k hk hB => (hg.block k (Nat.lt_of_lt_of_le hk h.size) (fun e => by
    rcases hr k e.symm with h1 | h1
    · omega
    · exact hB h1)).trans (h.block k hk hB)⟩
theorem But.alloc {B : Nat} {a w : World} (h : But B a w) (o : Obj) : But B a (w.alloc o) := h.grown (World.grownBy_alloc w o none) (fun _ e => by cases e)
def One (v : Value) (w : World) : Prop := ∀ (g : Nat) (cur : Array Value) (ty : TypeId) (fz : Nat × Nat), v.ownBlock = some g → w.heap[g]? = some (.cells cur ty fz) → ∀ (i : Nat) (u : Value), cur[i]? = some u → u.oneCell' = true
theorem One.kept {v : Value} {w w' : World} (h : One v w) (hk : ∀ g, v.ownBlock = some g → w'.heap[g]? = w.heap[g]?) : One v w' := fun g cur ty fz hg hc => h g cur ty fz hg (by rw [← hk g hg]; exact hc)
theorem Pk {zs : Array Value} (h : ∀ (i : Nat) (u : Value), zs[i]? = some u → u.oneCell' = true) (n i : Nat) (u : Value) (hu : (Builtin.zeroCells zs n)[i]? = some u) : u.oneCell' = true := by
  unfold Builtin.zeroCells at hu
  rw [Array.getElem?_map] at hu
  obtain ⟨j, hj, rfl⟩ := Option.map_eq_some_iff.1 hu
  obtain ⟨hlt, hj⟩ := Array.getElem?_eq_some_iff.1 hj
  simp at hlt hj
  have hz : 0 < zs.size := by
    rcases Nat.eq_zero_or_pos zs.size with h0 | h0
    · rw [h0] at hlt; omega
    · exact h0
  have hm : j % zs.size < zs.size := Nat.mod_lt _ hz
  exact h (j % zs.size) _ (by rw [getElem!_pos zs _ hm]; exact Array.getElem?_eq_getElem hm)
theorem Jl {P : Program} (w : World) (base : Nat) (t ty e : TypeId) (i : TypeInfo) (z : Value) (size bytes : Nat) (ht : P.underlying t = some (.slice e)) (hi : P.info? e = some i) (hz : i.zero = some z)
    (hsize : i.size = size) (hby : i.bytes = bytes) (hzs : z.cells.size = size) (hsz : 0 < size) (hz1 : ∀ (i : Nat) (u : Value), z.cells[i]? = some u → u.oneCell' = true)
    (v : Value) (n : Nat) (xs : List Value) (hown : w.ownsRow base e size v n xs) (hone : One v w) (hx1 : ∀ u ∈ xs, u.oneCell' = true)
    (a : Addr) (m c : Nat) (news : List Value) (hl : news.length = m * size) (hnews : ∀ j u, news[j]? = some u → w.cell? (a.add j) = some u) (h1 : ∀ u ∈ news, u.oneCell' = true)
    (h63 : n + m ≤ maxLen) (hbytes : (n + m) * bytes ≤ 140737488355328) (hbase : base ≤ w.heap.size) (hm : 0 < m) :
    ∃ v' w', (Builtin.append_ #[t, t] ty #[v, .slice (some a) m c]).run P w = .ok v' w' ∧ w'.ownsRow base e size v' (n + m) (xs ++ news) ∧ w.grownBy w' v.ownBlock ∧ (v' = .slice none 0 0 ↔ v = .slice none 0 0 ∧ m = 0) ∧ One v' w' := by
  obtain ⟨v', w', hr0, q1, q2, q3⟩ := run_append_own (P := P) w base t ty e i z size bytes ht hi hz hsize hby hzs hsz v n xs hown a m c news hl hnews h1 h63 hbytes hbase
  refine ⟨v', w', hr0, q1, q2, q3, ?_⟩
  subst hsize
  subst hby
  have hsmall : n + m ≤ 9223372036854775807 := by simp only [maxLen] at h63; omega
  have mk : ∀ (cs : Array Value) (W : World), (∀ (j : Nat) (u : Value), cs[j]? = some u → u.oneCell' = true) → ∀ (l c : Nat), One (.slice (some ⟨W.heap.size, 0, none⟩) l c) (W.alloc (.cells cs e)) := fun cs W hcs l c g cur ty fz hg hc => by
    have : g = W.heap.size := by simpa [Value.ownBlock] using hg.symm
    subst this
    rw [heap_alloc_new W] at hc
    cases hc
    exact hcs
  have cat : ∀ (l1 l2 : List Value) (k : Nat), (∀ u ∈ l1, u.oneCell' = true) → (∀ u ∈ l2, u.oneCell' = true) → ∀ (j : Nat) (u : Value), (l1.toArray ++ l2.toArray ++ Builtin.zeroCells z.cells k)[j]? = some u → u.oneCell' = true := fun l1 l2 k g1 g2 j u hu => by
    rw [Array.getElem?_append] at hu
    split at hu
    · have hmem := Array.mem_of_getElem? hu
      simp at hmem
      rcases hmem with h | h
      · exact g1 u h
      · exact g2 u h
    · exact Pk hz1 _ _ u hu
  rcases hown.2 with ⟨rfl, rfl⟩ | ⟨g, cap, cur, rfl, hbg, hg, hnc, hcm, hcs, htake⟩
  · have hr := run_append_nil (P := P) w t ty e i z ht hi hz a m c news hl hnews (by omega) (by omega) (by have hb := hbytes; simp only [Nat.zero_add] at hb; omega)
    rw [hr] at hr0
    cases hr0
    exact mk _ w.drew (fun j u hu => cat [] news (grownCap w m 0 e - m) (by simp) h1 j u (by simpa using hu)) _ _
  · by_cases hroom : n + m ≤ cap
    · have hfit : n * i.size + news.length ≤ cur.size := by rw [hl, hcs, ← Nat.add_mul]; exact Nat.mul_le_mul_right _ hroom
      have hr := run_append_room (P := P) w t ty e i ht hi g n cap cur hg a m c news hl hnews h1 hroom hfit
      rw [hr] at hr0
      cases hr0
      intro g' cur' ty' fz' hg' hc' j u hu
      have : g' = g := by simpa [Value.ownBlock] using hg'.symm
      subst this
      rw [setRow_heap w g' cur _ e _ hg] at hc'
      cases hc'
      have hmem := Array.mem_of_getElem? hu
      simp only [List.mem_toArray, List.mem_append] at hmem
      have hcur : ∀ u ∈ cur.toList, u.oneCell' = true := fun u hu => by
        obtain ⟨j, hj⟩ := List.getElem?_of_mem hu
        exact hone g' cur e _ rfl hg j u (by simpa using hj)
      rcases hmem with (h | h) | h
      · exact hcur u (List.mem_of_mem_take h)
      · exact h1 u h
      · exact hcur u (List.mem_of_mem_drop h)
    · have holds : ∀ j u, xs[j]? = some u → w.cell? ((⟨g, 0, none⟩ : Addr).add j) = some u := hown.cells (g := g) rfl
      have hr := run_append_grow (P := P) w t ty e i z ht hi hz ⟨g, 0, none⟩ n cap xs hown.1 holds a m c news hl hnews (by omega) (by omega) (growslice_fits (by omega) hbytes)
      rw [hr] at hr0
      cases hr0
      exact mk _ w.drew (cat xs news _ hx1 h1) _ _
theorem Fp {F : Fence} {n : Nat} {P : Program} (w : World) {ops : Array Oper} {rest : List Oper} {o : Oper} {a : Act} {Q : Exit → Act → World → Prop}
    (hg : o.guard = none) (s x : Operand) (t : TypeId) (hop : o.op = Op.call { callee := Callee.builtin Builtin.append, args := #[s, x], argTypes := #[t, t] })
    (base : Nat) (e : TypeId) (i : TypeInfo) (z : Value) (size bytes : Nat) (h1 : P.underlying t = some (.slice e)) (h2 : P.info? e = some i) (h3 : i.zero = some z) (h4 : i.size = size) (h5 : i.bytes = bytes) (h6 : z.cells.size = size) (h7 : 0 < size) (hz1 : ∀ (i : Nat) (u : Value), z.cells[i]? = some u → u.oneCell' = true)
    (v : Value) (k : Nat) (xs : List Value) (hs : a.eval s = v) (hown : w.ownsRow base e size v k xs) (hone : One v w) (hx1 : ∀ u ∈ xs, u.oneCell' = true) (ad : Addr) (m c : Nat) (news : List Value) (hx : a.eval x = .slice (some ad) m c) (hn : news.length = m * size)
    (hc : ∀ j u, news[j]? = some u → w.cell? (ad.add j) = some u) (h1c : ∀ u ∈ news, u.oneCell' = true) (b1 : k + m ≤ maxLen) (b2 : (k + m) * bytes ≤ 140737488355328) (b3 : base ≤ w.heap.size) (hm : 0 < m)
    (hK : ∀ v' w', w'.ownsRow base e size v' (k + m) (xs ++ news) → w.grownBy w' v.ownBlock → One v' w' → wpListIn F n P ops Q rest (a.put o.dst v') w') :
    wpListIn F n P ops Q (o :: rest) a w := by
  refine wpListIn_plain hg fun K hK' => ?_
  obtain ⟨v', w', hrun, r1, r2, r3, r4⟩ := Jl (P := P) w base t o.type e i z size bytes h1 h2 h3 h4 h5 h6 h7 hz1 v k xs hown hone hx1 ad m c news hn hc h1c b1 b2 b3 hm
  unfold Oper.wpIn
  refine ⟨?_, ?_⟩
  · simp [Oper.about, hop, resolve, Target.leads, Sem.run_pure]
  · rw [Oper.semAt_plain F _ _ (by rw [hop]; intro c hc'; cases hc')]
    simp [execOp, hop, resolve, invoke, builtin, hs, hx, hrun, Result.andThen]
    exact hK' _ _ (hK v' w' r1 r2 r4)
def apAssign : Code := (Code.region 2 #[{ dst := some 5, op := Op.assign (Operand.tmp 7), type := 9, pos := "iter.go:51", after := #[], guard := none }] false)
def apBody : Code := (Code.block 1 (Code.region 3 #[{ dst := some 8, op := Op.load 111 (Operand.tmp 2), type := 111, pos := "iter.go:52", after := #[], guard := none }, { dst := some 9, op := Op.move (Operand.tmp 5), type := 9, pos := "iter.go:52", after := #[], guard := none }, { dst := some 10, op := Op.buildSlice 111 1 #[(0, Operand.tmp 9)], type := 111, pos := "iter.go:52", after := #[{ on := 1, ground := Ground.data }], guard := none }, { dst := some 11, op := Op.call { callee := Callee.builtin Builtin.append, args := #[Operand.tmp 8, Operand.tmp 10], argTypes := #[111, 111] }, type := 111, pos := "iter.go:52", after := #[{ on := 0, ground := Ground.data }, { on := 2, ground := Ground.data }], guard := none }, { dst := none, op := Op.store 111 (Operand.tmp 2) (Operand.tmp 11), type := 0, pos := "iter.go:52", after := #[{ on := 3, ground := Ground.data }, { on := 3, ground := Ground.chain }, { on := 0, ground := Ground.phase }, { on := 1, ground := Ground.phase }, { on := 2, ground := Ground.phase }, { on := 3, ground := Ground.phase }], guard := none }] false))
def apRec (fn : FuncId) (sv : Value) (Bs D : Nat) (st : LoopState) (pend : Option Code) : Loop :=
  { state := st, pending := pend, fn, tmps := #[.slice none 0 0, sv, .pointer (some ⟨Bs, 0, none⟩), undef, .slice none 0 0, undef, sv, undef, undef, undef, undef, undef, undef], params := #[7], assign := apAssign, body := apBody, defers := D }
structure ApAt (B : Nat) (w0 : World) (fn : FuncId) (sv : Value) (Bs l D : Nat) (ss : List ByteArray) (W : World) : Prop where
  box : ∃ v, W.heap[Bs]? = some (.cells #[v] 111 (0, 0)) ∧ W.ownsRow w0.heap.size 9 1 v ss.length (ss.map Value.string) ∧ One v W
  L : W.heap[l]? = some (.loop (apRec fn sv Bs D .ready none))
  K : W.heap[D]? = some (.deferred (some []))
  but : But B w0 W
theorem ApAt.step {B : Nat} {w0 : World} {fn : FuncId} {sv : Value} {Bs l D : Nat} {ss : List ByteArray} {W W' : World} (h : ApAt B w0 fn sv Bs l D ss W) (hB : B < w0.heap.size) (h1 : w0.heap.size ≤ Bs) (h2 : w0.heap.size ≤ l) (h3 : w0.heap.size ≤ D)
    {row : Option Nat} (hg : W.grownBy W' row) (hr : ∀ r, row = some r → r = B) : ApAt B w0 fn sv Bs l D ss W' := by
  have key : ∀ (j : Nat) (o : Obj), w0.heap.size ≤ j → W.heap[j]? = some o → W'.heap[j]? = some o := fun j o hj ho => (hg.block j (Array.getElem?_eq_some_iff.1 ho).1 (fun e => by have := hr j e.symm; omega)).trans ho
  obtain ⟨v, hv, hrow, hn⟩ := h.box
  refine ⟨⟨v, key _ _ h1 hv, hrow.kept hg ?_, hn.kept fun g hgb => hg.block g (hrow.lt g hgb).2 (fun e => by have := hr g e.symm; have := (hrow.lt g hgb).1; omega)⟩, key _ _ h2 h.L, key _ _ h3 h.K, h.but.grown hg (fun k e => .inr (hr k e))⟩
  rcases hrow.2 with ⟨rfl, _⟩ | ⟨g, cap, cur, rfl, hb, _⟩
  · exact .inl rfl
  · refine .inr fun e' => ?_
    have := hr g (by simpa [Value.ownBlock] using e'.symm)
    omega
set_option maxRecDepth 100000 in
theorem apYield (F : Fence) (m : Nat) (B : Nat) (w0 : World) (fn : FuncId) (hfn : F.fn fn) (sv : Value) (Bs l D : Nat) (hB : B < w0.heap.size) (hBl : Bs ≠ l) (hDl : D ≠ l) (hDB : D ≠ Bs) (h0B : w0.heap.size ≤ Bs) (h0l : w0.heap.size ≤ l)
    (N : Nat) (hN : N ≤ maxLen) (hNb : N * 16 ≤ 140737488355328) (ss : List ByteArray) (x : ByteArray) (W : World) (h : ApAt B w0 fn sv Bs l D ss W) (hlen : ss.length < N) :
    YieldAt F m Tryz.prog l #[.string x] W fun e W' => e = .returned (.bool true) ∧ ApAt B w0 fn sv Bs l D (ss ++ [x]) W' ∧ W'.heap[B]? = W.heap[B]? ∧ W.heap.size ≤ W'.heap.size := by
  have t111 := Tryz.underlying111; have t9 := Tryz.underlying9
  have u111 := run_underlying Tryz.underlying111; have u9 := run_underlying Tryz.underlying9
  obtain ⟨i0, hi, hz0, hz1, hz2⟩ := info_parts (P := Tryz.prog) (e := 9) (z := .string ⟨#[]⟩) (size := 1) (bytes := 16) (by kernel_rfl)
  obtain ⟨v, hv, hrow, hone⟩ := h.box
  refine ⟨fn, #[.slice none 0 0, sv, .pointer (some ⟨Bs, 0, none⟩), undef, .slice none 0 0, undef, sv, .string x, undef, undef, undef, undef, undef], apAssign, apBody, by simpa [apRec] using run_yield (P := Tryz.prog) (args := #[.string x]) h.L rfl, roundIn_of_wpIn hfn ?_⟩
  have hl : l < W.heap.size := (Array.getElem?_eq_some_iff.1 h.L).1
  have hbr := run_beginRound (P := Tryz.prog) h.L rfl
  obtain ⟨W2, hW2⟩ : ∃ W2, W.putObj l (.loop { apRec fn sv Bs D .ready none with state := .busy }) = W2 := ⟨_, rfl⟩
  rw [hW2] at hbr
  have hg2 : W.grownBy W2 (some l) := by rw [← hW2]; exact grownBy_putObj_a _ _ _
  have hv2 : W2.heap[Bs]? = some (.cells #[v] 111 (0, 0)) := by rw [← hW2]; exact (World.putObj_heap_other hBl).trans hv
  have hK2 : W2.heap[D]? = some (.deferred (some [])) := by rw [← hW2]; exact (World.putObj_heap_other hDl).trans h.K
  have hL2 : W2.heap[l]? = some (.loop { apRec fn sv Bs D .ready none with state := .busy }) := by rw [← hW2]; exact World.putObj_heap_same hl
  have hrow2 : W2.ownsRow w0.heap.size 9 1 v ss.length (ss.map Value.string) := hrow.kept hg2 (ownsRow_ne_a hrow h.L (fun cur e => by cases e))
  have hone2 : One v W2 := hone.kept fun g hgb => hg2.block g (hrow.lt g hgb).2 (fun e => by cases e; rcases ownsRow_ne_a hrow h.L (fun cur e => by cases e) with e | e <;> simp_all)
  have hb2 : But B w0 W2 := h.but.grown hg2 (fun k e => by cases e; exact .inl h0l)
  obtain ⟨hc2, hf2⟩ := cell_of_box_a hv2
  have hBlt : Bs < W2.heap.size := (Array.getElem?_eq_some_iff.1 hv2).1
  have hl2 : l < W2.heap.size := (Array.getElem?_eq_some_iff.1 hL2).1
  have hDlt : D < W2.heap.size := (Array.getElem?_eq_some_iff.1 hK2).1
  have hBB : B < W2.heap.size := Nat.lt_of_lt_of_le hB hb2.size
  have hBW : W2.heap[B]? = W.heap[B]? := by rw [← hW2]; exact World.putObj_heap_other (by omega)
  have hWs : W.heap.size = W2.heap.size := by rw [← hW2]; simp
  have ne_of : ∀ {j : Nat} {o : Obj}, W2.heap[j]? = some o → (∀ cur, o ≠ .cells cur 9 (0, 0)) → some j ≠ v.ownBlock := fun hj hno => by
    rcases ownsRow_ne_a hrow2 hj hno with e | e
    · rw [e]; simp
    · exact fun e' => e e'.symm
  have ne_B : some B ≠ v.ownBlock := by
    rcases hrow2.2 with ⟨rfl, _⟩ | ⟨g, cap, cur, rfl, hb, _⟩
    · simp [Value.ownBlock]
    · simp only [Value.ownBlock]; intro e; cases e; omega
  clear hW2
  unfold apAssign
  gi_wp2_with gi_round_op_a
  unfold apBody
  gi_wp2_with (first
    | (gi_at_builtin; refine Fp _ rfl _ _ 111 rfl w0.heap.size 9 i0 (.string ⟨#[]⟩) 1 16 Tryz.underlying111 hi hz0 hz1 hz2 rfl (by decide) (fun i u hu => by rcases i with _ | i <;> simp [Value.cells] at hu; subst hu; rfl) _ _ _ rfl (hrow2.alloc _) (hone2.kept fun g hgb => Below.heap_alloc _ _ g (hrow2.lt g hgb).2) (by simp [Value.oneCell']) ⟨W2.heap.size, 0, none⟩ 1 1 [.string x] rfl rfl (cell_one_new _ _ _) (by simp [Value.oneCell']) (by omega) (by omega) (by have := hb2.size; simp; omega) (by decide) ?_; intro v' w3 hown' hg3 hone3
       have hv3 : w3.heap[Bs]? = some (.cells #[v] 111 (0, 0)) := (hg3.block Bs (by simp; omega) (ne_of hv2 (fun cur e => by cases e))).trans ((Below.heap_alloc _ _ Bs hBlt).trans hv2)
       obtain ⟨hc3, hf3⟩ := cell_of_box_a hv3
       obtain ⟨g', cap', cur', rfl, hbase', hgb', hr1, hr2, hr3, hr4⟩ : ∃ g' cap' cur', v' = .slice (some ⟨g', 0, none⟩) (ss.length + 1) cap' ∧ w0.heap.size ≤ g' ∧ w3.heap[g']? = some (.cells cur' 9 (0, 0)) ∧ ss.length + 1 ≤ cap' ∧ cap' ≤ maxLen ∧ cur'.size = cap' * 1 ∧ cur'.toList.take ((ss.length + 1) * 1) = ss.map Value.string ++ [.string x] := by
         rcases hown'.2 with ⟨_, h0⟩ | h'
         · exact absurd h0 (by omega)
         · exact h'
       go_frame)
    | gi_round_op_a)
  have hg3' : (W2.alloc (.cells #[.string x] 9)).grownBy w3 v.ownBlock := hg3
  have hL3 : w3.heap[l]? = some (.loop { apRec fn sv Bs D .ready none with state := .busy }) := (hg3'.block l (by simp; omega) (ne_of hL2 (fun cur e => by cases e))).trans ((Below.heap_alloc _ _ l hl2).trans hL2)
  have hK3 : w3.heap[D]? = some (.deferred (some [])) := (hg3'.block D (by simp; omega) (ne_of hK2 (fun cur e => by cases e))).trans ((Below.heap_alloc _ _ D hDlt).trans hK2)
  have hB3 : w3.heap[B]? = W2.heap[B]? := (hg3'.block B (by simp; omega) ne_B).trans (Below.heap_alloc _ _ B hBB)
  obtain ⟨w4, hw4⟩ : ∃ w4, w3.setCell ⟨Bs, 0, none⟩ (.slice (some ⟨g', 0, none⟩) (ss.length + 1) cap') = w4 := ⟨_, rfl⟩
  rw [hw4]
  have hg4 : w3.grownBy w4 (some Bs) := by rw [← hw4]; exact grownBy_setCell0_a _ _ _
  have hv4 : w4.heap[Bs]? = some (.cells #[.slice (some ⟨g', 0, none⟩) (ss.length + 1) cap'] 111 (0, 0)) := by rw [← hw4]; exact heap_setCell_box_a _ hv3
  have hL4 : w4.heap[l]? = some (.loop { apRec fn sv Bs D .ready none with state := .busy }) := (hg4.block l (Array.getElem?_eq_some_iff.1 hL3).1 (fun e => hBl (by cases e; rfl))).trans hL3
  have hK4 : w4.heap[D]? = some (.deferred (some [])) := (hg4.block D (Array.getElem?_eq_some_iff.1 hK3).1 (fun e => hDB (by cases e; rfl))).trans hK3
  have hs3 : W2.heap.size + 1 ≤ w3.heap.size := by have := hg3'.size; simpa using this
  have hB4 : w4.heap[B]? = w3.heap[B]? := hg4.block B (by omega) (fun e => by cases e; omega)
  have hrow4 := hown'.kept hg4 (ownsRow_ne_a hown' hv3 (fun cur e => by cases e))
  have hone4 := hone3.kept (w' := w4) (fun g hgb => hg4.block g (hown'.lt g hgb).2 (fun e => by cases e; rcases ownsRow_ne_a hown' hv3 (fun cur e => by cases e) with e | e <;> simp_all))
  have hl4 : l < w4.heap.size := (Array.getElem?_eq_some_iff.1 hL4).1
  have hs4 : w3.heap.size ≤ w4.heap.size := hg4.size
  have hb3 : But B w0 w3 := (hb2.alloc _).grown hg3' (fun k e => .inl (hrow2.lt k e).1)
  have hb4 : But B w0 w4 := hb3.grown hg4 (fun k e => by cases e; exact .inl h0B)
  clear hw4
  refine ⟨_, _, run_endRound none hL4, rfl, ⟨⟨_, (World.putObj_heap_other hBl).trans hv4, ?_, hone4.kept fun g hgb => World.putObj_heap_other (fun e => by subst e; rcases ownsRow_ne_a hrow4 hL4 (fun cur e => by cases e) with e | e <;> simp_all)⟩, World.putObj_heap_same hl4, (World.putObj_heap_other hDl).trans hK4, hb4.grown (grownBy_putObj_a _ _ _) (fun k e => by cases e; exact .inl h0l)⟩, ?_, by simp; omega⟩
  · have := hrow4.kept (grownBy_putObj_a w4 l (.loop { { apRec fn sv Bs D .ready none with state := .busy } with state := if (none : Option Code).isNone then .ready else .done, pending := none })) (ownsRow_ne_a hrow4 hL4 (fun cur e => by cases e))
    simpa using this
  · rw [World.putObj_heap_other (by omega), hB4, hB3, hBW]
    first | rfl | exact Array.getElem?_eq_getElem _
def On (F : Fence) (n : Nat) (g : Nat) (B : Nat) (N : Nat) (XS : List ByteArray) (w0 : World) : Prop :=
  ∀ (l : Nat) (J : List ByteArray → World → Prop) (W : World), w0.heap.size ≤ W.heap.size → W.heap[B]? = w0.heap[B]? → (∀ k, k < w0.heap.size → W.heap[k]? = w0.heap[k]?) →
    (∀ (pre : List ByteArray) (W W' : World) (row : Option Nat), J pre W → W.grownBy W' row → (∀ r, row = some r → r = B) → J pre W') →
    (∀ (pre : List ByteArray) (W : World), J pre W → ∀ k, k < w0.heap.size → k ≠ B → W.heap[k]? = w0.heap[k]?) →
    (∀ pre x W1, J pre W1 → pre.length < N → YieldAt F (n - 1) Tryz.prog l #[.string x] W1 fun e W' => e = .returned (.bool true) ∧ J (pre ++ [x]) W' ∧ W'.heap[B]? = W1.heap[B]? ∧ W1.heap.size ≤ W'.heap.size) →
    J [] W →
    CallsIn F n Tryz.prog g (#[.func (.yield l) #[] #[]] ++ #[.pointer (some ⟨B, 0, none⟩)]) W fun e W' => (∃ v, e = .returned v) ∧ J XS W'
set_option maxRecDepth 100000 in
theorem appendSeq_in (F : Fence) (n : Nat) (h11 : F.fn 84) (hro : F.round = none) (hn : 2 ≤ n) (g B : Nat) (hFg : F.fn g) (eg : ∀ args w, (callFunc g args).run Tryz.prog w = .ok (.enter g args) w)
    (XS : List ByteArray) (N : Nat) (hN : N ≤ maxLen) (hNb : N * 16 ≤ 140737488355328) (w : World) (hB : B < w.heap.size) (hseq : On F (n - 1) g B N XS w) :
    CallsIn F n Tryz.prog 84 #[.slice none 0 0, .func (.func g) #[] #[.pointer (some ⟨B, 0, none⟩)]] w fun e w' => ∃ v : Value, e = .returned v ∧ w'.ownsRow w.heap.size 9 1 v XS.length (XS.map Value.string) ∧ But B w w' ∧ One v w' := by
  have h1 : 1 ≤ n := by omega
  have u111 := run_underlying Tryz.underlying111; have u9 := run_underlying Tryz.underlying9
  refine callsIn_of_wp_marks Tryz.func84 rfl h11 ?_ hro
  simp only [Tryz.ntmps84, List.size_toArray, List.length_cons, List.length_nil, Nat.reduceAdd, Nat.reduceSub, Array.replicate_succ, Array.replicate_zero, List.push_toArray, List.append_toArray, List.nil_append, List.cons_append]
  gi_wp2
  refine wpIn_rangeFunc ?_
  intro fn hfn
  rw [hro]
  obtain ⟨sv, hsv⟩ : ∃ sv, Value.func (.func g) #[] #[.pointer (some ⟨B, 0, none⟩)] = sv := ⟨_, rfl⟩
  obtain ⟨W0, hW0⟩ : ∃ W0, w.alloc (.cells #[.slice none 0 0] 111) = W0 := ⟨_, rfl⟩
  have hs0 : W0.heap.size = w.heap.size + 1 := by rw [← hW0]; simp
  have hv0 : W0.heap[w.heap.size]? = some (.cells #[.slice none 0 0] 111 (0, 0)) := by rw [← hW0]; exact World.alloc_heap_new w _
  have hb0 : But B w W0 := by rw [← hW0]; exact (But.refl _ w).alloc _
  have ho0 : ∀ k, k < w.heap.size → W0.heap[k]? = w.heap[k]? := fun k hk => by rw [← hW0]; exact Below.heap_alloc _ _ k hk
  rw [hW0]
  obtain ⟨W1, hW1⟩ : ∃ W1, (W0.alloc (.deferred (some []))).alloc (.loop (apRec fn sv w.heap.size W0.heap.size .ready none)) = W1 := ⟨_, rfl⟩
  have hold : ∀ k, k < W0.heap.size → W1.heap[k]? = W0.heap[k]? := fun k hk => by
    rw [← hW1]; exact (Below.heap_alloc _ _ k (by simp; omega)).trans (Below.heap_alloc _ _ k hk)
  have hb1 : But B w W1 := by rw [← hW1]; exact (hb0.alloc _).alloc _
  have hs1 : W1.heap.size = W0.heap.size + 2 := by rw [← hW1]; simp
  have hM : ApAt B w fn sv w.heap.size (W0.heap.size + 1) W0.heap.size [] W1 :=
    ⟨⟨_, (hold w.heap.size (by omega)).trans hv0, ⟨rfl, .inl ⟨rfl, rfl⟩⟩, fun g cur ty fz h => by simp [Value.ownBlock] at h⟩,
     by rw [← hW1]; have := World.alloc_heap_new (W0.alloc (.deferred (some []))) (.loop (apRec fn sv w.heap.size W0.heap.size .ready none)); rwa [World.size_alloc] at this,
     by rw [← hW1]; exact (Below.heap_alloc _ _ _ (by simp)).trans (World.alloc_heap_new W0 _), hb1⟩
  refine ⟨W0.heap.size + 1, [{ target := .collected W0.heap.size, args := #[] }], W1, { target := .fn (.func g) #[.pointer (some ⟨B, 0, none⟩)], args := #[.func (.yield (W0.heap.size + 1)) #[] #[]] }, W1, g,
    #[.func (.yield (W0.heap.size + 1)) #[] #[]] ++ #[.pointer (some ⟨B, 0, none⟩)], W1, ?_, ?_, ?_, ?_, fun _ => h1, ?_⟩
  · rw [← hW1, ← hsv]; exact run_enterLoop_outer _ _ _ _ _
  · simp [resolve, go_sem]
  · intro f' hf'; simp [Target.leads] at hf'; subst hf'; exact hFg
  · simp [invoke, go_sem, eg]
  · refine (hseq (W0.heap.size + 1) (ApAt B w fn sv w.heap.size (W0.heap.size + 1) W0.heap.size) W1 hb1.size ((hold B (by omega)).trans (ho0 B hB)) (fun k hk => (hold k (by omega)).trans (ho0 k hk))
      (fun pre W W' row hJ hg hr => hJ.step hB (Nat.le_refl _) (by omega) (by omega) hg hr)
      (fun pre W hJ k hk hkB => hJ.but.block k hk hkB)
      (fun pre x W hJ hl => apYield F (n - 1 - 1) B w fn hfn sv w.heap.size (W0.heap.size + 1) W0.heap.size hB (by omega) (by omega) (by omega) (Nat.le_refl _) (by omega) N hN hNb pre x W hJ hl) hM).mono ?_
    rintro e W2 ⟨⟨v0, rfl⟩, h2⟩
    obtain ⟨v, hv, hrow, hnil⟩ := h2.box
    have hend := run_endLoop (P := Tryz.prog) h2.L (by simp [apRec])
    obtain ⟨W3, hW3⟩ : ∃ W3, W2.putObj (W0.heap.size + 1) (.loop { apRec fn sv w.heap.size W0.heap.size .ready none with state := .exhausted }) = W3 := ⟨_, rfl⟩
    rw [hW3] at hend
    have hg3 : W2.grownBy W3 (some (W0.heap.size + 1)) := by rw [← hW3]; exact grownBy_putObj_a _ _ _
    have hv3 : W3.heap[w.heap.size]? = some (.cells #[v] 111 (0, 0)) := by rw [← hW3]; exact (World.putObj_heap_other (by omega)).trans hv
    have hK3 : W3.heap[W0.heap.size]? = some (.deferred (some [])) := by rw [← hW3]; exact (World.putObj_heap_other (by omega)).trans h2.K
    have hrow3 := hrow.kept hg3 (ownsRow_ne_a hrow h2.L (fun cur e => by cases e))
    have hone3 : One v W3 := hnil.kept fun g hgb => hg3.block g (hrow.lt g hgb).2 (fun e => by cases e; rcases ownsRow_ne_a hrow h2.L (fun cur e => by cases e) with e | e <;> simp_all)
    have hb3 : But B w W3 := h2.but.grown hg3 (fun k e => by cases e; exact .inl (by omega))
    obtain ⟨hc3, hf3⟩ := cell_of_box_a hv3
    clear hW3
    refine ⟨none, W3, hend, ?_⟩
    gi_wp2
    rw [← hs0]
    refine ⟨by simp, .inl ⟨_, _, rfl, run_takeDeferred hK3, ?_⟩⟩
    exact ⟨_, results_tmp rfl _ _ _, v, rfl, hrow3.kept (grownBy_putObj_a _ _ _) (ownsRow_ne_a hrow3 hK3 (fun cur e => by cases e)), hb3.grown (grownBy_putObj_a _ _ _) (fun k e => by cases e; exact .inl (by omega)), hone3.kept fun g hgb => World.putObj_heap_other (fun e => by subst e; rcases ownsRow_ne_a hrow3 hK3 (fun cur e => by cases e) with e | e <;> simp_all)⟩
theorem collect_in (F : Fence) (n : Nat) (h8 : F.fn 52) (h11 : F.fn 84) (hro : F.round = none) (hn : 3 ≤ n) (g B : Nat) (hFg : F.fn g) (eg : ∀ args w, (callFunc g args).run Tryz.prog w = .ok (.enter g args) w)
    (XS : List ByteArray) (N : Nat) (hN : N ≤ maxLen) (hNb : N * 16 ≤ 140737488355328) (w : World) (hB : B < w.heap.size) (hseq : On F (n - 1 - 1) g B N XS w) :
    CallsIn F n Tryz.prog 52 #[.func (.func g) #[] #[.pointer (some ⟨B, 0, none⟩)]] w fun e w' => ∃ v : Value, e = .returned v ∧ w'.ownsRow w.heap.size 9 1 v XS.length (XS.map Value.string) ∧ But B w w' ∧ One v w' := by
  have e11 : ∀ args w, (callFunc 84 args).run Tryz.prog w = .ok (.enter 84 args) w := enters_of Tryz.func84 (by kernel_rfl) rfl
  refine callsIn_of_wp Tryz.func52 rfl h8 ?_ hro
  simp only [Tryz.ntmps52, List.size_toArray, List.length_cons, List.length_nil, Nat.reduceAdd, Nat.reduceSub, Array.replicate_succ, Array.replicate_zero, List.push_toArray, List.append_toArray, List.nil_append, List.cons_append]
  gi_wp2_with (refine ⟨fun _ => (by omega : 1 ≤ n), ?_⟩; refine (appendSeq_in F (n - 1) h11 hro (by omega) g B hFg eg XS N hN hNb _ hB hseq).mono ?_; rintro e w' ⟨v, rfl, hrow, hb, hone⟩)
  go_ret
  exact ⟨v, rfl, hrow, hb, hone⟩
theorem ZL (b : ByteArray) (w : World) : (callFunc 156 #[.string b, .int .u8 10]).run Tryz.prog w = .ok (.value (.int .i64 (firstIdx b 10))) w := by
  rw [run_callFunc_extern Tryz.func156 (by kernel_rfl) (by kernel_rfl) (by kernel_rfl) (e := Extern.BytealgIndexByte.indexByte) (by kernel_rfl), run_indexByte_string]
  rfl
theorem No (F : Fence) (n : Nat) (h2 : F.fn 124) (h3 : F.fn 156) (hro : F.round = none) (b : ByteArray) (w : World) :
    CallsIn F n Tryz.prog 124 #[.string b, .int .u8 10] w fun e w' => e = .returned (.int .i64 (firstIdx b 10)) ∧ w' = w := by
  have e156 := ZL b
  refine callsIn_of_wp Tryz.func124 rfl h2 ?_ hro
  simp only [Tryz.ntmps124, List.size_toArray, List.length_cons, List.length_nil, Nat.reduceAdd, Nat.reduceSub, Array.replicate_succ, Array.replicate_zero, List.push_toArray, List.append_toArray, List.nil_append, List.cons_append]
  gi_wp2_with (refine ⟨h3, ?_⟩)
  go_ret
  exact ⟨rfl, rfl⟩
theorem Pn (F : Fence) (n : Nat) (h1 : F.fn 86) (h2 : F.fn 124) (h3 : F.fn 156) (hro : F.round = none) (hn : 1 ≤ n) (b : ByteArray) (w : World) :
    CallsIn F n Tryz.prog 86 #[.string b, .int .u8 10] w fun e w' => e = .returned (.int .i64 (firstIdx b 10)) ∧ w' = w := by
  have e124 : ∀ args w, (callFunc 124 args).run Tryz.prog w = .ok (.enter 124 args) w := enters_of Tryz.func124 (by kernel_rfl) rfl
  refine callsIn_of_wp Tryz.func86 rfl h1 ?_ hro
  simp only [Tryz.ntmps86, List.size_toArray, List.length_cons, List.length_nil, Nat.reduceAdd, Nat.reduceSub, Array.replicate_succ, Array.replicate_zero, List.push_toArray, List.append_toArray, List.nil_append, List.cons_append]
  gi_wp2_with (refine (No F (n - 1) h2 h3 hro b w).mono ?_; rintro e w' ⟨rfl, rfl⟩)
  go_ret
  exact ⟨rfl, rfl⟩
def ZM : Value → Int
  | .int _ n => n
  | _ => 0
set_option maxRecDepth 100000 in
/-- slices.Values over a row of one string that lies in a block of its own -/
theorem LX (F : Fence) (n : Nat) (h1 : F.fn 138) (hro : F.round = none) (hn : 1 ≤ n) (B b : Nat) (w0 : World) (x : ByteArray) (cap : Nat) (hB : B < w0.heap.size) (hb : b < w0.heap.size) (hc : w0.cell? ⟨B, 0, none⟩ = some (.slice (some ⟨b, 0, none⟩) 1 cap)) (hx : w0.cell? ⟨b, 0, none⟩ = some (.string x)) :
    On F n 138 B 2 [x] w0 := by
  intro l J W hs hWB hW hJs hJo hY h0
  have hcB : W.cell? ⟨B, 0, none⟩ = some (.slice (some ⟨b, 0, none⟩) 1 cap) := (World.cell?_of_block (w := w0) hWB).trans hc
  have hcb : W.cell? ⟨b, 0, none⟩ = some (.string x) := (World.cell?_of_block (w := w0) (hW b hb)).trans hx
  obtain ⟨fn, tmps, assign, body, hy, hR⟩ := hY [] x W h0 (by simp)
  have u111 := run_underlying Tryz.underlying111; have u9 := run_underlying Tryz.underlying9
  refine callsIn_of_wp Tryz.func138 rfl h1 ?_ hro
  simp only [Tryz.ntmps138, List.size_toArray, List.length_cons, List.length_nil, Nat.reduceAdd, Nat.reduceSub, Array.replicate_succ, Array.replicate_zero, List.push_toArray, List.append_toArray, List.nil_append, List.cons_append]
  gi_wp2
  gi_loopw [7] (fun i wr => (i = .int .i64 0 ∧ wr = W) ∨ (i = .int .i64 1 ∧ J [x] wr)) (fun i _ => (2 - ZM i).toNat)
  case atStart => exact .inl ⟨rfl, rfl⟩
  case round =>
    rcases hrel with ⟨rfl, rfl⟩ | ⟨rfl, hJ⟩
    · gi_wp2
      refine hR.mono ?_
      rintro e W3 ⟨rfl, hJ3, hk3, hs3⟩
      gi_wp2
      go_roundw
      case rel => exact .inr ⟨rfl, hJ3⟩
      case measure => simp [ZM]
    · gi_wp2
      go_end0
      exact ⟨⟨_, rfl⟩, hJ⟩
def ZN : Option Value → Nat
  | some (.string b) => b.size
  | _ => 0
def Rz : Oper := { dst := some 12, op := Op.load 9 (Operand.tmp 1), type := 9, pos := "iter.go:23", after := #[], guard := none }
def Yi : Oper := { dst := some 13, op := Op.move (Operand.tmp 4), type := 3, pos := "iter.go:23", after := #[], guard := none }
def Yj : Oper := { dst := some 14, op := Op.binOp BinOp.add 3 (Operand.tmp 13) (Operand.const (Value.int IntKind.i64 1)) 3, type := 3, pos := "iter.go:23", after := #[{ on := 1, ground := Ground.data }], guard := none }
def R5 : Oper := { dst := some 15, op := Op.slice 9 (Operand.tmp 12) none (some (Operand.tmp 14)) none, type := 9, pos := "iter.go:23", after := #[{ on := 0, ground := Ground.data }, { on := 2, ground := Ground.data }], guard := none }
def R6 : Oper := { dst := some 16, op := Op.load 9 (Operand.tmp 1), type := 9, pos := "iter.go:23", after := #[], guard := none }
def Yk : Oper := { dst := some 17, op := Op.move (Operand.tmp 4), type := 3, pos := "iter.go:23", after := #[], guard := none }
def Yl : Oper := { dst := some 18, op := Op.binOp BinOp.add 3 (Operand.tmp 17) (Operand.const (Value.int IntKind.i64 1)) 3, type := 3, pos := "iter.go:23", after := #[{ on := 5, ground := Ground.data }], guard := none }
def SA : Oper := { dst := some 19, op := Op.slice 9 (Operand.tmp 16) (some (Operand.tmp 18)) none none, type := 9, pos := "iter.go:23", after := #[{ on := 4, ground := Ground.data }, { on := 6, ground := Ground.data }], guard := none }
def SB : Oper := { dst := some 3, op := Op.assign (Operand.tmp 15), type := 9, pos := "iter.go:23", after := #[{ on := 3, ground := Ground.data }, { on := 0, ground := Ground.phase }, { on := 1, ground := Ground.phase }, { on := 2, ground := Ground.phase }, { on := 3, ground := Ground.phase }, { on := 4, ground := Ground.textOnly Departure.lateStores }, { on := 5, ground := Ground.textOnly Departure.lateStores }, { on := 6, ground := Ground.textOnly Departure.lateStores }, { on := 7, ground := Ground.textOnly Departure.lateStoresUnsure }], guard := none }
def SC : Oper := { dst := none, op := Op.store 9 (Operand.tmp 1) (Operand.tmp 19), type := 0, pos := "iter.go:23", after := #[{ on := 7, ground := Ground.data }, { on := 8, ground := Ground.chain }, { on := 0, ground := Ground.phase }, { on := 1, ground := Ground.phase }, { on := 2, ground := Ground.phase }, { on := 3, ground := Ground.phase }, { on := 4, ground := Ground.phase }, { on := 5, ground := Ground.phase }, { on := 6, ground := Ground.phase }, { on := 7, ground := Ground.phase }, { on := 8, ground := Ground.phase }], guard := none }
def DK : Array Oper := #[Rz, Yi, Yj, R5, R6, Yk, Yl, SA, SB, SC]
theorem SD {P : Program} {ops : Array Oper} {F : Exit → Act → World → Prop} {Q' : Act → World → Prop} {i : Nat} {o : Oper} {a : Act} {w w' : World} (ho : ops[i]? = some o) (hg : o.guard = none) (_ : o.dst = none) (hr : (execOp a.eval o).run P w = .ok .skip w') (h : Q' (a.put o.dst undef) w') : wpOp P ops F i Q' a w := by
  unfold wpOp
  simp only [ho]
  rw [show Region.wanted o (yielded ops a.tmps) = true by simp [Region.wanted, hg], if_pos rfl]
  refine .inl ?_
  unfold Oper.wp
  rw [hr]; exact h
theorem Oo {P : Program} {ops : Array Oper} {F : Exit → Act → World → Prop} {Q' : Act → World → Prop} {i : Nat} {o : Oper} {v : Value} {a : Act} {w w' : World} (ho : ops[i]? = some o) (hg : o.guard = none) (hr : (execOp a.eval o).run P w = .ok (.value v) w') (h : Q' (a.put o.dst v) w') : wpOp P ops F i Q' a w := by
  unfold wpOp
  simp only [ho]
  rw [show Region.wanted o (yielded ops a.tmps) = true by simp [Region.wanted, hg], if_pos rfl]
  refine .inl ?_
  unfold Oper.wp
  rw [hr]; exact h
set_option maxRecDepth 100000 in
theorem ZO {Q : Exit → Act → World → Prop} (hQ : ∀ (c : _) (a : Act) (d : Option Nat) (v : Value) (w : World), Q (.panic c) (a.put d v) w → Q (.panic c) a w) (w : World) (B i : Nat) (s l r : ByteArray) (hc : w.cell? ⟨B, 0, none⟩ = some (.string s)) (hf : w.frozen? ⟨B, 0, none⟩ = false)
    (hwr : IntKind.i64.wrap ((i : Int) + 1) = (i : Int) + 1) (hle1 : (0 : Int) ≤ (i : Int) + 1) (hle2 : (i : Int) + 1 ≤ (s.size : Int)) (hl : s.extract 0 (i + 1) = l) (hr : s.extract (i + 1) s.size = r)
    (x0 x2 x3 x5 x6 x7 x8 x9 x10 x11 x12 x13 x14 x15 x16 x17 x18 x19 x20 x21 x22 x23 x24 : Value)
    (h : Q .normal { tmps := #[x0, .pointer (some ⟨B, 0, none⟩), x2, .string l, .int .i64 i, x5, x6, x7, x8, x9, x10, x11, .string s, .int .i64 i, .int .i64 ((i : Int) + 1), .string l, .string s, .int .i64 i, .int .i64 ((i : Int) + 1), .string r, x20, x21, x22, x23, x24], defers := [] } (w.drew.setCell ⟨B, 0, none⟩ (.string r))) :
    (Code.region 4 DK true).wp Tryz.prog Q { tmps := #[x0, .pointer (some ⟨B, 0, none⟩), x2, x3, .int .i64 i, x5, x6, x7, x8, x9, x10, x11, x12, x13, x14, x15, x16, x17, x18, x19, x20, x21, x22, x23, x24], defers := [] } w := by
  have u9 := run_underlying Tryz.underlying9
  refine wp_region_held (S := fun _ => True) (by kernel_rfl) ?_
  have hS : w.drew.cell? ⟨B, 0, none⟩ = some (.string s) := hc
  have hfd : w.drew.frozen? ⟨B, 0, none⟩ = false := hf
  refine (?_ : wpAnyH Tryz.prog .any DK _ _ (9 + 1) _ { tmps := #[x0, .pointer (some ⟨B, 0, none⟩), x2, x3, .int .i64 i, x5, x6, x7, x8, x9, x10, x11, x12, x13, x14, x15, x16, x17, x18, x19, x20, x21, x22, x23, x24], defers := [] } w.drew)
  refine wpAnyH_take (i := 1) (oi := Yi) (v := .int .i64 i) rfl (by kernel_rfl) (by kernel_rfl) (by kernel_rfl) (fun c a w h => hQ c a _ _ w h) (.inl ⟨rfl, fun w' hw' => by unfold Yi; go_simp⟩) trivial ?_
  refine (?_ : wpAnyH Tryz.prog .any DK _ _ (8 + 1) _ { tmps := #[x0, .pointer (some ⟨B, 0, none⟩), x2, x3, .int .i64 i, x5, x6, x7, x8, x9, x10, x11, x12, .int .i64 i, x14, x15, x16, x17, x18, x19, x20, x21, x22, x23, x24], defers := [] } w.drew)
  refine wpAnyH_take (i := 2) (oi := Yj) (v := .int .i64 ((i : Int) + 1)) rfl (by kernel_rfl) (by kernel_rfl) (by kernel_rfl) (fun c a w h => hQ c a _ _ w h) (.inl ⟨rfl, fun w' hw' => by unfold Yj; go_simp⟩) trivial ?_
  refine (?_ : wpAnyH Tryz.prog .any DK _ _ (7 + 1) _ { tmps := #[x0, .pointer (some ⟨B, 0, none⟩), x2, x3, .int .i64 i, x5, x6, x7, x8, x9, x10, x11, x12, .int .i64 i, .int .i64 ((i : Int) + 1), x15, x16, x17, x18, x19, x20, x21, x22, x23, x24], defers := [] } w.drew)
  refine wpAnyH_take (i := 5) (oi := Yk) (v := .int .i64 i) rfl (by kernel_rfl) (by kernel_rfl) (by kernel_rfl) (fun c a w h => hQ c a _ _ w h) (.inl ⟨rfl, fun w' hw' => by unfold Yk; go_simp⟩) trivial ?_
  refine (?_ : wpAnyH Tryz.prog .any DK _ _ (6 + 1) _ { tmps := #[x0, .pointer (some ⟨B, 0, none⟩), x2, x3, .int .i64 i, x5, x6, x7, x8, x9, x10, x11, x12, .int .i64 i, .int .i64 ((i : Int) + 1), x15, x16, .int .i64 i, x18, x19, x20, x21, x22, x23, x24], defers := [] } w.drew)
  refine wpAnyH_take (i := 6) (oi := Yl) (v := .int .i64 ((i : Int) + 1)) rfl (by kernel_rfl) (by kernel_rfl) (by kernel_rfl) (fun c a w h => hQ c a _ _ w h) (.inl ⟨rfl, fun w' hw' => by unfold Yl; go_simp⟩) trivial ?_
  refine (?_ : wpAnyH Tryz.prog .any DK _ _ (5 + 1) _ { tmps := #[x0, .pointer (some ⟨B, 0, none⟩), x2, x3, .int .i64 i, x5, x6, x7, x8, x9, x10, x11, x12, .int .i64 i, .int .i64 ((i : Int) + 1), x15, x16, .int .i64 i, .int .i64 ((i : Int) + 1), x19, x20, x21, x22, x23, x24], defers := [] } w.drew)
  refine wpAnyH_all (rs := [0, 4]) (by kernel_rfl) (by simp) fun j hj => ?_
  simp only [List.mem_cons, List.not_mem_nil, or_false] at hj
  rcases hj with rfl | rfl
  · refine Oo (o := Rz) (v := .string s) (w' := w.drew) rfl rfl (by unfold Rz; go_simp) ⟨trivial, ?_⟩
    refine (?_ : wpAnyH Tryz.prog .any DK _ _ (4 + 1) _ { tmps := #[x0, .pointer (some ⟨B, 0, none⟩), x2, x3, .int .i64 i, x5, x6, x7, x8, x9, x10, x11, .string s, .int .i64 i, .int .i64 ((i : Int) + 1), x15, x16, .int .i64 i, .int .i64 ((i : Int) + 1), x19, x20, x21, x22, x23, x24], defers := [] } w.drew)
    refine wpAnyH_take (i := 3) (oi := R5) (v := .string l) rfl (by kernel_rfl) (by kernel_rfl) (by kernel_rfl) (fun c a w h => hQ c a _ _ w h) (.inl ⟨rfl, fun w' hw' => by unfold R5; go_simp⟩) trivial ?_
    refine (?_ : wpAnyH Tryz.prog .any DK _ _ (3 + 1) _ { tmps := #[x0, .pointer (some ⟨B, 0, none⟩), x2, x3, .int .i64 i, x5, x6, x7, x8, x9, x10, x11, .string s, .int .i64 i, .int .i64 ((i : Int) + 1), .string l, x16, .int .i64 i, .int .i64 ((i : Int) + 1), x19, x20, x21, x22, x23, x24], defers := [] } w.drew)
    refine wpAnyH_take (i := 8) (oi := SB) (v := .string l) rfl (by kernel_rfl) (by kernel_rfl) (by kernel_rfl) (fun c a w h => hQ c a _ _ w h) (.inl ⟨rfl, fun w' hw' => by unfold SB; go_simp⟩) trivial ?_
    refine (?_ : wpAnyH Tryz.prog .any DK _ _ (2 + 1) _ { tmps := #[x0, .pointer (some ⟨B, 0, none⟩), x2, .string l, .int .i64 i, x5, x6, x7, x8, x9, x10, x11, .string s, .int .i64 i, .int .i64 ((i : Int) + 1), .string l, x16, .int .i64 i, .int .i64 ((i : Int) + 1), x19, x20, x21, x22, x23, x24], defers := [] } w.drew)
    refine wpAnyH_all (rs := [4]) (by kernel_rfl) (by simp) fun j hj => ?_
    obtain rfl : j = 4 := by simpa using hj
    refine Oo (o := R6) (v := .string s) (w' := w.drew) rfl rfl (by unfold R6; go_simp) ⟨trivial, ?_⟩
    refine (?_ : wpAnyH Tryz.prog .any DK _ _ (1 + 1) _ { tmps := #[x0, .pointer (some ⟨B, 0, none⟩), x2, .string l, .int .i64 i, x5, x6, x7, x8, x9, x10, x11, .string s, .int .i64 i, .int .i64 ((i : Int) + 1), .string l, .string s, .int .i64 i, .int .i64 ((i : Int) + 1), x19, x20, x21, x22, x23, x24], defers := [] } w.drew)
    refine wpAnyH_take (i := 7) (oi := SA) (v := .string r) rfl (by kernel_rfl) (by kernel_rfl) (by kernel_rfl) (fun c a w h => hQ c a _ _ w h) (.inl ⟨rfl, fun w' hw' => by unfold SA; go_simp⟩) trivial ?_
    refine (?_ : wpAnyH Tryz.prog .any DK _ _ (0 + 1) _ { tmps := #[x0, .pointer (some ⟨B, 0, none⟩), x2, .string l, .int .i64 i, x5, x6, x7, x8, x9, x10, x11, .string s, .int .i64 i, .int .i64 ((i : Int) + 1), .string l, .string s, .int .i64 i, .int .i64 ((i : Int) + 1), .string r, x20, x21, x22, x23, x24], defers := [] } w.drew)
    refine wpAnyH_all (rs := [9]) (by kernel_rfl) (by simp) fun j hj => ?_
    obtain rfl : j = 9 := by simpa using hj
    refine SD (o := SC) (w' := w.drew.setCell ⟨B, 0, none⟩ (.string r)) rfl rfl rfl (by unfold SC; go_simp) ⟨trivial, ?_⟩
    exact wpAnyH_done (by kernel_rfl) h _
  · refine Oo (o := R6) (v := .string s) (w' := w.drew) rfl rfl (by unfold R6; go_simp) ⟨trivial, ?_⟩
    refine (?_ : wpAnyH Tryz.prog .any DK _ _ (4 + 1) _ { tmps := #[x0, .pointer (some ⟨B, 0, none⟩), x2, x3, .int .i64 i, x5, x6, x7, x8, x9, x10, x11, x12, .int .i64 i, .int .i64 ((i : Int) + 1), x15, .string s, .int .i64 i, .int .i64 ((i : Int) + 1), x19, x20, x21, x22, x23, x24], defers := [] } w.drew)
    refine wpAnyH_take (i := 7) (oi := SA) (v := .string r) rfl (by kernel_rfl) (by kernel_rfl) (by kernel_rfl) (fun c a w h => hQ c a _ _ w h) (.inl ⟨rfl, fun w' hw' => by unfold SA; go_simp⟩) trivial ?_
    refine (?_ : wpAnyH Tryz.prog .any DK _ _ (3 + 1) _ { tmps := #[x0, .pointer (some ⟨B, 0, none⟩), x2, x3, .int .i64 i, x5, x6, x7, x8, x9, x10, x11, x12, .int .i64 i, .int .i64 ((i : Int) + 1), x15, .string s, .int .i64 i, .int .i64 ((i : Int) + 1), .string r, x20, x21, x22, x23, x24], defers := [] } w.drew)
    refine wpAnyH_all (rs := [0]) (by kernel_rfl) (by simp) fun j hj => ?_
    obtain rfl : j = 0 := by simpa using hj
    refine Oo (o := Rz) (v := .string s) (w' := w.drew) rfl rfl (by unfold Rz; go_simp) ⟨trivial, ?_⟩
    refine (?_ : wpAnyH Tryz.prog .any DK _ _ (2 + 1) _ { tmps := #[x0, .pointer (some ⟨B, 0, none⟩), x2, x3, .int .i64 i, x5, x6, x7, x8, x9, x10, x11, .string s, .int .i64 i, .int .i64 ((i : Int) + 1), x15, .string s, .int .i64 i, .int .i64 ((i : Int) + 1), .string r, x20, x21, x22, x23, x24], defers := [] } w.drew)
    refine wpAnyH_take (i := 3) (oi := R5) (v := .string l) rfl (by kernel_rfl) (by kernel_rfl) (by kernel_rfl) (fun c a w h => hQ c a _ _ w h) (.inl ⟨rfl, fun w' hw' => by unfold R5; go_simp⟩) trivial ?_
    refine (?_ : wpAnyH Tryz.prog .any DK _ _ (1 + 1) _ { tmps := #[x0, .pointer (some ⟨B, 0, none⟩), x2, x3, .int .i64 i, x5, x6, x7, x8, x9, x10, x11, .string s, .int .i64 i, .int .i64 ((i : Int) + 1), .string l, .string s, .int .i64 i, .int .i64 ((i : Int) + 1), .string r, x20, x21, x22, x23, x24], defers := [] } w.drew)
    refine wpAnyH_take (i := 8) (oi := SB) (v := .string l) rfl (by kernel_rfl) (by kernel_rfl) (by kernel_rfl) (fun c a w h => hQ c a _ _ w h) (.inl ⟨rfl, fun w' hw' => by unfold SB; go_simp⟩) trivial ?_
    refine (?_ : wpAnyH Tryz.prog .any DK _ _ (0 + 1) _ { tmps := #[x0, .pointer (some ⟨B, 0, none⟩), x2, .string l, .int .i64 i, x5, x6, x7, x8, x9, x10, x11, .string s, .int .i64 i, .int .i64 ((i : Int) + 1), .string l, .string s, .int .i64 i, .int .i64 ((i : Int) + 1), .string r, x20, x21, x22, x23, x24], defers := [] } w.drew)
    refine wpAnyH_all (rs := [9]) (by kernel_rfl) (by simp) fun j hj => ?_
    obtain rfl : j = 9 := by simpa using hj
    refine SD (o := SC) (w' := w.drew.setCell ⟨B, 0, none⟩ (.string r)) rfl rfl rfl (by unfold SC; go_simp) ⟨trivial, ?_⟩
    exact wpAnyH_done (by kernel_rfl) h _
structure SE (T Ln : Nat → ByteArray) (k : Nat) : Prop where
  pos : 0 < (T k).size
  sm : (T k).size ≤ 1000000
  ex : ∃ i : Nat, firstIdx (T k) 10 = (i : Int) ∧ i + 1 ≤ (T k).size ∧ (T k).extract 0 (i + 1) = Ln k ∧ (T k).extract (i + 1) (T k).size = T (k + 1)
  lt : (T (k + 1)).size < (T k).size
set_option maxRecDepth 100000 in
/-- strings.Lines over a text of N lines, each with its end -/
theorem Mc (n : Nat) (hn : 2 ≤ n) (B N : Nat) (w0 : World) (T Ln : Nat → ByteArray) (hT : ∀ k, k < N → SE T Ln k) (hN : (T N).size = 0) (hB : B < w0.heap.size) (hc : w0.cell? ⟨B, 0, none⟩ = some (.string (T 0))) (hf : w0.frozen? ⟨B, 0, none⟩ = false) :
    On Fence.wide n 85 B N ((List.range N).map Ln) w0 := by
  intro l J W hs hWB hW hJs hJo hY h0
  have hcB : W.cell? ⟨B, 0, none⟩ = some (.string (T 0)) := (World.cell?_of_block (w := w0) hWB).trans hc
  have hfB : W.frozen? ⟨B, 0, none⟩ = false := (World.frozen?_of_block (w := w0) hWB).trans hf
  have u9 := run_underlying Tryz.underlying9
  have hmix : Tryz.prog.follows .mixedOrders = true := by kernel_rfl
  have e86 : ∀ args w, (callFunc 86 args).run Tryz.prog w = .ok (.enter 86 args) w := enters_of Tryz.func86 (by kernel_rfl) rfl
  refine callsIn_of_wp Tryz.func85 rfl trivial ?_ rfl
  simp only [Tryz.ntmps85, List.size_toArray, List.length_cons, List.length_nil, Nat.reduceAdd, Nat.reduceSub, Array.replicate_succ, Array.replicate_zero, List.push_toArray, List.append_toArray, List.nil_append, List.cons_append]
  gi_wp2
  gi_loopw [3] (fun _ wr => ∃ k : Nat, k ≤ N ∧ J ((List.range k).map Ln) wr ∧ wr.cell? ⟨B, 0, none⟩ = some (.string (T k)) ∧ wr.frozen? ⟨B, 0, none⟩ = false ∧ B < wr.heap.size) (fun _ wr => ZN (wr.cell? ⟨B, 0, none⟩))
  case atStart => exact ⟨0, Nat.zero_le _, h0, hcB, hfB, by omega⟩
  case round =>
    obtain ⟨k, hk, hJ, hcw, hfw, hBw⟩ := hrel
    by_cases hlt : k < N
    · obtain ⟨hp, hsm, ⟨i, hi, hle, hx1, hx2⟩, hsz⟩ := hT k hlt
      gi_wp2_with (refine ⟨trivial, fun _ => by omega, ?_⟩; refine (Pn Fence.wide (n - 1) trivial trivial trivial rfl (by omega) (T k) wr).mono ?_; rintro e w1 ⟨rfl, hw1⟩; have hw2 := hw1.symm; subst hw2; rw [hi])
      have hwr : IntKind.i64.wrap ((i : Int) + 1) = (i : Int) + 1 := by simp [IntKind.wrap, IntKind.bits, IntKind.signed]; omega
      have hle1 : (0 : Int) ≤ (i : Int) + 1 := by omega
      have hle2 : (i : Int) + 1 ≤ ((T k).size : Int) := by omega
      refine wpIn_wide.2 (ZO ?_ _ B i (T k) (Ln k) (T (k + 1)) hcw hfw hwr hle1 hle2 hx1 hx2 _ _ _ _ _ _ _ _ _ _ _ _ _ _ _ _ _ _ _ _ _ _ _ ?_)
      · exact fun _ _ d _ _ h => by cases d <;> exact h
      have hg3 : wr.drew.grownBy (wr.drew.setCell ⟨B, 0, none⟩ (.string (T (k + 1)))) (some B) := grownBy_setCell0_a _ _ _
      have hg2 : wr.grownBy wr.drew (some B) := ⟨rfl, rfl, rfl, Nat.le_refl _, fun _ _ _ => rfl⟩
      have hJ3 := hJs _ _ _ _ (hJs _ _ _ _ hJ hg2 (fun r e => (Option.some.inj e).symm)) hg3 (fun r e => (Option.some.inj e).symm)
      have hsz3 : (wr.drew.setCell ⟨B, 0, none⟩ (.string (T (k + 1)))).heap.size = wr.heap.size := by simp
      have hc3 : (wr.drew.setCell ⟨B, 0, none⟩ (.string (T (k + 1)))).cell? ⟨B, 0, none⟩ = some (.string (T (k + 1))) := by go_simp
      have hf3 : (wr.drew.setCell ⟨B, 0, none⟩ (.string (T (k + 1)))).frozen? ⟨B, 0, none⟩ = false := by go_simp
      generalize (wr.drew.setCell ⟨B, 0, none⟩ (.string (T (k + 1)))) = w3 at *
      obtain ⟨fn, tmps, assign, body, hy, hR⟩ := hY _ (Ln k) w3 hJ3 (by simpa using hlt)
      gi_wp2
      refine ⟨fun _ => by omega, ?_⟩
      refine hR.mono ?_
      rintro e W3 ⟨rfl, hJ4, hk4, hs4⟩
      gi_wp2
      go_roundw
      case rel => exact ⟨k + 1, hlt, by rw [List.range_succ, List.map_append]; exact hJ4, (World.cell?_of_block (w := w3) hk4).trans hc3, (World.frozen?_of_block (w := w3) hk4).trans hf3, by omega⟩
      case measure => rw [World.cell?_of_block (w := w3) hk4, hc3, hcw]; exact hsz
    · obtain rfl : k = N := by omega
      gi_wp2
      go_end0
      exact ⟨⟨_, rfl⟩, hJ⟩
end Go.Ev

namespace Go.Ev
open Go Go.Vl Go.RowKit Go.Proofs
section
variable {w0 : Kp} {fr : List (Array Value)} {stk : List Env} {hp : Hp} {w : World} {p : Pm}
theorem BD.newAt (R : BD w0 fr stk hp w p) {nm : Nm} (hn : hp.get nm = none) {w' : World} {B : Nat} (hnk : ¬ w0.k B) (hnb : ∀ n, lvH hp n → p.b n ≠ B) (hs : w.heap.size ≤ w'.heap.size) (ho : w'.os = w.os) (ht : w'.tape = w.tape) (hu : w'.output = w.output) (hb : ∀ b, b < w.heap.size → b ≠ B → w'.heap[b]? = w.heap[b]?) (g c : Nat) (hg : w.heap.size ≤ g) {ob : Ob}
    (hob : ∀ (lv' : Nm → Prop) (p' : Pm), (∀ x v, RV (lvH hp) p x v → RV lv' p' x v) → p'.b nm = g → p'.c nm = c → KH lv' p' w' nm ob) : ∃ p', BD w0 fr stk (hp.set nm ob) w' p' ∧ p'.b nm = g ∧ p'.c nm = c ∧ lvH (hp.set nm ob) nm ∧ ∀ x v, RV (lvH hp) p x v → RV (lvH (hp.set nm ob)) p' x v := by
  have hne : ∀ n, lvH hp n → n ≠ nm := fun n h e => by subst e; unfold lvH at h; rw [hn] at h; cases h
  have hl : ∀ n, lvH hp n → lvH (hp.set nm ob) n ∧ upd p.b nm g n = p.b n ∧ upd p.c nm c n = p.c n := fun n h => ⟨BP.2 (.inr h), upd_ne _ _ (hne n h), upd_ne _ _ (hne n h)⟩
  have hm : ∀ x v, RV (lvH hp) p x v → RV (lvH (hp.set nm ob)) ⟨upd p.b nm g, upd p.c nm c⟩ x v := fun x v h => h.mono hl
  refine ⟨⟨upd p.b nm g, upd p.c nm c⟩, ?_, upd_same _ _ _, upd_same _ _ _, BP.2 (.inl rfl), hm⟩
  exact { size := Nat.le_trans R.size hs, os := ho.trans R.os, tape := ht.trans R.tape, output := hu.trans R.output, klt := R.klt
          old := fun b h => (hb b (Nat.lt_of_lt_of_le (R.klt b h) R.size) (fun e => hnk (e ▸ h))).trans (R.old b h)
          pin := fun q hq => by
            obtain ⟨h1, h2, l, h3⟩ := R.pin q hq
            have hq := hne _ (A6 h3)
            exact ⟨(upd_ne _ _ hq).trans h1, (upd_ne _ _ hq).trans h2, l, by rw [BM, if_neg hq]; exact h3⟩
          stk := by
            have := R.stk.turn (k := fun _ => false) (lv' := lvH (hp.set nm ob)) (p' := ⟨upd p.b nm g, upd p.c nm c⟩) (fun n h _ => hl n h)
            rwa [show Gh (fun _ => false) = id from funext OZ, List.map_id] at this
          ob := fun n o h => by
            rw [BM] at h
            split at h
            · rename_i e; subst e; cases h
              exact hob _ _ hm (upd_same _ _ _) (upd_same _ _ _)
            · rename_i e
              have := (R.ob n o h).turn (k := fun _ => false) (lv' := lvH (hp.set nm ob)) (p' := ⟨upd p.b nm g, upd p.c nm c⟩) (w' := w') (fun n hn _ => hl n hn) (upd_ne _ _ e) (upd_ne _ _ e) (hb _ (R.lt (A6 h)) (hnb n (A6 h)))
              rwa [Gm] at this
          base := fun n o h hro => by
            rw [BM] at h
            split at h
            · rename_i e; subst e
              simp only [upd_same]
              intro hk
              have := R.klt _ hk
              have := R.size
              omega
            · rename_i e
              simp only [upd_ne _ _ e]; exact R.base n o h hro
          inj := fun n m h1 h2 e => by
            rcases BP.1 h1 with e1 | h1
            · subst e1
              rcases BP.1 h2 with e2 | h2
              · exact absurd e2.symm e
              · simp only [upd_same, upd_ne _ _ (hne m h2)]
                have := R.lt h2; omega
            · rcases BP.1 h2 with e2 | h2
              · rw [e2]
                simp only [upd_same, upd_ne _ _ (hne n h1)]
                have := R.lt h1; omega
              · simp only [upd_ne _ _ (hne n h1), upd_ne _ _ (hne m h2)]
                exact R.inj n m h1 h2 e }
end
def tx (l : List Nat) : ByteArray := ⟨(l.map UInt8.ofNat).toArray⟩
theorem WR {b : ByteArray} {s : List Nat} (h : b.data.toList.map (·.toNat) = s) : b = tx s := by
  subst h
  obtain ⟨⟨l⟩⟩ := b
  simp [tx, Function.comp_def]
theorem SF {s : List Nat} (h : s.all (· < 256) = true) : (tx s).data.toList.map (·.toNat) = s := by
  simp only [tx, List.map_map]
  refine (List.map_congr_left fun x hx => ?_).trans (List.map_id s)
  have := List.all_eq_true.1 h x hx
  simp at this
  simp; omega
def S0 : List Nat := [112,101,114,115,111,110,32,97,110,110,10,97,108,108,111,119,32,51,32,97,110,110,32,48,10,112,117,116,32,53,32,55,32,48,10,115,105,110,99,101,32,55,32,97,110,110,10]
def L0 : List (List Nat) := [[112,101,114,115,111,110,32,97,110,110,10],[97,108,108,111,119,32,51,32,97,110,110,32,48,10],[112,117,116,32,53,32,55,32,48,10],[115,105,110,99,101,32,55,32,97,110,110,10]]
def lT (k : Nat) : ByteArray := tx ((L0.drop k).flatten)
def lL (k : Nat) : ByteArray := tx (L0.getD k [])
theorem Ym (k : Nat) (hk : k < 4) : SE lT lL k := by
  match k, hk with
  | 0, _ => exact ⟨by decide +kernel, by decide +kernel, ⟨10, by decide +kernel, by decide +kernel, by decide +kernel, by decide +kernel⟩, by decide +kernel⟩
  | 1, _ => exact ⟨by decide +kernel, by decide +kernel, ⟨13, by decide +kernel, by decide +kernel, by decide +kernel, by decide +kernel⟩, by decide +kernel⟩
  | 2, _ => exact ⟨by decide +kernel, by decide +kernel, ⟨9, by decide +kernel, by decide +kernel, by decide +kernel, by decide +kernel⟩, by decide +kernel⟩
  | 3, _ => exact ⟨by decide +kernel, by decide +kernel, ⟨11, by decide +kernel, by decide +kernel, by decide +kernel, by decide +kernel⟩, by decide +kernel⟩
section
variable {w0 : Kp} {fr : List (Array Value)} {stk : List Env} {hp : Hp} {w : World} {p : Pm}
def Np (nm b : Nm) (xs : List (List Nat)) (stk : List Env) (hp : Hp) : Rt := ⟨.sl nm 0 xs.length none, stk.map (Gh (Nat.beq b)), (By (Nat.beq b) hp).set nm (.cells (xs.map .str) 1 (some 9))⟩
theorem Md (R : BD w0 fr stk hp w p) {nm b : Nm} {o0 : Ob} (hb : hp.get b = some o0) (hro : o0.ro = false) (hn : hp.get nm = none) {xs : List (List Nat)} (hx : xs ≠ []) (hbyte : ∀ s ∈ xs, s.all (· < 256) = true) {w' : World} {v : Value}
    (hrow : w'.ownsRow w.heap.size 9 1 v xs.length ((xs.map tx).map Value.string)) (hbut : But (p.b b) w w') (hone : One v w') : FM w0 fr (Np nm b xs stk hp) (.returned v) w' := by
  have Rk := R.kill (Nat.beq b) (Of hb hro)
  have hnk : (By (Nat.beq b) hp).get nm = none := by
    rw [C8, hn]; split <;> rfl
  rcases hrow.2 with ⟨_, h0⟩ | ⟨g, cap, cur, rfl, hbg, hgb, hnc, hcm, hcs, htake⟩
  · exact absurd (List.eq_nil_of_length_eq_zero h0) hx
  have hbeq : ∀ n, Nat.beq b n = false → n ≠ b := fun n h e => by subst e; simp at h
  obtain ⟨p', R', e1, e2, hlv, _⟩ := Rk.newAt hnk (B := p.b b) (w' := w') (R.base b o0 hb hro) (fun n hn => by
      obtain ⟨h1, h2⟩ := Ci.1 hn
      exact R.inj n b h2 (A6 hb) (hbeq n h1)) hbut.size hbut.os hbut.tape hbut.output hbut.block g cap hbg (ob := .cells (xs.map .str) 1 (some 9)) (fun lv' p' _ e1 e2 => by
    have hlen : xs.length ≤ cur.size := by rw [hcs]; omega
    refine ⟨cur, 9, by rw [e1]; exact hgb, by simpa using hlen, fun i c u hc hu => ?_, fun i u hu => hone g cur 9 _ rfl hgb i u hu, fun e he => by cases he; exact ⟨rfl, by rw [e2, hcs]⟩⟩
    rw [List.getElem?_map] at hc
    obtain ⟨s, hs, rfl⟩ := Option.map_eq_some_iff.1 hc
    have hi : i < xs.length := (List.getElem?_eq_some_iff.1 hs).1
    have h2 : (cur.toList.take (xs.length * 1))[i]? = some u := by
      rw [List.getElem?_take, if_pos (by omega)]; simpa using hu
    rw [htake, List.getElem?_map, List.getElem?_map, hs] at h2
    cases h2
    exact .str (SF (hbyte s (List.mem_of_getElem? hs))))
  refine ⟨.slice (some ⟨g, 0, none⟩) xs.length cap, p', rfl, R', ?_⟩
  rw [← e1]
  exact .sl hlv hnc (fun k h => by cases h) (fun _ _ => e2.symm)
theorem cell_of {w : World} {B : Nat} {vs : Array Value} {ty : TypeId} {fz : Nat × Nat} {v : Value} (h : w.heap[B]? = some (.cells vs ty fz)) (hv : vs[0]? = some v) : w.cell? ⟨B, 0, none⟩ = some v := by simp [World.cell?, h, hv]
theorem V3 {w : World} {B : Nat} {vs : Array Value} {ty : TypeId} (h : w.heap[B]? = some (.cells vs ty (0, 0))) : w.frozen? ⟨B, 0, none⟩ = false := by simp [World.frozen?, h]
end
theorem Oq (args : Array Value) (w : World) : (callFunc 52 args).run Tryz.prog w = .ok (.enter 52 args) w := enters_of Tryz.func52 (by kernel_rfl) rfl args w
theorem V4 (args : Array Value) (w : World) : (callFunc 85 args).run Tryz.prog w = .ok (.enter 85 args) w := enters_of Tryz.func85 (by kernel_rfl) rfl args w
theorem SG (args : Array Value) (w : World) : (callFunc 138 args).run Tryz.prog w = .ok (.enter 138 args) w := enters_of Tryz.func138 (by kernel_rfl) rfl args w
def SH : Ak := fun f args nm stk hp => match Nat.beq f 52, args with
  | true, [.fn g [.ptr b 0]] => match Nat.beq g 85, hp.get nm, hp.get b with
    | true, none, some (.cells [.str s] _ _) => if s = S0 then some (Np nm b L0 stk hp) else none
    | _, _, _ => none
  | _, _ => none
def SI : Ak := fun f args nm stk hp => match Nat.beq f 52, args with
  | true, [.fn g [.ptr b 0]] => match Nat.beq g 138, hp.get nm, hp.get b with
    | true, none, some (.cells [.sl n 0 1 _] _ _) => match hp.get n with
      | some (.cells (.str s :: _) _ _) => if s.all (· < 256) = true then some (Np nm b [s] stk hp) else none
      | _ => none
    | _, _, _ => none
  | _, _ => none
theorem Ot {lv : Nm → Prop} {p : Pm} {g b : Nat} {av : Array Value} (h : LR lv p [.fn g [.ptr b 0]] av) : av = #[.func (.func g) #[] #[.pointer (some ⟨p.b b, 0, none⟩)]] := by
  obtain ⟨h1, h2⟩ := h
  obtain ⟨v, rfl⟩ : ∃ v, av = #[v] := by
    obtain ⟨l⟩ := av
    match l, h1 with
    | [v], _ => exact ⟨v, rfl⟩
  have hv := h2 0 _ v rfl rfl
  generalize hx : CV.fn g [.ptr b 0] = x at hv
  cases hv with
  | fn hl hc =>
    cases hx
    rename_i cs
    obtain ⟨u, rfl⟩ : ∃ u, cs = #[u] := by
      obtain ⟨l⟩ := cs
      match l, hl with
      | [u], _ => exact ⟨u, rfl⟩
    have hu := hc 0 _ u rfl rfl
    cases hu
    rfl
  | _ => cases hx
theorem SJ : BH Tryz.prog SH := fun w0 fr f args pth stk hp r vs w p h R ha => by
  unfold SH at h
  split at h
  case h_2 => cases h
  rename_i g b hf
  have e := Nat.eq_of_beq_eq_true hf
  subst e
  split at h
  case h_2 => cases h
  rename_i s z m hg hnn hob
  have e := Nat.eq_of_beq_eq_true hg
  subst e
  split at h
  case isFalse => cases h
  rename_i hs
  cases h
  have := Ot ha
  subst this
  obtain ⟨vs, ty, g1, g2, g3, g4, g5⟩ := R.ob b _ hob
  have h0 : 0 < vs.size := g2
  have hv0 := g3 0 _ vs[0] rfl (by simp)
  generalize hq : vs[0] = u at hv0
  cases hv0 with | str hb =>
  rename_i bb
  have hbb := WR hb
  subst hbb
  subst hs
  have hc : w.cell? ⟨p.b b, 0, none⟩ = some (.string (lT 0)) := (cell_of g1 (v := .string (tx S0)) (by rw [← hq]; simp)).trans (congrArg (fun b => some (Value.string b)) (by decide +kernel : tx S0 = lT 0))
  refine .inl ⟨Oq _ w, ?_⟩
  have hB := R.lt (A6 hob)
  have hgv := Mc 7 (by omega) (p.b b) 4 w lT lL Ym (by decide +kernel) hB hc (V3 g1)
  refine (callsIn_wide.1 (collect_in Fence.wide 9 trivial trivial rfl (by omega) 85 (p.b b) trivial V4 _ 4 (by decide) (by decide) w hB hgv)).mono ?_
  rintro e w' ⟨v, rfl, hrow, hbut, hone⟩
  exact Md R hob rfl hnn (xs := L0) (by decide) (by decide) (by simpa [List.range, List.range.loop, L0, lL] using hrow) hbut hone
theorem SK : BH Tryz.prog SI := fun w0 fr f args pth stk hp r vs w p h R ha => by
  unfold SI at h
  split at h
  case h_2 => cases h
  rename_i g b hf
  have e := Nat.eq_of_beq_eq_true hf
  subst e
  split at h
  case h_2 => cases h
  rename_i n cc z m hg hnn hob
  have e := Nat.eq_of_beq_eq_true hg
  subst e
  split at h
  case h_2 => cases h
  rename_i s l z' m' hon
  split at h
  case isFalse => cases h
  rename_i hs
  cases h
  have := Ot ha
  subst this
  obtain ⟨vs, ty, g1, g2, g3, g4, g5⟩ := R.ob b _ hob
  have h0 : 0 < vs.size := g2
  have hv0 := g3 0 _ vs[0] rfl (by simp)
  generalize hq : vs[0] = u at hv0
  cases hv0 with | sl hn hl k1 k2 =>
  rename_i cap
  obtain ⟨us, ty', q1, q2, q3, q4, q5⟩ := R.ob n _ hon
  have h0' : 0 < us.size := by have : (CV.str s :: l).length ≤ us.size := q2; simp at this; omega
  have hu0 := q3 0 _ us[0] rfl (by simp)
  generalize hq' : us[0] = u at hu0
  cases hu0 with | str hb =>
  rename_i bb
  have hbb := WR hb
  subst hbb
  refine .inl ⟨Oq _ w, ?_⟩
  have hB := R.lt (A6 hob)
  have hgv := LX Fence.wide 7 trivial rfl (by omega) (p.b b) (p.b n) w (tx s) cap hB (R.lt hn) (cell_of g1 (by rw [← hq]; simp)) (cell_of q1 (by rw [← hq']; simp))
  refine (callsIn_wide.1 (collect_in Fence.wide 9 trivial trivial rfl (by omega) 138 (p.b b) trivial SG _ 2 (by decide) (by decide) w hB hgv)).mono ?_
  rintro e w' ⟨v, rfl, hrow, hbut, hone⟩
  exact Md R hob rfl hnn (xs := [s]) (by simp) (by simpa using hs) (by simpa using hrow) hbut hone
end Go.Ev
