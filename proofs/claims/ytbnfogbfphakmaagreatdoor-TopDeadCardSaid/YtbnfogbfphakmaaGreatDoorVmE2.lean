/- A run of given code on given data: how the evaluator's state lies in the model's. Conditions: none. -/
import Derived.Test.YtbnfogbfphakmaaGreatDoorVmE1
import Derived.Test.YtbnfogbfphakmaaGreatDoorVmMb
set_option linter.unusedSimpArgs false
set_option linter.unusedVariables false
namespace Go.Ev
open Go Go.Vl Go.RowKit
structure Pm where
  b : Nm → Nat
  c : Nm → Nat
inductive RV (lv : Nm → Prop) (p : Pm) : CV → Value → Prop
  | un {v : Value} : RV lv p .un v
  | int {k : IntKind} {n : Int} : RV lv p (.int k n) (.int k n)
  | bool {b : Bool} : RV lv p (.bool b) (.bool b)
  | str {b : ByteArray} {s : List Nat} (h : b.data.toList.map (·.toNat) = s) : RV lv p (.str s) (.string b)
  | nilp : RV lv p .nilp (.pointer none)
  | nils : RV lv p .nils (.slice none 0 0)
  | nilf : RV lv p .nilf .nilFunc
  | nili : RV lv p .nili .nilIface
  | ptr {n o : Nat} (hn : lv n) : RV lv p (.ptr n o) (.pointer (some ⟨p.b n, o, none⟩))
  | sl {n o l cap : Nat} {c : Option Nat} (hn : lv n) (hl : l ≤ cap) (h1 : ∀ k, c = some k → cap = k) (h2 : c = none → o = 0 → cap = p.c n) : RV lv p (.sl n o l c) (.slice (some ⟨p.b n, o, none⟩) l cap)
  | fn {f : FuncId} {l : List CV} {cs : Array Value} (hl : cs.size = l.length) (h : ∀ (i : Nat) (a : CV) (v : Value), l[i]? = some a → cs[i]? = some v → RV lv p a v) : RV lv p (.fn f l) (.func (.func f) #[] cs)
  | agg {l : List CV} {cs : Array Value} (hl : cs.size = l.length) (h : ∀ (i : Nat) (a : CV) (v : Value), l[i]? = some a → cs[i]? = some v → RV lv p a v)
      (h1 : ∀ (i : Nat) (v : Value), cs[i]? = some v → v.oneCell' = true) : RV lv p (.agg l) (.agg cs)
  | tup {l : List CV} {cs : Array Value} (hl : cs.size = l.length) (h : ∀ (i : Nat) (a : CV) (v : Value), l[i]? = some a → cs[i]? = some v → RV lv p a v) : RV lv p (.tup l) (.tuple cs)

theorem Gl {k : Nm → Bool} : ∀ {l : List CV}, CV.hasL k l = false → ∀ {i : Nat} {x : CV}, l[i]? = some x → x.has k = false
  | [], _, i, x, h => by simp at h
  | y :: l, hl, i, x, h => by
    simp only [CV.hasL] at hl
    cases hy : y.has k with
    | true => rw [hy] at hl; cases hl
    | false =>
      rw [hy] at hl
      cases i with
      | zero => simp at h; subst h; exact hy
      | succ i => exact Gl hl (by simpa using h)
theorem RV.turn {lv lv' : Nm → Prop} {p p' : Pm} {k : Nm → Bool} (h : ∀ n, lv n → k n = false → lv' n ∧ p'.b n = p.b n ∧ p'.c n = p.c n) {x : CV} {v : Value} (hx : RV lv p x v) (hk : x.has k = false) : RV lv' p' x v := by
  induction hx with
  | un => exact .un
  | int => exact .int
  | bool => exact .bool
  | str h => exact .str h
  | nilp => exact .nilp
  | nils => exact .nils
  | nilf => exact .nilf
  | nili => exact .nili
  | ptr hn => obtain ⟨h1, h2, _⟩ := h _ hn (by simpa [CV.has] using hk); rw [← h2]; exact .ptr h1
  | sl hn hl g1 g2 => obtain ⟨h1, h2, h3⟩ := h _ hn (by simpa [CV.has] using hk); rw [← h2]; exact .sl h1 hl g1 (fun e e' => by rw [h3]; exact g2 e e')
  | fn hl _ ih => exact .fn hl fun i a v ha hv => ih i a v ha hv (Gl (by simpa [CV.has] using hk) ha)
  | agg hl _ h1 ih => exact .agg hl (fun i a v ha hv => ih i a v ha hv (Gl (by simpa [CV.has] using hk) ha)) h1
  | tup hl _ ih => exact .tup hl fun i a v ha hv => ih i a v ha hv (Gl (by simpa [CV.has] using hk) ha)
mutual
theorem NU : ∀ x : CV, x.has (fun _ => false) = false
  | .ptr _ _ => by simp [CV.has]
  | .sl _ _ _ _ => by simp [CV.has]
  | .fn _ l => by simp only [CV.has]; exact IX l
  | .agg l => by simp only [CV.has]; exact IX l
  | .tup l => by simp only [CV.has]; exact IX l
  | .un => rfl
  | .int _ _ => rfl
  | .bool _ => rfl
  | .str _ => rfl
  | .nilp => rfl
  | .nils => rfl
  | .nilf => rfl
  | .nili => rfl
theorem IX : ∀ l : List CV, CV.hasL (fun _ => false) l = false
  | [] => rfl
  | x :: l => by simp only [CV.hasL, NU x]; exact IX l
end
theorem RV.mono {lv lv' : Nm → Prop} {p p' : Pm} (h : ∀ n, lv n → lv' n ∧ p'.b n = p.b n ∧ p'.c n = p.c n) {x : CV} {v : Value} (hx : RV lv p x v) : RV lv' p' x v :=
  hx.turn (k := fun _ => false) (fun n hn _ => h n hn) (NU x)
theorem NV (x : CV) : scr (fun _ => false) x = x := by unfold scr; rw [NU]
theorem RV.scr {lv lv' : Nm → Prop} {p p' : Pm} {k : Nm → Bool} (h : ∀ n, lv n → k n = false → lv' n ∧ p'.b n = p.b n ∧ p'.c n = p.c n) {x : CV} {v : Value} (hx : RV lv p x v) : RV lv' p' (scr k x) v := by
  unfold Go.Ev.scr
  cases hk : x.has k with
  | true => exact .un
  | false => exact hx.turn h hk

theorem OY {n m : Nm} {o : Ob} : ∀ {l : List (Nm × Ob)}, lk (Q2 n o l) m = if m = n then some o else lk l m
  | [] => by
    simp only [Q2, lk]
    by_cases e : m = n
    · subst e; simp
    · rw [if_neg e]; cases h : Nat.beq n m with
      | true => exact absurd (Nat.eq_of_beq_eq_true h).symm e
      | false => rfl
  | (k, q) :: l => by
    simp only [Q2]
    cases h : Nat.beq k n with
    | true =>
      have e := Nat.eq_of_beq_eq_true h
      subst e
      simp only [lk]
      cases h' : Nat.beq k m with
      | true => have e := Nat.eq_of_beq_eq_true h'; subst e; simp
      | false =>
        have e : m ≠ k := fun e => by subst e; simp at h'
        rw [if_neg e]
    | false =>
      simp only [lk]
      cases h' : Nat.beq k m with
      | true =>
        have e := Nat.eq_of_beq_eq_true h'
        subst e
        have e : k ≠ n := fun e => by subst e; simp at h
        simp [e]
      | false => exact OY
theorem HR {n m : Nm} {o : Ob} (hm : m = n → True) : ∀ {x : Hp} {h h' : Nat}, (m = n → h' = h) → (x.set1 o n h).get1 h' m = if m = n then some o else x.get1 h' m
  | .leaf l, h, h', _ => by simp only [Hp.set1, Hp.get1]; exact OY
  | .node a b, h, h', hh => by
    simp only [Hp.set1]
    cases hc : Nat.beq (h % 2) 0 with
    | true =>
      simp only [Hp.get1]
      cases hc' : Nat.beq (h' % 2) 0 with
      | true => exact HR hm (fun e => by rw [hh e])
      | false =>
        have e : m ≠ n := fun e => by rw [hh e, hc] at hc'; cases hc'
        simp [e]
    | false =>
      simp only [Hp.get1]
      cases hc' : Nat.beq (h' % 2) 0 with
      | false => exact HR hm (fun e => by rw [hh e])
      | true =>
        have e : m ≠ n := fun e => by rw [hh e, hc] at hc'; cases hc'
        simp [e]
theorem BM (x : Hp) (n : Nm) (o : Ob) (m : Nm) : (x.set n o).get m = if m = n then some o else x.get m :=
  HR (fun _ => trivial) (fun e => by rw [e])
theorem JR {k : Nm → Bool} {n : Nm} : ∀ {l : List (Nm × Ob)}, lk (Kd k l) n = if k n = true then none else (lk l n).map (Ew k)
  | [] => by simp [Kd, lk]
  | (m, o) :: l => by
    simp only [Kd]
    cases hm : k m with
    | true =>
      simp only [lk]
      rw [JR]
      cases h : Nat.beq m n with
      | true => have e := Nat.eq_of_beq_eq_true h; subst e; simp [hm]
      | false => rfl
    | false =>
      simp only [lk]
      cases h : Nat.beq m n with
      | true => have e := Nat.eq_of_beq_eq_true h; subst e; simp [hm]
      | false => exact JR
theorem HS {k : Nm → Bool} {n : Nm} : ∀ {x : Hp} {h : Nat}, (By k x).get1 h n = if k n = true then none else (x.get1 h n).map (Ew k)
  | .leaf l, h => by simp only [By, Hp.get1]; exact JR
  | .node a b, h => by
    simp only [By, Hp.get1]
    cases Nat.beq (h % 2) 0 with
    | true => exact HS
    | false => exact HS
theorem C8 (k : Nm → Bool) (x : Hp) (n : Nm) : (By k x).get n = if k n = true then none else (x.get n).map (Ew k) := HS
def lvH (h : Hp) (n : Nm) : Prop := (h.get n).isSome = true
theorem BP {h : Hp} {n : Nm} {o : Ob} {m : Nm} : lvH (h.set n o) m ↔ m = n ∨ lvH h m := by
  unfold lvH
  rw [BM]
  by_cases e : m = n
  · simp [e]
  · simp [e]
theorem Ci {h : Hp} {k : Nm → Bool} {m : Nm} : lvH (By k h) m ↔ k m = false ∧ lvH h m := by
  unfold lvH
  rw [C8]
  cases k m <;> simp
theorem A6 {h : Hp} {n : Nm} {o : Ob} (e : h.get n = some o) : lvH h n := by unfold lvH; rw [e]; rfl

def KH (lv : Nm → Prop) (p : Pm) (w : World) (n : Nm) : Ob → Prop
  | .cells l z m => ∃ (vs : Array Value) (ty : TypeId), w.heap[p.b n]? = some (.cells vs ty (0, 0)) ∧ l.length ≤ vs.size ∧ (∀ (i : Nat) (c : CV) (v : Value), l[i]? = some c → vs[i]? = some v → RV lv p c v) ∧ (∀ (i : Nat) (v : Value), vs[i]? = some v → v.oneCell' = true) ∧ (∀ e, m = some e → ty = e ∧ vs.size = p.c n * z)
  | .siter s pos => ∃ b : ByteArray, b.data.toList.map (·.toNat) = s ∧ w.heap[p.b n]? = some (.stringIter b pos)
  | .rd l => ∃ (vs : Array Value) (ty : TypeId) (fz : Nat × Nat), w.heap[p.b n]? = some (.cells vs ty fz) ∧ l.length ≤ vs.size ∧ (∀ (i : Nat) (c : CV) (v : Value), l[i]? = some c → vs[i]? = some v → RV lv p c v) ∧ (∀ (i : Nat) (v : Value), vs[i]? = some v → v.oneCell' = true)
theorem KH.lt {lv : Nm → Prop} {p : Pm} {w : World} {n : Nm} {o : Ob} (h : KH lv p w n o) : p.b n < w.heap.size := by
  cases o with
  | cells l z m => obtain ⟨vs, ty, h, _⟩ := h; exact (Array.getElem?_eq_some_iff.1 h).1
  | siter s pos => obtain ⟨b, _, h⟩ := h; exact (Array.getElem?_eq_some_iff.1 h).1
  | rd l => obtain ⟨vs, ty, fz, h, _⟩ := h; exact (Array.getElem?_eq_some_iff.1 h).1
theorem KH.turn {lv lv' : Nm → Prop} {p p' : Pm} {k : Nm → Bool} (h : ∀ n, lv n → k n = false → lv' n ∧ p'.b n = p.b n ∧ p'.c n = p.c n) {w w' : World} {n : Nm} {o : Ob} (hn : p'.b n = p.b n) (hcc : p'.c n = p.c n) (hw : w'.heap[p.b n]? = w.heap[p.b n]?) (ho : KH lv p w n o) : KH lv' p' w' n (Ew k o) := by
  cases o with
  | cells l z m =>
    obtain ⟨vs, ty, h1, h2, h3, h4, h5⟩ := ho
    refine ⟨vs, ty, by rw [hn, hw]; exact h1, by simpa using h2, fun i c v hc hv => ?_, h4, fun e he => by rw [hcc]; exact h5 e he⟩
    rw [List.getElem?_map] at hc
    cases hq : l[i]? with
    | none => rw [hq] at hc; cases hc
    | some q => rw [hq] at hc; cases hc; exact (h3 i q v hq hv).scr h
  | siter s pos =>
    obtain ⟨b, h1, h2⟩ := ho
    exact ⟨b, h1, by rw [hn, hw]; exact h2⟩
  | rd l =>
    obtain ⟨vs, ty, fz, h1, h2, h3, h4⟩ := ho
    refine ⟨vs, ty, fz, by rw [hn, hw]; exact h1, by simpa using h2, fun i c v hc hv => ?_, h4⟩
    rw [List.getElem?_map] at hc
    cases hq : l[i]? with
    | none => rw [hq] at hc; cases hc
    | some q => rw [hq] at hc; cases hc; exact (h3 i q v hq hv).scr h
theorem Gm (o : Ob) : Ew (fun _ => false) o = o := by
  cases o with
  | cells l z m => simp only [Ew]; congr 1; rw [show scr (fun _ => false) = id from funext NV]; simp
  | siter s pos => rfl
  | rd l => simp only [Ew]; congr 1; rw [show scr (fun _ => false) = id from funext NV]; simp
theorem OZ (e : Env) : Gh (fun _ => false) e = e := by
  unfold Gh
  rw [show (fun q : Nat × CV => (q.1, scr (fun _ => false) q.2)) = id from funext fun q => by rw [NV]; rfl]
  simp
theorem Oa {k : Nm → Bool} {t : Nat} : ∀ {e : Env}, lk (Gh k e) t = (lk e t).map (scr k)
  | [] => rfl
  | (u, x) :: e => by
    simp only [Gh, List.map_cons, lk]
    cases Nat.beq u t with
    | true => rfl
    | false => exact Oa
def Hz (lv : Nm → Prop) (p : Pm) (e : Env) (tm : Array Value) : Prop := ∀ t x, lk e t = some x → RV lv p x (tm.getD t undef)
inductive JS (lv : Nm → Prop) (p : Pm) : List Env → List (Array Value) → Prop
  | nil : JS lv p [] []
  | cons {e : Env} {tm : Array Value} {l : List Env} {fr : List (Array Value)} (h : Hz lv p e tm) (hl : JS lv p l fr) : JS lv p (e :: l) (tm :: fr)
theorem JS.turn {lv lv' : Nm → Prop} {p p' : Pm} {k : Nm → Bool} (h : ∀ n, lv n → k n = false → lv' n ∧ p'.b n = p.b n ∧ p'.c n = p.c n) : ∀ {l : List Env} {fr : List (Array Value)}, JS lv p l fr → JS lv' p' (l.map (Gh k)) fr
  | _, _, .nil => .nil
  | _, _, .cons he hl => .cons (fun t x hx => by
      rw [Oa] at hx
      obtain ⟨y, hy, rfl⟩ := Option.map_eq_some_iff.1 hx
      exact (he t y hy).scr h) (JS.turn h hl)
structure Kp where
  w : World
  k : Nat → Prop
  pin : List (Nm × Nat × Nat)
structure BD (w0 : Kp) (fr : List (Array Value)) (stk : List Env) (hp : Hp) (w : World) (p : Pm) : Prop where
  size : w0.w.heap.size ≤ w.heap.size
  os : w.os = w0.w.os
  tape : w.tape = w0.w.tape
  output : w.output = w0.w.output
  klt : ∀ b, w0.k b → b < w0.w.heap.size
  old : ∀ b, w0.k b → w.heap[b]? = w0.w.heap[b]?
  pin : ∀ q ∈ w0.pin, p.b q.1 = q.2.1 ∧ p.c q.1 = q.2.2 ∧ ∃ l, hp.get q.1 = some (.rd l)
  stk : JS (lvH hp) p stk fr
  ob : ∀ n o, hp.get n = some o → KH (lvH hp) p w n o
  base : ∀ n o, hp.get n = some o → o.ro = false → ¬ w0.k (p.b n)
  inj : ∀ n m, lvH hp n → lvH hp m → n ≠ m → p.b n ≠ p.b m
theorem BD.lt {w0 : Kp} {fr : List (Array Value)} {stk : List Env} {hp : Hp} {w : World} {p : Pm} (R : BD w0 fr stk hp w p) {n : Nm} (h : lvH hp n) : p.b n < w.heap.size := by
  obtain ⟨o, ho⟩ := Option.isSome_iff_exists.1 h
  exact (R.ob n o ho).lt
section
variable {w0 : Kp} {fr : List (Array Value)} {stk : List Env} {hp : Hp} {w : World} {p : Pm}
theorem Oc (k : Nm → Bool) (o : Ob) : (Ew k o).ro = o.ro := by cases o <;> rfl
theorem BD.kill (R : BD w0 fr stk hp w p) (k : Nm → Bool) (hk : ∀ n l, hp.get n = some (.rd l) → k n = false) : BD w0 fr (stk.map (Gh k)) (By k hp) w p := by
  have hl : ∀ n, lvH hp n → k n = false → lvH (By k hp) n ∧ p.b n = p.b n ∧ p.c n = p.c n := fun n h1 h2 => ⟨Ci.2 ⟨h2, h1⟩, rfl, rfl⟩
  exact { size := R.size, os := R.os, tape := R.tape, output := R.output, klt := R.klt, old := R.old
          pin := fun q hq => by
            obtain ⟨h1, h2, l, h3⟩ := R.pin q hq
            exact ⟨h1, h2, l.map (scr k), by rw [C8, hk _ _ h3, h3]; rfl⟩
          stk := R.stk.turn hl
          ob := fun n o h => by
            rw [C8] at h
            split at h
            · cases h
            · obtain ⟨q, hq, rfl⟩ := Option.map_eq_some_iff.1 h
              exact (R.ob n q hq).turn hl rfl rfl rfl
          base := fun n o h ho => by
            rw [C8] at h
            split at h
            · cases h
            · obtain ⟨q, hq, rfl⟩ := Option.map_eq_some_iff.1 h
              exact R.base n q hq (by rw [← Oc k]; exact ho)
          inj := fun n m hn hm => R.inj n m (Ci.1 hn).2 (Ci.1 hm).2 }
theorem BD.world (R : BD w0 fr stk hp w p) {w' : World} (hs : w.heap.size ≤ w'.heap.size) (ho : w'.os = w.os) (ht : w'.tape = w.tape) (hu : w'.output = w.output) (hb : ∀ b, b < w.heap.size → w'.heap[b]? = w.heap[b]?) : BD w0 fr stk hp w' p :=
  { size := Nat.le_trans R.size hs, os := ho.trans R.os, tape := ht.trans R.tape, output := hu.trans R.output
    klt := R.klt
    old := fun b h => (hb b (Nat.lt_of_lt_of_le (R.klt b h) R.size)).trans (R.old b h)
    pin := R.pin
    stk := R.stk
    ob := fun n o h => by
      have := (R.ob n o h).turn (k := fun _ => false) (lv' := lvH hp) (p' := p) (w' := w') (fun n hn _ => ⟨hn, rfl, rfl⟩) rfl rfl (hb _ (R.lt (A6 h)))
      rwa [Gm] at this
    base := R.base, inj := R.inj }
theorem BD.new (R : BD w0 fr stk hp w p) {nm : Nm} (hn : hp.get nm = none) {w' : World} (hs : w.heap.size < w'.heap.size) (ho : w'.os = w.os) (ht : w'.tape = w.tape) (hu : w'.output = w.output) (hb : ∀ b, b < w.heap.size → w'.heap[b]? = w.heap[b]?) (c : Nat) {ob : Ob}
    (hob : ∀ (lv' : Nm → Prop) (p' : Pm), (∀ x v, RV (lvH hp) p x v → RV lv' p' x v) → p'.b nm = w.heap.size → p'.c nm = c → KH lv' p' w' nm ob) : ∃ p', BD w0 fr stk (hp.set nm ob) w' p' ∧ p'.b nm = w.heap.size ∧ p'.c nm = c ∧ lvH (hp.set nm ob) nm ∧ ∀ x v, RV (lvH hp) p x v → RV (lvH (hp.set nm ob)) p' x v := by
  have hne : ∀ n, lvH hp n → n ≠ nm := fun n h e => by subst e; unfold lvH at h; rw [hn] at h; cases h
  have hl : ∀ n, lvH hp n → lvH (hp.set nm ob) n ∧ upd p.b nm w.heap.size n = p.b n ∧ upd p.c nm c n = p.c n := fun n h => ⟨BP.2 (.inr h), upd_ne _ _ (hne n h), upd_ne _ _ (hne n h)⟩
  have hm : ∀ x v, RV (lvH hp) p x v → RV (lvH (hp.set nm ob)) ⟨upd p.b nm w.heap.size, upd p.c nm c⟩ x v := fun x v h => h.mono hl
  have R1 := R.world (Nat.le_of_lt hs) ho ht hu hb
  refine ⟨⟨upd p.b nm w.heap.size, upd p.c nm c⟩, ?_, upd_same _ _ _, upd_same _ _ _, BP.2 (.inl rfl), hm⟩
  exact { size := R1.size, os := R1.os, tape := R1.tape, output := R1.output, klt := R1.klt, old := R1.old
          pin := fun q hq => by
            obtain ⟨h1, h2, l, h3⟩ := R.pin q hq
            have hq := hne _ (A6 h3)
            exact ⟨(upd_ne _ _ hq).trans h1, (upd_ne _ _ hq).trans h2, l, by rw [BM, if_neg hq]; exact h3⟩
          stk := by
            have := R.stk.turn (k := fun _ => false) (lv' := lvH (hp.set nm ob)) (p' := ⟨upd p.b nm w.heap.size, upd p.c nm c⟩) (fun n h _ => hl n h)
            rwa [show Gh (fun _ => false) = id from funext OZ, List.map_id] at this
          ob := fun n o h => by
            rw [BM] at h
            split at h
            · rename_i e; subst e; cases h
              exact hob _ _ hm (upd_same _ _ _) (upd_same _ _ _)
            · rename_i e
              have := (R1.ob n o h).turn (k := fun _ => false) (lv' := lvH (hp.set nm ob)) (p' := ⟨upd p.b nm w.heap.size, upd p.c nm c⟩) (w' := w') (fun n hn _ => hl n hn) (upd_ne _ _ e) (upd_ne _ _ e) rfl
              rwa [Gm] at this
          base := fun n o h hro => by
            rw [BM] at h
            split at h
            · rename_i e; subst e
              simp only [upd_same]
              intro hk
              have := R.klt _ hk
              have := R.size
              omega
            · rename_i e
              simp only [upd_ne _ _ e]; exact R.base n o h hro
          inj := fun n m h1 h2 e => by
            rcases BP.1 h1 with e1 | h1
            · subst e1
              rcases BP.1 h2 with e2 | h2
              · exact absurd e2.symm e
              · simp only [upd_same, upd_ne _ _ (hne m h2)]
                have := R.lt h2; omega
            · rcases BP.1 h2 with e2 | h2
              · rw [e2]
                simp only [upd_same, upd_ne _ _ (hne n h1)]
                have := R.lt h1; omega
              · simp only [upd_ne _ _ (hne n h1), upd_ne _ _ (hne m h2)]
                exact R.inj n m h1 h2 e }
theorem BD.setO (R : BD w0 fr stk hp w p) {n : Nm} {o0 ob : Ob} (hn : hp.get n = some o0) (hro : o0.ro = false) {w' : World} (hs : w'.heap.size = w.heap.size) (ho : w'.os = w.os) (ht : w'.tape = w.tape) (hu : w'.output = w.output) (hb : ∀ b, b ≠ p.b n → w'.heap[b]? = w.heap[b]?)
    (hob : KH (lvH hp) p w' n ob) : BD w0 fr stk (hp.set n ob) w' p := by
  have hl : ∀ m, lvH hp m ↔ lvH (hp.set n ob) m := fun m => ⟨fun h => BP.2 (.inr h), fun h => (BP.1 h).elim (fun e => by rw [e]; exact A6 hn) id⟩
  have hq : lvH (hp.set n ob) = lvH hp := funext fun m => propext (hl m).symm
  exact { size := by rw [hs]; exact R.size, os := ho.trans R.os, tape := ht.trans R.tape, output := hu.trans R.output
          klt := R.klt
          old := fun b h => (hb b (fun e => R.base n o0 hn hro (e ▸ h))).trans (R.old b h)
          pin := fun q hq => by
            obtain ⟨h1, h2, l, h3⟩ := R.pin q hq
            have hne : q.1 ≠ n := fun e => by rw [e, hn] at h3; cases h3; cases hro
            exact ⟨h1, h2, l, by rw [BM, if_neg hne]; exact h3⟩
          stk := by rw [hq]; exact R.stk
          ob := fun m o h => by
            rw [hq]
            rw [BM] at h
            split at h
            · rename_i e; subst e; cases h; exact hob
            · rename_i e
              have := (R.ob m o h).turn (k := fun _ => false) (lv' := lvH hp) (p' := p) (w' := w') (fun n hn _ => ⟨hn, rfl, rfl⟩) rfl rfl (hb _ (R.inj m n (A6 h) (A6 hn) e))
              rwa [Gm] at this
          base := fun m o h ho => by
            rw [BM] at h
            split at h
            · rename_i e; subst e; exact R.base _ _ hn hro
            · exact R.base m o h ho
          inj := fun m k h1 h2 => R.inj m k ((hl m).2 h1) ((hl k).2 h2) }
end
structure Aj (w0 : Kp) (fr : List (Array Value)) (s : Cx) (a : Act) (w : World) (p : Pm) : Prop where
  h : BD w0 (a.tmps :: fr) (s.env :: s.stk) s.hp w p
  nt : a.tmps.size = s.nt
  dfr : a.defers = []
section
variable {w0 : Kp} {fr : List (Array Value)} {s : Cx} {a : Act} {w : World} {p : Pm}
theorem JS.top {lv : Nm → Prop} {p : Pm} {e : Env} {l : List Env} {tm : Array Value} {fr : List (Array Value)} (h : JS lv p (e :: l) (tm :: fr)) : Hz lv p e tm ∧ JS lv p l fr := by
  cases h with | cons h1 h2 => exact ⟨h1, h2⟩
theorem BD.top {e : Env} {l : List Env} {hp : Hp} {tm : Array Value} (R : BD w0 (tm :: fr) (e :: l) hp w p) : Hz (lvH hp) p e tm := R.stk.top.1
theorem BD.frame {e e' : Env} {l : List Env} {hp : Hp} {tm tm' : Array Value} (R : BD w0 (tm :: fr) (e :: l) hp w p) (h : Hz (lvH hp) p e' tm') : BD w0 (tm' :: fr) (e' :: l) hp w p :=
  { R with stk := .cons h R.stk.top.2 }
theorem BD.pop {e : Env} {l : List Env} {hp : Hp} {tm : Array Value} (R : BD w0 (tm :: fr) (e :: l) hp w p) : BD w0 fr l hp w p := { R with stk := R.stk.top.2 }
theorem BD.push {e : Env} {l : List Env} {hp : Hp} {tm : Array Value} (R : BD w0 fr l hp w p) (h : Hz (lvH hp) p e tm) : BD w0 (tm :: fr) (e :: l) hp w p := { R with stk := .cons h R.stk }
theorem Hz.put {lv : Nm → Prop} {e : Env} {tm : Array Value} (h : Hz lv p e tm) {d : Nat} {x : CV} {v : Value} (hd : d < tm.size) (hx : RV lv p x v) : Hz lv p ((d, x) :: e) (tm.setIfInBounds d v) := fun t y ht => by
  simp only [lk] at ht
  cases hc : Nat.beq d t with
  | true =>
    rw [hc] at ht; cases ht
    have e := Nat.eq_of_beq_eq_true hc
    subst e
    simp only [Array.getD_eq_getD_getElem?, Array.getElem?_setIfInBounds_self_of_lt hd, Option.getD_some]
    exact hx
  | false =>
    rw [hc] at ht
    have e : d ≠ t := fun e => by subst e; simp at hc
    simp only [Array.getD_eq_getD_getElem?, Array.getElem?_setIfInBounds_ne e]
    have := h t y ht
    simpa only [Array.getD_eq_getD_getElem?] using this
theorem Aj.put (R : Aj w0 fr s a w p) {d : Option Nat} (hd : Co s.nt d = true) {x : CV} {v : Value} (hx : RV (lvH s.hp) p x v) : Aj w0 fr (s.put d x) (a.put d v) w p := by
  cases d with
  | none => exact R
  | some d =>
    have hd' : d < a.tmps.size := by
      rw [R.nt]
      exact Nat.le_of_ble_eq_true hd
    exact ⟨R.h.frame (R.h.top.put hd' hx), by simp only [Act.put, Array.size_setIfInBounds]; exact R.nt, R.dfr⟩
theorem Aj.look (R : Aj w0 fr s a w p) (t : Nat) : RV (lvH s.hp) p (s.look t) (a.tmps.getD t undef) := by
  unfold Cx.look
  cases h : lk s.env t with
  | none => exact .un
  | some x => exact R.h.top t x h
theorem HU (lv : Nm → Prop) (p : Pm) (v : Value) : RV lv p (GB v) v := by
  unfold GB
  split
  · exact .int
  · exact .bool
  · exact .str rfl
  · exact .nilp
  · exact .nils
  · exact .nilf
  · exact .nili
  · exact .un
theorem Wt (lv : Nm → Prop) (p : Pm) (v : Value) : RV lv p (ofV v) v := by
  unfold ofV
  split
  · rename_i cs
    split
    · rename_i h
      refine .agg (by simp) (fun i a v ha hv => ?_) (fun i v hv => ?_)
      · simp only [List.getElem?_map, Array.getElem?_toList, hv, Option.map_some, Option.some.injEq] at ha
        subst ha; exact HU _ _ _
      · exact Array.all_eq_true_iff_forall_mem.1 h v (Array.mem_of_getElem? hv)
    · exact .un
  · exact HU _ _ _
theorem Aj.opd (R : Aj w0 fr s a w p) (x : Operand) : RV (lvH s.hp) p (opd s x) (a.eval x) := by
  cases x with
  | tmp t => exact R.look t
  | const v => exact Wt _ _ v
  | global g => exact .un
  | func f => exact .fn rfl (fun i a v h => by simp at h)
end
end Go.Ev

namespace Go.Ev
open Go Go.Vl Go.RowKit
section
variable {P : Program} {T : Tab} {lv : Nm → Prop} {p : Pm}
theorem Ax (hT : BU P T.ty) {t : TypeId} {d : TypeDesc} (h : dsC T t = some d) : P.underlying t = some d := by
  unfold dsC at h
  obtain ⟨i, hi, rfl⟩ := Option.map_eq_some_iff.1 h
  exact (hT t i hi).1
theorem Dj (hT : BU P T.ty) {t : TypeId} {k : Nat} (h : szC T t = some k) : Ad P t = some k := by
  unfold szC at h
  obtain ⟨i, hi, rfl⟩ := Option.map_eq_some_iff.1 h
  exact (hT t i hi).2.1
theorem JU (hT : BU P T.ty) {t : TypeId} {z : List CV} (h : II T t = some z) : ∃ i v, P.info? t = some i ∧ i.zero = some v ∧ v.cells.size = i.size ∧ z = v.cells.toList.map GB ∧ ∀ (j : Nat) (u : Value), v.cells[j]? = some u → u.oneCell' = true := by
  unfold II at h
  obtain ⟨i, hi, rfl⟩ := Option.map_eq_some_iff.1 h
  have hz := (hT t i hi).2.2.2.1
  unfold TN at hz
  cases hq : P.info? t with
  | none => simp [hq] at hz
  | some j =>
    cases hv : j.zero with
    | none => simp [hq, hv] at hz
    | some v =>
      simp only [hq, hv, Option.bind_some] at hz
      split at hz
      case isFalse => cases hz
      rename_i hh
      exact ⟨j, v, rfl, hv, hh.1, (Option.some.inj hz).symm, fun j u hu => Array.all_eq_true_iff_forall_mem.1 hh.2 u (Array.mem_of_getElem? hu)⟩
theorem FK (v : Array Value) (i : Nat) (a : CV) (u : Value) (ha : (v.toList.map GB)[i]? = some a) (hu : v[i]? = some u) : RV lv p a u := by
  rw [List.getElem?_map, Array.getElem?_toList, hu] at ha
  simp at ha; subst ha
  exact HU _ _ u
theorem NW (hT : BU P T.ty) {t : TypeId} {cs : List CV} {o : Nat} {x : CV} (h : Eo T t cs o = some x) {w : World} {a : Addr} (vs : Nat → Value)
    (hcell : ∀ j, j < cs.length → w.cell? (a.add j) = some (vs j)) (hr : ∀ j c, cs[j]? = some c → RV lv p c (vs j)) (h1 : ∀ j, j < cs.length → (vs j).oneCell' = true) :
    ∃ v, (loadVar t (a.add o)).run P w = .ok v w ∧ RV lv p x v := by
  unfold Eo at h
  cases hi : T.ty.get t with
  | none => simp [hi] at h
  | some i =>
    obtain ⟨q1, q2, q3, _⟩ := hT t i hi
    simp only [hi, Option.bind_some] at h
    simp only [loadVar, Sem.run_bind, Be (CR (i := { (default : TypeInfo) with desc := i.desc }) q1), Result.andThen, q3]
    cases hg : i.ag with
    | true =>
      rw [hg] at h
      simp only at h
      split at h
      case isFalse => cases h
      rename_i hle
      cases h
      simp only [if_true, Sem.run_bind, AU q2, Result.andThen]
      rw [run_loadCells (P := P) w (a.add o) i.sz (fun j => vs (o + j)) (fun j hj => by rw [add_add]; exact hcell _ (by omega))]
      refine ⟨_, rfl, .agg (by simp; omega) (fun k y v hy hv => ?_) (fun k v hv => ?_)⟩
      · simp only [List.getElem?_toArray, List.getElem?_map] at hv
        by_cases hi : k < i.sz
        · rw [List.getElem?_range hi] at hv
          simp at hv; subst hv
          rw [List.getElem?_take_of_lt hi, List.getElem?_drop] at hy
          exact hr _ _ hy
        · rw [List.getElem?_eq_none (by simpa using hi)] at hv; simp at hv
      · simp only [List.getElem?_toArray, List.getElem?_map] at hv
        by_cases hi : k < i.sz
        · rw [List.getElem?_range hi] at hv
          simp at hv; subst hv
          exact h1 _ (by omega)
        · rw [List.getElem?_eq_none (by simpa using hi)] at hv; simp at hv
    | false =>
      rw [hg] at h
      simp only at h
      have hlt : o < cs.length := (List.getElem?_eq_some_iff.1 h).1
      simp only [Bool.false_eq_true, if_false]
      exact ⟨vs o, by simp [hcell o hlt], hr _ _ h⟩
theorem JV (hT : BU P T.ty) {t : TypeId} {cs : List CV} {o : Nat} {x : CV} (h : Eo T t cs o = some x) {vs : Array Value}
    (hl : vs.size = cs.length) (hr : ∀ (i : Nat) (a : CV) (v : Value), cs[i]? = some a → vs[i]? = some v → RV lv p a v) (h1 : ∀ (i : Nat) (v : Value), vs[i]? = some v → v.oneCell' = true) :
    ∃ v, (∀ w : World, (part t vs o).run P w = .ok v w) ∧ RV lv p x v := by
  unfold Eo at h
  cases hi : T.ty.get t with
  | none => simp [hi] at h
  | some i =>
    obtain ⟨q1, q2, q3, _⟩ := hT t i hi
    simp only [hi, Option.bind_some] at h
    simp only [part, Sem.run_bind, Be (CR (i := { (default : TypeInfo) with desc := i.desc }) q1), Result.andThen, q3]
    cases hg : i.ag with
    | true =>
      rw [hg] at h
      simp only at h
      split at h
      case isFalse => cases h
      rename_i hle
      cases h
      simp only [if_true, Sem.run_bind, AU q2, Result.andThen]
      refine ⟨_, fun w => rfl, .agg (by simp; omega) (fun k y v hy hv => ?_) (fun k v hv => ?_)⟩
      · rw [Array.getElem?_extract] at hv
        split at hv
        case isFalse => cases hv
        rename_i hi
        have hi' : k < i.sz := by omega
        rw [List.getElem?_take_of_lt hi', List.getElem?_drop] at hy
        exact hr _ _ _ hy hv
      · rw [Array.getElem?_extract] at hv
        split at hv
        case isFalse => cases hv
        exact h1 _ _ hv
    | false =>
      rw [hg] at h
      simp only at h
      have hlt : o < cs.length := (List.getElem?_eq_some_iff.1 h).1
      simp only [Bool.false_eq_true, if_false]
      have hv : vs[o]? = some (vs[o]'(by omega)) := Array.getElem?_eq_getElem (by omega)
      exact ⟨vs[o]'(by omega), fun w => by simp [hv], hr _ _ _ h hv⟩
theorem RV.one {x : CV} {l : List CV} {v : Value} (h : RV lv p x v) (hx : GC x = some l) :
    v.cells.size = l.length ∧ (∀ (i : Nat) (a : CV) (u : Value), l[i]? = some a → v.cells[i]? = some u → RV lv p a u) ∧ ∀ (i : Nat) (u : Value), v.cells[i]? = some u → u.oneCell' = true := by
  have key : ∀ {x : CV} {v : Value}, RV lv p x v → v.cells = #[v] → v.oneCell' = true → l = [x] → v.cells.size = l.length ∧ (∀ (i : Nat) (a : CV) (u : Value), l[i]? = some a → v.cells[i]? = some u → RV lv p a u) ∧ ∀ (i : Nat) (u : Value), v.cells[i]? = some u → u.oneCell' = true := by
    intro x v h hc h1 hl
    subst hl
    rw [hc]
    refine ⟨rfl, fun i a u ha hu => ?_, fun i u hu => ?_⟩
    · cases i <;> simp at ha hu
      subst ha; subst hu; exact h
    · cases i <;> simp at hu
      subst hu; exact h1
  cases h with
  | un => cases hx
  | tup h1 h2 => cases hx
  | agg h1 h2 h3 => cases hx; exact ⟨h1, h2, h3⟩
  | int => cases hx; exact key .int rfl rfl rfl
  | bool => cases hx; exact key .bool rfl rfl rfl
  | str h => cases hx; exact key (.str h) rfl rfl rfl
  | nilp => cases hx; exact key .nilp rfl rfl rfl
  | nils => cases hx; exact key .nils rfl rfl rfl
  | nilf => cases hx; exact key .nilf rfl rfl rfl
  | nili => cases hx; exact key .nili rfl rfl rfl
  | ptr h => cases hx; exact key (.ptr h) rfl rfl rfl
  | sl h1 h2 h3 h4 => cases hx; exact key (.sl h1 h2 h3 h4) rfl rfl rfl
  | fn h1 h2 => cases hx; exact key (.fn h1 h2) rfl rfl rfl
theorem FL {place : Nat → Option (Nat × Nat)} : ∀ {parts : List (Nat × CV)} {vals : List (Nat × Value)} {cells r : List CV} {cs : Array Value},
    Fw place cells parts = some r → vals.length = parts.length → (∀ (j : Nat) (i k : Nat) (x : CV) (v : Value), parts[j]? = some (i, x) → vals[j]? = some (k, v) → i = k ∧ RV lv p x v) → cs.size = cells.length →
    (∀ (i : Nat) (a : CV) (v : Value), cells[i]? = some a → cs[i]? = some v → RV lv p a v) → (∀ (i : Nat) (v : Value), cs[i]? = some v → v.oneCell' = true) →
    ∃ cs', Instr.fill place cs vals = some cs' ∧ cs'.size = r.length ∧ (∀ (i : Nat) (a : CV) (v : Value), r[i]? = some a → cs'[i]? = some v → RV lv p a v) ∧ ∀ (i : Nat) (v : Value), cs'[i]? = some v → v.oneCell' = true := by
  intro parts
  induction parts with
  | nil =>
    intro vals cells r cs h hl _ hs hr h1
    cases vals with
    | nil => simp [Fw] at h; subst h; exact ⟨cs, rfl, hs, hr, h1⟩
    | cons => simp at hl
  | cons part parts ih =>
    intro vals cells r cs h hl hv hs hr h1
    cases vals with
    | nil => simp at hl
    | cons val vals =>
      obtain ⟨i, x⟩ := part
      obtain ⟨k, v⟩ := val
      obtain ⟨hik, hxv⟩ := hv 0 i k x v rfl rfl
      subst hik
      simp only [Fw] at h
      cases hpl : place i with
      | none => simp [hpl] at h
      | some os =>
        obtain ⟨off, size⟩ := os
        simp only [hpl] at h
        cases hc : GC x with
        | none => simp [hc] at h
        | some l =>
          simp only [hc, Option.bind_some] at h
          split at h
          case isFalse => cases h
          rename_i hle
          obtain ⟨hl1, hl2⟩ := hle
          obtain ⟨g1, g2, g3⟩ := hxv.one hc
          have hsz : ¬ (v.cells.size ≠ size || decide (off + v.cells.size > cs.size)) = true := by simp; omega
          simp only [Instr.fill, hpl]
          rw [if_neg hsz]
          have hfold := foldl_set off v.cells.toList 0 cs (by simp; omega)
          rw [← Array.foldl_toList, Array.toList_zipIdx]
          generalize hW : (List.foldl (fun cs (x : Value × Nat) => cs.setIfInBounds (off + x.2) x.1) cs (v.cells.toList.zipIdx 0)) = cs1 at hfold ⊢
          have hcs1 : cs1.size = cells.length := by rw [← Array.length_toList, hfold]; simp; omega
          have hget : ∀ i, cs1[i]? = if i < off then cs[i]? else if i < off + size then v.cells[i - off]? else cs[i]? := fun i => by
            rw [← Array.getElem?_toList, hfold]
            simp only [List.getElem?_append, List.length_take, Array.length_toList, List.getElem?_take, Array.getElem?_toList, List.getElem?_drop, Nat.add_zero]
            by_cases h1 : i < off
            · rw [if_pos (by omega), if_pos h1, if_pos h1]
            · rw [if_neg (by omega), if_neg h1]
              have e1 : i - min off cs.size = i - off := by omega
              rw [e1]
              by_cases h2 : i < off + size
              · rw [if_pos (by omega), if_pos h2]
              · rw [if_neg (by omega), if_neg h2]; congr 1; omega
          have hgetA : ∀ i, (cells.take off ++ (l ++ cells.drop (off + size)))[i]? = if i < off then cells[i]? else if i < off + size then l[i - off]? else cells[i]? := fun i => by
            simp only [List.getElem?_append, List.length_take, List.getElem?_take, List.getElem?_drop]
            by_cases h1 : i < off
            · rw [if_pos (by omega), if_pos h1, if_pos h1]
            · rw [if_neg (by omega), if_neg h1]
              have e1 : i - min off cells.length = i - off := by omega
              rw [e1]
              by_cases h2 : i < off + size
              · rw [if_pos (by omega), if_pos h2]
              · rw [if_neg (by omega), if_neg h2]; congr 1; omega
          have hlen : cs1.size = (cells.take off ++ (l ++ cells.drop (off + size))).length := by rw [hcs1]; simp; omega
          refine ih h (by simpa using hl) (fun j i k x v hj hk => hv (j + 1) i k x v (by simpa using hj) (by simpa using hk)) hlen (fun i a u ha hu => ?_) (fun i u hu => ?_)
          · rw [hgetA] at ha; rw [hget] at hu
            split at ha
            · rename_i h1; rw [if_pos h1] at hu; exact hr i a u ha hu
            · rename_i h1; rw [if_neg h1] at hu
              split at ha
              · rename_i h2; rw [if_pos h2] at hu; exact g2 _ a u ha hu
              · rename_i h2; rw [if_neg h2] at hu; exact hr i a u ha hu
          · rw [hget] at hu
            split at hu
            · exact h1 i u hu
            · split at hu
              · exact g3 _ u hu
              · exact h1 i u hu
theorem Od {P : Program} : ∀ {fs : List Field}, (fs.all fun f => (Ad P f.type).isSome) = true → ∃ places, (fs.mapM fun f => (Ad P f.type).map fun k => (f.offset, k)) = some places ∧ ∀ j : Nat, places[j]? = (fs[j]?).bind fun (f : Field) => (Ad P f.type).map fun k => (f.offset, k)
  | [], _ => ⟨[], rfl, fun j => by simp⟩
  | f :: fs, h => by
    simp only [List.all_cons, Bool.and_eq_true] at h
    obtain ⟨k, hk⟩ := Option.isSome_iff_exists.1 h.1
    obtain ⟨pl, h1, h2⟩ := Od h.2
    refine ⟨(f.offset, k) :: pl, by simp [List.mapM_cons, hk, h1], fun j => ?_⟩
    cases j with
    | zero => simp [hk]
    | succ j => simpa using h2 j
theorem JW {f g : Nat → Option (Nat × Nat)} : ∀ {vals : List (Nat × Value)} {cs r : Array Value}, (∀ i q, f i = some q → g i = some q) → Instr.fill f cs vals = some r → Instr.fill g cs vals = some r
  | [], cs, r, _, h => h
  | (i, v) :: l, cs, r, hfg, h => by
    simp only [Instr.fill] at h ⊢
    cases hi : f i with
    | none => simp [hi] at h
    | some q =>
      obtain ⟨off, size⟩ := q
      simp only [hi] at h
      simp only [hfg i _ hi]
      split
      · rename_i hc; rw [if_pos hc] at h; cases h
      · rename_i hc; rw [if_neg hc] at h; exact JW hfg h
theorem LQ (hT : BU P T.ty) {t : TypeId} {parts : List (Nat × CV)} {vals : Array (Nat × Value)} (hlen : vals.size = parts.length) (hparts : ∀ (j : Nat) (i k : Nat) (x : CV) (v : Value), parts[j]? = some (i, x) → vals.toList[j]? = some (k, v) → i = k ∧ RV lv p x v) {r : List CV}
    (h : NK T t parts = some r) : ∃ v, (∀ w : World, (Instr.build t vals).run P w = .ok v w) ∧ RV lv p (.agg r) v := by
  unfold NK at h
  cases hi0 : T.ty.get t with
  | none => simp [hi0] at h
  | some i0 =>
    simp only [hi0, Option.bind_some] at h
    obtain ⟨q1, q2, q3, q4, q5, q6⟩ := hT t i0 hi0
    obtain ⟨i, v, hi, hv, hsz, hz, h1⟩ := JU hT (t := t) (z := i0.zero) (by simp [II, hi0])
    rw [hz] at h
    split at h
    · rename_i n e hu
      rw [hu] at q1
      cases hk : szC T e with
      | none => simp [hk] at h
      | some k =>
        simp only [hk, Option.bind_some] at h
        obtain ⟨cs', c1, c2, c3, c4⟩ := FL h (vals := vals.toList) (by simpa using hlen) hparts (by simp) (fun i a u ha hu => FK v.cells i a u ha hu) h1
        have hk' := Dj hT hk
        have he : ∃ ie, P.info? e = some ie ∧ ie.size = k := by
          unfold Ad at hk'
          cases hie : P.info? e with
          | none => simp [hie] at hk'
          | some ie => simp [hie] at hk'; exact ⟨ie, rfl, hk'⟩
        obtain ⟨ie, hie, rfl⟩ := he
        exact ⟨_, fun w => run_build w t _ cs' (by simp only [Program.built, hi, q1, hv, hie]; exact c1), .agg c2 c3 c4⟩
    · rename_i fs hu
      rw [hu] at q1 q6
      obtain ⟨places, hp1, hp2⟩ := Od (P := P) (fs := fs.toList) q6
      obtain ⟨cs', c1, c2, c3, c4⟩ := FL h (vals := vals.toList) (by simpa using hlen) hparts (by simp) (fun i a u ha hu => FK v.cells i a u ha hu) h1
      have hk' : (fs.toList.mapM fun f => (P.info? f.type).map fun i => (f.offset, i.size)) = some places := by
        rw [← hp1]; congr 1; funext f; unfold Ad; cases P.info? f.type <;> rfl
      refine ⟨_, fun w => run_build w t _ cs' ?_, .agg c2 c3 c4⟩
      simp only [Program.built, hi, q1, hv, hk']
      refine JW (fun j q hq => ?_) c1
      have := hp2 j
      rw [show (places.toArray[j]?) = places[j]? by simp, this]
      cases hf : fs.toList[j]? with
      | none => rw [hf] at hq; cases hq
      | some f =>
        rw [hf] at hq
        simp only [Option.bind_some] at hq ⊢
        obtain ⟨k, hk, rfl⟩ := Option.map_eq_some_iff.1 hq
        rw [Dj hT hk]; rfl
    · cases h
end
end Go.Ev

namespace Go.Ev
open Go Go.Vl Go.RowKit
def D5 (s : List Nat) : ByteArray := ⟨(s.map UInt8.ofNat).toArray⟩
theorem NX (s : List UInt8) : (s.map (·.toNat)).map UInt8.ofNat = s := by
  rw [List.map_map]
  conv => rhs; rw [← List.map_id s]
  congr 1
  funext x
  simp
theorem JX {b : ByteArray} {s : List Nat} (h : b.data.toList.map (·.toNat) = s) : b = D5 s := by
  subst h
  unfold D5
  rw [NX]
theorem Pd {a b : List UInt8} (h : a.map (·.toNat) = b.map (·.toNat)) : a = b := by
  rw [← NX a, h, NX]
def CV.toAV : CV → AV
  | .int k n => .d (.int k n)
  | .bool b => .d (.bool b)
  | .str s => .d (.str (D5 s))
  | _ => .undef
theorem TP {lv : Nm → Prop} {p : Pm} {w : World} {ok : Nat → Prop} {q : Pl} {x : CV} {v : Value} (h : RV lv p x v) : RA w ok q x.toAV v := by
  cases h with
  | int => exact .d .int
  | bool => exact .d .bool
  | str h => rw [JX h]; exact .d .str
  | _ => exact .undef
theorem JY {a b : ByteArray} : (a.data.toList.map (·.toNat) == b.data.toList.map (·.toNat)) = (a.toList == b.toList) := by
  have e : ∀ x : ByteArray, x.toList = x.data.toList := fun x => ByteArray.toList_eq x
  rw [e, e]
  by_cases h : a.data.toList = b.data.toList
  · rw [h]; simp
  · have : a.data.toList.map (·.toNat) ≠ b.data.toList.map (·.toNat) := fun hc => h (Pd hc)
    simp only [beq_eq_false_iff_ne.2 this, beq_eq_false_iff_ne.2 h]
section
variable {P : Program} {T : Tab} {lv : Nm → Prop} {p : Pm}
theorem NY {op : BinOp} {k : IntKind} {t : TypeId} {a b : Int} {x : CV} (h : Wr op k a b = some x) : ∃ v, (∀ w : World, (binOp op t (.int k a) (.int k b)).run P w = .ok v w) ∧ RV lv p x v := by
  cases op <;> simp only [Wr] at h
  case quo =>
    split at h
    · cases h
    · rename_i hb; cases h; exact ⟨_, fun w => (by simp [binOp, Op.intDiv, hb] <;> rfl), .int⟩
  case rem | and | or | xor | andNot | shl | shr => cases h
  case add | sub | mul => cases h; exact ⟨_, fun w => (by simp [binOp, Op.intArith] <;> rfl), .int⟩
  all_goals cases h; exact ⟨_, fun w => (by simp [binOp, Op.intCmp] <;> rfl), .bool⟩
theorem NZ {op : BinOp} {t : TypeId} {a b : ByteArray} {x : CV} (h : Wq op (a.data.toList.map (·.toNat)) (b.data.toList.map (·.toNat)) = some x) : ∃ v, (∀ w : World, (binOp op t (.string a) (.string b)).run P w = .ok v w) ∧ RV lv p x v := by
  cases op <;> simp only [Wq] at h
  case add =>
    split at h
    · rename_i hle
      cases h
      refine ⟨.string (a ++ b), fun w => ?_, .str (by simp only [ByteArray.data_append, Array.toList_append, List.map_append])⟩
      have hsz : ∀ x : ByteArray, x.data.toList.length = x.size := fun x => Array.length_toList
      simp only [List.length_map, hsz] at hle
      have : ¬ (((a.size + b.size : Nat) : Int) > IntKind.i64.max) := by
        have : IntKind.i64.max = 9223372036854775807 := by decide
        rw [this]; omega
      simp only [binOp, Op.stringOp, if_neg this]; rfl
    · cases h
  case eql | neq => cases h; rw [JY]; exact ⟨_, fun w => (by simp [binOp, Op.stringOp] <;> rfl), .bool⟩
  all_goals cases h
theorem Gn {P : Program} : ∀ {fs : List Field} {j : Nat} {z l l' : List CV} {r : Bool}, (∀ s, CV.str s ∈ l → (D5 s).data.toList.map (·.toNat) = s) → (∀ s, CV.str s ∈ l' → (D5 s).data.toList.map (·.toNat) = s) → HQ P j fs z = true → CL l z = true → CL l' z = true → IJ l l' = some r → DY P j fs (l.map CV.toAV) (l'.map CV.toAV) = some r
  | [], _, [], l, l', r, _, _, _, h1, h2, h => by
    cases l with
    | cons x l => cases x <;> simp [CL] at h1
    | nil => cases l' with
      | cons x l => cases x <;> simp [CL] at h2
      | nil => simp [IJ] at h; subst h; rfl
  | [], _, _ :: _, _, _, _, _, _, hf, _, _, _ => by simp [HQ] at hf
  | _ :: _, _, [], _, _, _, _, _, hf, _, _, _ => by simp [HQ] at hf
  | f :: fs, j, x :: z, l, l', r, b1, b2, hf, h1, h2, h => by
    simp only [HQ, Bool.and_eq_true, bne_iff_ne, ne_eq] at hf
    obtain ⟨⟨⟨hn, ho⟩, hx⟩, hf⟩ := hf
    have ho := Nat.eq_of_beq_eq_true ho
    have hc : f.name ≠ "_" ∧ f.offset = j := ⟨hn, ho⟩
    cases l with
    | nil => cases x <;> simp [CL] at h1
    | cons y l =>
      cases l' with
      | nil => cases x <;> simp [CL] at h2
      | cons y' l' =>
        split at hx
        · rename_i k0 k n hu
          cases y <;> simp [CL] at h1
          cases y' <;> simp [CL] at h2
          rename_i k1 n1 k2 n2
          simp only [IJ] at h
          split at h
          case isFalse => cases h
          rename_i hk
          obtain ⟨r', hr, rfl⟩ := Option.map_eq_some_iff.1 h
          have ih := Gn (fun s hs => b1 s (List.mem_cons_of_mem _ hs)) (fun s hs => b2 s (List.mem_cons_of_mem _ hs)) hf h1 h2 hr
          simp only [List.map_cons, DY, if_pos hc, hu, CV.toAV, Ba, if_pos hk, Option.bind_some, ih, Option.map_some]
        · rename_i s hu
          cases y <;> simp [CL] at h1
          cases y' <;> simp [CL] at h2
          rename_i s1 s2
          simp only [IJ] at h
          obtain ⟨r', hr, rfl⟩ := Option.map_eq_some_iff.1 h
          have ih := Gn (fun s hs => b1 s (List.mem_cons_of_mem _ hs)) (fun s hs => b2 s (List.mem_cons_of_mem _ hs)) hf h1 h2 hr
          have e1 := b1 s1 (by simp)
          have e2 := b2 s2 (by simp)
          have e3 : (s1 == s2) = ((D5 s1).toList == (D5 s2).toList) := by rw [← JY, e1, e2]
          simp only [List.map_cons, DY, if_pos hc, hu, CV.toAV, Ba, Option.bind_some, ih, Option.map_some, e3]
        · rename_i b hu
          cases y <;> simp [CL] at h1
          cases y' <;> simp [CL] at h2
          simp only [IJ] at h
          obtain ⟨r', hr, rfl⟩ := Option.map_eq_some_iff.1 h
          have ih := Gn (fun s hs => b1 s (List.mem_cons_of_mem _ hs)) (fun s hs => b2 s (List.mem_cons_of_mem _ hs)) hf h1 h2 hr
          simp only [List.map_cons, DY, if_pos hc, hu, CV.toAV, Ba, Option.bind_some, ih, Option.map_some]
        · cases hx
theorem MR (hT : BU P T.ty) {t : TypeId} {yc : Bool} {x y : CV} {r : Bool} (h : JH T t yc x y = some r) {u v : Value} (hu : RV lv p x u) (hv : RV lv p y v) (w : World) : (Op.equalIn 10000 t u v).run P w = .ok r w := by
  unfold JH at h
  have step : ∀ d, (Op.equalIn (d + 1) t u v).run P w = .ok r w := fun d => by
    split at h
    · rename_i e hd; cases h; cases hu; cases hv; simp [Op.equalIn, run_underlying (Ax hT hd)]
    · rename_i e hd; cases h; cases hu; cases hv; simp [Op.equalIn, run_underlying (Ax hT hd)]
    · rename_i e hd; cases h; cases hu; cases hv; simp [Op.equalIn, run_underlying (Ax hT hd)]
    · rename_i e n o m o' hd
      split at h
      case h_2 => cases h
      rename_i k hn hz
      split at h
      case isFalse => cases h
      rename_i ho
      cases h
      have e1 := Nat.eq_of_beq_eq_true hn
      subst e1; subst ho
      cases hu; cases hv
      simp [Op.equalIn, run_underlying (Ax hT hd), AU (Dj hT hz), sameAddr]
    · rename_i e hd; cases h; cases hu; cases hv; simp [Op.equalIn, run_underlying (Ax hT hd)]
    · rename_i e hd; cases h; cases hu; cases hv; simp [Op.equalIn, run_underlying (Ax hT hd)]
    · rename_i hd; cases h; cases hu; cases hv; simp [Op.equalIn, run_underlying (Ax hT hd)]
    · rename_i hd; cases h; cases hu; cases hv; simp [Op.equalIn, run_underlying (Ax hT hd)]
    · rename_i hd
      split at h
      · cases h; cases hu; cases hv; simp [Op.equalIn, run_underlying (Ax hT hd)]
      · cases h
    · cases h
  exact step 9999
theorem Kk {l : List CV} {cs : Array Value} (hl : cs.size = l.length) (h : ∀ (i : Nat) (a : CV) (v : Value), l[i]? = some a → cs[i]? = some v → RV lv p a v) : ∀ s, CV.str s ∈ l → (D5 s).data.toList.map (·.toNat) = s := fun s hs => by
  obtain ⟨i, hi, he⟩ := List.getElem_of_mem hs
  have h1 : l[i]? = some (.str s) := by rw [List.getElem?_eq_getElem hi, he]
  have h2 : cs[i]? = some (cs[i]'(by omega)) := Array.getElem?_eq_getElem (by omega)
  have := h i _ _ h1 h2
  generalize cs[i]'(by omega) = v at this
  cases this with | str hb => rw [← JX hb]; exact hb
theorem MS {l : List CV} {cs : Array Value} {w : World} {ok : Nat → Prop} {q : Pl} (hl : cs.size = l.length) (h : ∀ (i : Nat) (a : CV) (v : Value), l[i]? = some a → cs[i]? = some v → RV lv p a v) (h1 : ∀ (i : Nat) (v : Value), cs[i]? = some v → v.oneCell' = true) : RA w ok q (.agg (l.map CV.toAV)) (.agg cs) :=
  .agg (by simpa using hl) (fun i a v ha hv => by
    rw [List.getElem?_map] at ha
    obtain ⟨x, hx, rfl⟩ := Option.map_eq_some_iff.1 ha
    exact TP (h i x v hx hv)) h1
theorem Wu (hT : BU P T.ty) (hE : Di P T) {t : TypeId} {l l' : List CV} {r : Bool} (h : T.eqs.contains t = true ∧ JI T t l = true ∧ JI T t l' = true) (b1 : ∀ s, CV.str s ∈ l → (D5 s).data.toList.map (·.toNat) = s) (b2 : ∀ s, CV.str s ∈ l' → (D5 s).data.toList.map (·.toNat) = s) (hr : IJ l l' = some r) : eqA P t (l.map CV.toAV) (l'.map CV.toAV) = some r := by
  obtain ⟨z, hz, ho⟩ := hE t (by simpa using h.1)
  obtain ⟨_, h1, h2⟩ := h
  unfold JI at h1 h2
  rw [hz] at h1 h2
  unfold RO at ho
  simp only [Bool.and_eq_true, Bool.not_eq_true'] at ho
  obtain ⟨hg, ho⟩ := ho
  unfold eqA
  rw [if_neg (by rw [hg]; decide)]
  split at ho
  · rename_i fs hu
    simp only [Bool.and_eq_true, Bool.not_eq_true'] at ho
    simp only [hu]
    rw [if_neg (by rw [ho.1]; decide)]
    exact Gn b1 b2 ho.2 h1 h2 hr
  · cases ho
theorem Na (hT : BU P T.ty) (hE : Di P T) {op : BinOp} {t : TypeId} {yc : Bool} {x y z : CV} (h : Ws T op t yc x y = some z) {u v : Value} (hu : RV lv p x u) (hv : RV lv p y v) (ox oy : Operand) (hy : yc = true → ∃ c, oy = .const c) :
    ∃ r, (∀ w : World, (do eqGuard op t ox oy u v; binOp op t u v : Sem Value).run P w = .ok r w) ∧ RV lv p z r := by
  unfold Ws at h
  split at h
  · rename_i k a k' b
    split at h
    case isFalse => cases h
    rename_i hk
    subst hk
    cases hu; cases hv
    obtain ⟨r, h1, h2⟩ := NY (P := P) (lv := lv) (p := p) (t := t) h
    refine ⟨r, fun w => ?_, h2⟩
    have hg : (eqGuard op t ox oy (.int k a) (.int k b)).run P w = .ok () w := by cases op <;> simp [eqGuard]
    simp only [Sem.run_bind, hg, Result.andThen_ok, h1 w]
  · rename_i a b
    cases hu with | str ha =>
    cases hv with | str hb =>
    rename_i a b
    rw [← ha, ← hb] at h
    obtain ⟨r, h1, h2⟩ := NZ (P := P) (lv := lv) (p := p) (t := t) h
    refine ⟨r, fun w => ?_, h2⟩
    have hg : (eqGuard op t ox oy (.string a) (.string b)).run P w = .ok () w := by cases op <;> simp [eqGuard]
    simp only [Sem.run_bind, hg, Result.andThen_ok, h1 w]
  · rename_i l l'
    split at h
    case isFalse => cases h
    rename_i hc
    cases hu with | agg a1 a2 a3 =>
    cases hv with | agg c1 c2 c3 =>
    rename_i xs ys
    have b1 := Kk a1 a2
    have b2 := Kk c1 c2
    have key : ∀ r, IJ l l' = some r → ∀ w : World, (∀ op x y, (eqGuard op t x y (.agg xs) (.agg ys)).run P w = .ok () w) ∧ (binOp .eql t (.agg xs) (.agg ys)).run P w = .ok (.bool r) w ∧ (binOp .neq t (.agg xs) (.agg ys)).run P w = .ok (.bool (!r)) w := fun r hr w => by
      obtain ⟨xs', ys', e1, e2, hh⟩ := HA (Wu hT hE hc b1 b2 hr) (MS (w := w) (ok := fun _ => True) (q := ⟨fun _ => 0, fun _ => undef, fun _ => True, fun _ => True⟩) a1 a2 a3) (MS c1 c2 c3)
      exact hh
    split at h
    · obtain ⟨r, hr, rfl⟩ := Option.map_eq_some_iff.1 h
      exact ⟨_, fun w => by obtain ⟨k1, k2, k3⟩ := key r hr w; simp only [Sem.run_bind, k1, Result.andThen_ok, k2], .bool⟩
    · obtain ⟨r, hr, rfl⟩ := Option.map_eq_some_iff.1 h
      exact ⟨_, fun w => by obtain ⟨k1, k2, k3⟩ := key r hr w; simp only [Sem.run_bind, k1, Result.andThen_ok, k3], .bool⟩
    · cases h
  · have hne : ∀ b, JH T t yc x y = some b → ∀ w : World, (∀ op, (eqGuard op t ox oy u v).run P w = .ok () w) ∧ (Op.equalIn 10000 t u v).run P w = .ok b w := fun b hb w => by
      refine ⟨fun op => ?_, MR hT hb hu hv w⟩
      unfold JH at hb
      split at hb
      case h_9 =>
        cases hu; cases hv
        split at hb
        case h_2 => cases hb
        obtain ⟨c, rfl⟩ := hy rfl
        cases op <;> simp [eqGuard]
      case h_10 => cases hb
      all_goals (cases hu; cases hv; cases op <;> simp [eqGuard])
    have hbin : ∀ b, JH T t yc x y = some b → ∀ w : World, (binOp .eql t u v).run P w = .ok (.bool b) w ∧ (binOp .neq t u v).run P w = .ok (.bool (!b)) w := fun b hb w => by
      have h9 := (hne b hb w).2
      unfold JH at hb
      split at hb
      case h_10 => cases hb
      all_goals (cases hu; cases hv; exact ⟨by simp only [binOp, Sem.run_bind, Op.equal, Op.maxDepth, h9, Result.andThen_ok, Sem.run_pure], by simp only [binOp, Sem.run_bind, Op.equal, Op.maxDepth, h9, Result.andThen_ok, Sem.run_pure]⟩)
    split at h
    · rename_i b hb; cases h
      exact ⟨_, fun w => by simp only [Sem.run_bind, (hne b hb w).1, Result.andThen_ok, (hbin b hb w).1], .bool⟩
    · rename_i b hb; cases h
      exact ⟨_, fun w => by simp only [Sem.run_bind, (hne b hb w).1, Result.andThen_ok, (hbin b hb w).2], .bool⟩
    · cases h
end
end Go.Ev

namespace Go.Ev
open Go Go.Vl Go.RowKit
theorem Bn {s s' : Cx} {d : Option Nat} {x : Option CV} (h : JJ s d x = some s') : ∃ y, x = some y ∧ s' = s.put d y := by
  unfold JJ at h
  split at h
  · cases h; exact ⟨_, rfl, rfl⟩
  · cases h
theorem CW {lv : Nm → Prop} {p : Pm} {x : CV} {n : Int} (h : intOf x = some n) {v : Value} (hv : RV lv p x v) : ∃ k, v = .int k n := by
  unfold intOf at h
  split at h
  · cases h; cases hv; exact ⟨_, rfl⟩
  · cases h
theorem IY (s : Cx) : ∀ l : List Operand, Pb s l = l.map (opd s)
  | [] => rfl
  | x :: l => by simp [Pb, IY s l]
theorem Fc (s : Cx) : ∀ l : List (Nat × Operand), HO s l = l.map fun q => (q.1, opd s q.2)
  | [] => rfl
  | x :: l => by simp [HO, Fc s l]
theorem Fe {b : ByteArray} {s : List Nat} (h : b.data.toList.map (·.toNat) = s) : b.size = s.length := by
  subst h
  rw [List.length_map]; exact Array.length_toList.symm
theorem Oe {b : ByteArray} {s : List Nat} (h : b.data.toList.map (·.toNat) = s) {i n : Nat} (hi : s[i]? = some n) : ∃ u, b[i]? = some u ∧ u.toNat = n := by
  subst h
  rw [List.getElem?_map] at hi
  obtain ⟨u, hu, rfl⟩ := Option.map_eq_some_iff.1 hi
  refine ⟨u, ?_, rfl⟩
  have hlt : i < b.size := by have := (List.getElem?_eq_some_iff.1 hu).1; exact (by simpa using this : i < b.data.size)
  obtain ⟨h1, h2⟩ := List.getElem?_eq_some_iff.1 hu
  rw [getElem?_pos b i hlt]
  congr 1
section
variable {P : Program} {T : Tab} {w0 : Kp} {fr : List (Array Value)} {s s' : Cx} {a : Act} {w : World} {p : Pm}
theorem MU (R : Aj w0 fr s a w p) {parts : Array (Nat × Operand)} : ∀ (j : Nat) (i k : Nat) (x : CV) (v : Value), (HO s parts.toList)[j]? = some (i, x) → (parts.map fun (i, x) => (i, a.eval x)).toList[j]? = some (k, v) → i = k ∧ RV (lvH s.hp) p x v := by
  intro j i k x v hj hk
  rw [Fc, List.getElem?_map] at hj
  rw [Array.toList_map, List.getElem?_map] at hk
  cases hq : parts.toList[j]? with
  | none => simp [hq] at hj
  | some q =>
    obtain ⟨q1, q2⟩ := q
    simp [hq] at hj hk
    obtain ⟨rfl, rfl⟩ := hj
    obtain ⟨rfl, rfl⟩ := hk
    exact ⟨rfl, R.opd _⟩
theorem Dd (hT : BU P T.ty) (hE : Di P T) (R : Aj w0 fr s a w p) {call : Ak} {base : Nm} {o : Oper} (hp : Ch o = true) (h : KG call T base s o = some s') :
    ∃ x v, s' = s.put o.dst x ∧ (∀ w' : World, (execOp a.eval o).run P w' = .ok (.value v) w') ∧ RV (lvH s.hp) p x v := by
  have close : ∀ {m : Sem Value} {x : CV}, s' = s.put o.dst x → (∃ v, (∀ w' : World, m.run P w' = .ok v w') ∧ RV (lvH s.hp) p x v) → ∃ x v, s' = s.put o.dst x ∧ (∀ w' : World, (do pure (Next.value (← m)) : Sem Next).run P w' = .ok (.value v) w') ∧ RV (lvH s.hp) p x v := fun hs ⟨v, h1, h2⟩ => ⟨_, v, hs, fun w' => by simp [h1], h2⟩
  unfold Ch at hp
  unfold KG at h
  unfold execOp
  split at hp
  case h_13 => cases hp
  all_goals (rename_i ho; rw [ho] at h; simp only [ho])
  · simp only [Dy] at h
    cases h; exact ⟨_, _, rfl, fun _ => rfl, R.opd _⟩
  · simp only [Dy, Gi, Q4] at h
    rename_i c b1 b2
    have hc := R.opd c
    split at h
    · rename_i hl; rw [hl] at hc; cases h
      generalize a.eval c = v at *
      cases hc
      exact ⟨_, _, rfl, fun _ => by simp [asBool], R.opd b1⟩
    · rename_i hl; rw [hl] at hc; cases h
      generalize a.eval c = v at *
      cases hc
      exact ⟨_, _, rfl, fun _ => by simp [asBool], R.opd b2⟩
    · cases h
  · simp only [Dy, Gi, WQ] at h
    rename_i y
    split at h
    case h_2 => cases h
    rename_i hk
    cases h
    have hy := R.opd y
    generalize opd s y = yy at *
    generalize a.eval y = v at *
    cases hy with
    | ptr hn => exact ⟨_, _, rfl, fun _ => rfl, .ptr hn⟩
    | fn q1 q2 => exact ⟨_, _, rfl, fun _ => rfl, .fn q1 q2⟩
    | _ => simp [okP] at hk
  · simp only [Dy, MM] at h
    rename_i t y i
    split at h
    case h_2 => cases h
    rename_i n hi
    obtain ⟨x, hx, rfl⟩ := Bn h
    obtain ⟨k, hk⟩ := CW hi (R.opd i)
    rw [hk]
    refine close rfl ?_
    have hy := R.opd y
    unfold OQ at hx
    split at hx
    · rename_i e nn o' l c hd hyy
      rw [hyy] at hy
      split at hx
      case isFalse => cases hx
      rename_i hb
      obtain ⟨z, hz, rfl⟩ := Option.map_eq_some_iff.1 hx
      generalize a.eval y = v at *
      cases hy with | sl hn hl g1 g2 =>
      exact ⟨.pointer (some ⟨p.b nn, o' + n.toNat * z, none⟩), fun w' => by simp [Instr.indexAt, run_underlying (Ax hT hd), asIntOf, hb, AU (Dj hT hz), Ah], .ptr hn⟩
    · rename_i len e nn o' hd hyy
      rw [hyy] at hy
      split at hx
      case isFalse => cases hx
      rename_i hb
      obtain ⟨z, hz, rfl⟩ := Option.map_eq_some_iff.1 hx
      generalize a.eval y = v at *
      cases hy with | ptr hn =>
      exact ⟨.pointer (some ⟨p.b nn, o' + n.toNat * z, none⟩), fun w' => by simp [Instr.indexAt, Instr.sureAddr, run_underlying (Ax hT hd), asIntOf, hb, AU (Dj hT hz), Ah], .ptr hn⟩
    · cases hx
  · simp only [Dy] at h
    rename_i t y f
    obtain ⟨x, hx, rfl⟩ := Bn h
    refine close rfl ?_
    have hy := R.opd y
    unfold OO at hx
    split at hx
    case h_2 => cases hx
    rename_i nn o' hyy
    rw [hyy] at hy
    split at hx
    case h_2 => cases hx
    rename_i fs hd
    cases hf : fs[f]? with
    | none => simp [hf] at hx
    | some fd =>
      simp only [hf, Option.bind_some] at hx
      split at hx
      case h_2 => cases hx
      rename_i k hk
      cases hx
      generalize a.eval y = v at *
      cases hy with | ptr hn =>
      exact ⟨.pointer (some ⟨p.b nn, o' + fd.offset, none⟩), fun w' => by simp [Instr.fieldAt, Instr.sureAddr, run_underlying (Ax hT hd), hf, fieldPlace, AU (Dj hT hk), Ah], .ptr hn⟩
  · simp only [Dy, Gi] at h
    rename_i t y f
    obtain ⟨x, hx, rfl⟩ := Bn h
    refine close rfl ?_
    have hy := R.opd y
    unfold OP at hx
    split at hx
    case h_2 => cases hx
    rename_i l hyy
    rw [hyy] at hy
    split at hx
    case h_2 => cases hx
    rename_i fs hd
    cases hf : fs[f]? with
    | none => simp [hf] at hx
    | some fd =>
      simp only [hf, Option.bind_some] at hx
      generalize a.eval y = v at *
      cases hy with | agg hl hr h1 =>
      obtain ⟨v, h3, h4⟩ := JV hT hx hl hr h1
      exact ⟨v, fun w' => by simp [Instr.field, run_underlying (Ax hT hd), hf, asAgg, h3], h4⟩
  · simp only [Dy, Gi, OS] at h
    rename_i t y i
    split at h
    case h_2 => cases h
    rename_i n hi
    obtain ⟨x, hx, rfl⟩ := Bn h
    obtain ⟨k, hk⟩ := CW hi (R.opd i)
    rw [hk]
    refine close rfl ?_
    have hy := R.opd y
    unfold OR at hx
    split at hx
    · rename_i len e l hd hyy
      rw [hyy] at hy
      split at hx
      case isFalse => cases hx
      rename_i hb
      cases hz : szC T e with
      | none => simp [hz] at hx
      | some z =>
        simp only [hz, Option.bind_some] at hx
        generalize a.eval y = v at *
        cases hy with | agg hl hr h1 =>
        obtain ⟨v, h3, h4⟩ := JV hT hx hl hr h1
        exact ⟨v, fun w' => by simp [Instr.index, asIntOf, run_underlying (Ax hT hd), hb, AU (Dj hT hz), h3], h4⟩
    · rename_i b hd hyy
      rw [hyy] at hy
      split at hx
      case isFalse => cases hx
      rename_i hb
      obtain ⟨c, hc, rfl⟩ := Option.map_eq_some_iff.1 hx
      generalize a.eval y = v at *
      cases hy with | str hs =>
      obtain ⟨u, hu, rfl⟩ := Oe hs hc
      exact ⟨_, fun w' => (by simp [Instr.index, asIntOf, run_underlying (Ax hT hd), hb, hu] <;> rfl), .int⟩
    · cases hx
  · simp only [Dy, Gi, Kf] at h
    rename_i y i
    have hy := R.opd y
    split at h
    case h_2 => cases h
    rename_i l hl
    rw [hl] at hy
    obtain ⟨x, hx, rfl⟩ := Bn h
    generalize a.eval y = v at *
    cases hy with | tup hsz hr =>
    rename_i cs
    have hi : i < cs.size := by have := (List.getElem?_eq_some_iff.1 hx).1; omega
    exact ⟨_, cs[i], rfl, fun w' => by simp [Instr.extract, hi], hr i _ _ hx (by simp [hi])⟩
  · simp only [Dy] at h
    rename_i op t x y yt
    obtain ⟨z, hz, rfl⟩ := Bn h
    refine close rfl ?_
    exact Na hT hE hz (R.opd x) (R.opd y) _ _ (fun hc => by
      cases y with
      | const c => exact ⟨c, rfl⟩
      | _ => cases hc)
  · simp only [Dy, Gi] at h
    rename_i op t y
    obtain ⟨x, hx, rfl⟩ := Bn h
    refine close rfl ?_
    have hy := R.opd y
    generalize a.eval y = v at *
    unfold unC at hx
    split at hx
    · rename_i hl; rw [hl] at hy; cases hx; cases hy; exact ⟨_, fun w' => (by simp [Op.unary] <;> rfl), .bool⟩
    · rename_i hl; rw [hl] at hy; cases hx; cases hy; exact ⟨_, fun w' => (by simp [Op.unary, Op.intArith] <;> rfl), .int⟩
    · cases hx
  · simp only [Dy, Gi, OT] at h
    rename_i t parts
    split at h
    case h_2 => cases h
    rename_i l hl
    cases h
    refine close rfl ?_
    exact LQ hT (by simp [Fc]) (MU R) hl
  · rename_i c
    obtain ⟨callee, ⟨args⟩, ⟨tys⟩⟩ := c
    cases callee with
    | value y => cases hp
    | invoke m r => cases hp
    | builtin b =>
      cases b <;> simp only [reduceCtorEq] at hp
      simp only [Gj] at h
      obtain ⟨x, t, e1, e2, h2⟩ : ∃ x t, args = [x] ∧ tys = [t] ∧ Q6 T s o.dst t x = some s' := by
        match args, tys, h with
        | [x], [t], h => exact ⟨x, t, rfl, rfl, h⟩
        | [], _, h => simp [Cu] at h
        | _ :: _ :: _, _, h => simp [Cu] at h
        | [_], [], h => simp [Cu] at h
        | [_], _ :: _ :: _, h => simp [Cu] at h
      clear h
      have h := h2
      subst e1; subst e2
      unfold Q6 at h
      split at h
      case h_2 => cases h
      rename_i n ht hn
      cases h
      have hx := R.opd x
      refine ⟨_, .int .i64 n, rfl, fun w' => ?_, .int⟩
      have key : (Builtin.len_ #[t] o.type #[a.eval x]).run P w' = .ok (.int .i64 n) w' := by
        unfold NN at hn
        split at hn
        · rename_i b hb
          rw [hb] at hx ht
          cases hn
          simp only [Ec] at ht
          split at ht
          case h_2 => cases ht
          rename_i hd
          generalize a.eval x = v at *
          cases hx with | str hs => simp [Builtin.len_, run_underlying (Ax hT hd), goInt, Fe hs]
        · rename_i m q l c hb
          rw [hb] at hx ht
          cases hn
          simp only [Ec, Kg] at ht
          split at ht
          case h_2 => cases ht
          rename_i hd
          generalize a.eval x = v at *
          cases hx with | sl g1 g2 g3 g4 => simp [Builtin.len_, run_underlying (Ax hT hd), goInt]
        · rename_i hb
          rw [hb] at hx ht
          cases hn
          simp only [Ec, Kg] at ht
          split at ht
          case h_2 => cases ht
          rename_i hd
          generalize a.eval x = v at *
          cases hx with | nils => simp [Builtin.len_, run_underlying (Ax hT hd), goInt]
        · cases hn
      simp [resolve, invoke, builtin, key]
end
end Go.Ev

namespace Go.Ev
open Go Go.Vl Go.RowKit
def Stp (P : Program) (w0 : Kp) (fr : List (Array Value)) (s' : Cx) (o : Oper) (a : Act) (w : World) : Prop :=
  ∃ w' p', (∃ v, (execOp a.eval o).run P w = .ok (.value v) w' ∧ Aj w0 fr s' (a.put o.dst v) w' p') ∨ ((execOp a.eval o).run P w = .ok .skip w' ∧ Aj w0 fr s' (a.put o.dst undef) w' p')
theorem Dk {s s' : Cx} {n : Nm} {o : Ob} (h : s.new n o = some s') : s.hp.get n = none ∧ s' = { s with hp := s.hp.set n o } := by
  unfold Cx.new at h
  split at h
  · cases h
  · rename_i hn; cases h; exact ⟨hn, rfl⟩
theorem JZ {α : Type} (z : List α) : ∀ (k j : Nat) (x : α), (List.replicate k z).flatten[j]? = some x → j < k * z.length ∧ z[j % z.length]? = some x
  | 0, j, x, hx => by simp at hx
  | k + 1, j, x, hx => by
    rw [List.replicate_succ, List.flatten_cons, List.getElem?_append] at hx
    split at hx
    · rename_i hj
      rw [Nat.mod_eq_of_lt hj, Nat.add_mul]
      exact ⟨by omega, hx⟩
    · rename_i hj
      obtain ⟨a1, a2⟩ := JZ z k _ _ hx
      rw [Nat.add_mul]
      refine ⟨by omega, ?_⟩
      have : j % z.length = (j - z.length) % z.length := by rw [Nat.mod_eq_sub_mod (by omega)]
      rw [this]; exact a2
section
variable {P : Program} {T : Tab} {w0 : Kp} {fr : List (Array Value)} {s s' : Cx} {a : Act} {w : World} {p : Pm}
theorem Stp.val (R : Aj w0 fr s a w p) {o : Oper} (hd : Co s.nt o.dst = true) {x : CV} {v : Value} (h : (execOp a.eval o).run P w = .ok (.value v) w) (hx : RV (lvH s.hp) p x v) : Stp P w0 fr (s.put o.dst x) o a w :=
  ⟨w, p, .inl ⟨v, h, R.put hd hx⟩⟩
theorem Aj.newCells (R : Aj w0 fr s a w p) {d : Option Nat} (hd : Co s.nt d = true) {nm : Nm} {l : List CV} {z c : Nat} {m : Option TypeId} (hn : s.hp.get nm = none) {vs : Array Value} {ty : TypeId} {w' : World}
    (hs : w.heap.size < w'.heap.size) (ho : w'.os = w.os) (ht : w'.tape = w.tape) (hu : w'.output = w.output) (hb : ∀ b, b < w.heap.size → w'.heap[b]? = w.heap[b]?) (hat : w'.heap[w.heap.size]? = some (.cells vs ty (0, 0)))
    (hl : l.length ≤ vs.size) (hr : ∀ (i : Nat) (c : CV) (v : Value), l[i]? = some c → vs[i]? = some v → RV (lvH s.hp) p c v) (h1 : ∀ (i : Nat) (v : Value), vs[i]? = some v → v.oneCell' = true) (hm : ∀ e, m = some e → ty = e ∧ vs.size = c * z)
    {x : CV} {v : Value} (hx : ∀ (lv' : Nm → Prop) (p' : Pm), lv' nm → p'.b nm = w.heap.size → p'.c nm = c → RV lv' p' x v) : ∃ p', Aj w0 fr (Cx.put { s with hp := s.hp.set nm (.cells l z m) } d x) (a.put d v) w' p' := by
  obtain ⟨p', R', e1, e2, hlv, hm'⟩ := R.h.new (nm := nm) (ob := .cells l z m) hn hs ho ht hu hb c (fun lv' p' hmono e1 e2 => ⟨vs, ty, by rw [e1]; exact hat, hl, fun i c v hc hv => hmono _ _ (hr i c v hc hv), h1, fun e he => by rw [e2]; exact hm e he⟩)
  have R1 : Aj w0 fr { s with hp := s.hp.set nm (.cells l z m) } a w' p' := ⟨R', R.nt, R.dfr⟩
  exact ⟨p', R1.put hd (hx _ _ hlv e1 e2)⟩
theorem H3 (w : World) (vs : Array Value) (ty : TypeId) : w.heap.size < (w.alloc (.cells vs ty)).heap.size ∧ (w.alloc (.cells vs ty)).os = w.os ∧ (w.alloc (.cells vs ty)).tape = w.tape ∧ (w.alloc (.cells vs ty)).output = w.output ∧ (∀ b, b < w.heap.size → (w.alloc (.cells vs ty)).heap[b]? = w.heap[b]?) ∧ (w.alloc (.cells vs ty)).heap[w.heap.size]? = some (.cells vs ty (0, 0)) :=
  ⟨by simp, rfl, rfl, rfl, fun b hb => Below.heap_alloc w _ b hb, heap_alloc_new w _⟩
theorem Ja (hT : BU P T.ty) (R : Aj w0 fr s a w p) {o : Oper} (hd : Co s.nt o.dst = true) {t : TypeId} {x : Operand} (ho : o.op = .load t x) {y : CV} (h : Ke T s t (opd s x) = some y) : ∃ v, (execOp a.eval o).run P w = .ok (.value v) w ∧ RV (lvH s.hp) p y v := by
  unfold Ke at h
  have hx := R.opd x
  split at h
  case h_2 => cases h
  rename_i n q hq
  rw [hq] at hx
  obtain ⟨l, hl, vs, ty, fz, h1, h2, h3, h4⟩ : ∃ l, Eo T t l q = some y ∧ ∃ (vs : Array Value) (ty : TypeId) (fz : Nat × Nat), w.heap[p.b n]? = some (.cells vs ty fz) ∧ l.length ≤ vs.size ∧ (∀ (i : Nat) (c : CV) (v : Value), l[i]? = some c → vs[i]? = some v → RV (lvH s.hp) p c v) ∧ (∀ (i : Nat) (v : Value), vs[i]? = some v → v.oneCell' = true) := by
    split at h
    · rename_i l z m hl
      obtain ⟨vs, ty, h1, h2, h3, h4, _⟩ := R.h.ob n _ hl
      exact ⟨l, h, vs, ty, _, h1, h2, h3, h4⟩
    · rename_i l hl
      obtain ⟨vs, ty, fz, h1, h2, h3, h4⟩ := R.h.ob n _ hl
      exact ⟨l, h, vs, ty, fz, h1, h2, h3, h4⟩
    · cases h
  have := NW hT (a := ⟨p.b n, 0, none⟩) hl (w := w) (lv := lvH s.hp) (p := p) (fun j => vs.getD j undef) (fun j hj => by
    rw [Ah, Nat.zero_add, cell_of_row w _ j vs ty _ h1]; simp [show j < vs.size by omega]) (fun j c hc => by
    have hj : j < vs.size := by have := (List.getElem?_eq_some_iff.1 hc).1; omega
    exact h3 j c _ hc (by simp [hj])) (fun j hj => h4 j _ (by simp [show j < vs.size by omega]))
  rw [Ah, Nat.zero_add] at this
  obtain ⟨v, g1, g2⟩ := this
  generalize hax : a.eval x = ax at *
  cases hx with | ptr hn =>
  exact ⟨v, by simp [execOp, ho, hax, Instr.loadAt, Instr.sureAddr, g1], g2⟩
theorem E9 (hT : BU P T.ty) (R : Aj w0 fr s a w p) {o : Oper} {t : TypeId} {x y : Operand} (ho : o.op = .store t x y) (hd : o.dst = none) (h : NL T s t (opd s x) (opd s y) = some s') : Stp P w0 fr s' o a w := by
  unfold NL at h
  have hx := R.opd x
  split at h
  case h_2 => cases h
  rename_i n q hq
  rw [hq] at hx
  split at h
  case h_2 => cases h
  rename_i l z m hl
  cases hc : GC (opd s y) with
  | none => simp [hc] at h
  | some ys =>
    simp only [hc, Option.bind_some] at h
    split at h
    case isFalse => cases h
    rename_i hh
    obtain ⟨hle, hok⟩ := hh
    cases h
    obtain ⟨g1, g2, g3⟩ := (R.opd y).one hc
    obtain ⟨vs, ty, h1, h2, h3, h4, h5⟩ := R.h.ob n _ hl
    generalize hay : a.eval y = vy at *
    have hone : ∀ v ∈ vy.cells.toList, v.oneCell' = true := fun v hv => by
      obtain ⟨j, hj, rfl⟩ := List.getElem_of_mem hv
      exact g3 j _ (by simp at hj; simp [hj])
    have hsz : Ad P t = some ys.length := by
      unfold ZA at hok
      split at hok
      case h_2 => cases hok
      rename_i i hi
      simp only [Bool.and_eq_true, beq_iff_eq] at hok
      rw [← hok.1]; exact (hT t i hi).2.1
    generalize hax : a.eval x = ax at *
    cases hx with | ptr hn =>
    have hst := run_storeCells_at P (p.b n) q ty vy.cells.toList 0 vs w h1 (by simp; omega) hone
    simp only [Nat.add_zero] at hst
    have hget : ∀ i, (vs.toList.take q ++ vy.cells.toList ++ vs.toList.drop (q + vy.cells.toList.length))[i]? = if i < q then vs[i]? else if i < q + ys.length then vy.cells[i - q]? else vs[i]? := fun i => by
      rw [B6 _ _ (by simp; omega)]; simp [g1]
    have hgetC : ∀ i, (l.take q ++ (ys ++ l.drop (q + ys.length)))[i]? = if i < q then l[i]? else if i < q + ys.length then ys[i - q]? else l[i]? := fun i => by
      rw [← List.append_assoc, B6 _ _ hle]
    have hlen : (vs.toList.take q ++ vy.cells.toList ++ vs.toList.drop (q + vy.cells.toList.length)).length = vs.size := by simp; omega
    refine ⟨w.setRow (p.b n) (vs.toList.take q ++ vy.cells.toList ++ vs.toList.drop (q + vy.cells.toList.length)).toArray, p, .inr ⟨?_, ?_⟩⟩
    · simp only [execOp, ho, hax, hay, Instr.storeAt, Instr.sureAddr, Sem.run_bind, Sem.run_pure, Result.andThen_ok, storeVar, AU hsz, g1, ne_eq, not_true_eq_false, if_false, Sem.run_ite, hst]
    · rw [hd]
      refine ⟨R.h.setO hl rfl (by simp [World.setRow]) rfl rfl rfl (fun b hb => by unfold World.setRow; simp [Array.getElem?_modify, Ne.symm hb]) ?_, R.nt, R.dfr⟩
      refine ⟨_, ty, setRow_heap w _ vs _ ty _ h1, by simp only [List.size_toArray, hlen]; simp; omega, fun i c v hc hv => ?_, fun i v hv => ?_, fun e he => ⟨(h5 e he).1, by simp only [List.size_toArray, hlen]; exact (h5 e he).2⟩⟩
      · rw [List.getElem?_toArray, hget] at hv
        rw [hgetC] at hc
        split at hc
        · rw [if_pos ‹_›] at hv; exact h3 i c v hc hv
        · rw [if_neg ‹_›] at hv
          split at hc
          · rw [if_pos ‹_›] at hv; exact g2 _ c v hc hv
          · rw [if_neg ‹_›] at hv; exact h3 i c v hc hv
      · rw [List.getElem?_toArray, hget] at hv
        split at hv
        · exact h4 i v hv
        · split at hv
          · exact g3 _ v hv
          · exact h4 i v hv
theorem H4 (R : Aj w0 fr s a w p) {o : Oper} (hd : Co s.nt o.dst = true) {nm : Nm} {d : Nat} (hdd : o.dst = some d) {l : List CV} {ty : TypeId} (h : LM s nm d ty l = some s') {vs : Array Value} (hl : vs.size = l.length) (hr : ∀ (i : Nat) (c : CV) (v : Value), l[i]? = some c → vs[i]? = some v → RV (lvH s.hp) p c v) (h1 : ∀ (i : Nat) (v : Value), vs[i]? = some v → v.oneCell' = true)
    (hrun : (execOp a.eval o).run P w = .ok (.value (.pointer (some ⟨w.heap.size, 0, none⟩))) (w.alloc (.cells vs ty))) : Stp P w0 fr s' o a w := by
  unfold LM at h
  obtain ⟨s1, hs1, rfl⟩ := Option.map_eq_some_iff.1 h
  obtain ⟨hn, rfl⟩ := Dk hs1
  obtain ⟨f1, f2, f3, f4, f5, f6⟩ := H3 w vs ty
  obtain ⟨p', R'⟩ := R.newCells (l := l) (z := l.length) (c := 1) (m := some ty) hd hn f1 f2 f3 f4 f5 f6 (by omega) hr h1 (fun e he => by cases he; exact ⟨rfl, by omega⟩) (x := .ptr nm 0) (v := .pointer (some ⟨w.heap.size, 0, none⟩)) (fun lv' p' h1 h2 h3 => by rw [← h2]; exact .ptr h1)
  rw [← hdd]
  exact ⟨_, p', .inl ⟨_, hrun, R'⟩⟩
theorem D2 (hT : BU P T.ty) (R : Aj w0 fr s a w p) {o : Oper} (hd : Co s.nt o.dst = true) {nm : Nm} {t : TypeId} (ho : o.op = .alloc t) (h : LN T s nm o.dst t = some s') : Stp P w0 fr s' o a w := by
  unfold LN at h
  split at h
  case h_2 => cases h
  rename_i d z hdd hz
  obtain ⟨i, v, hi, hv, hsz, rfl, h1⟩ := JU hT hz
  refine H4 (ty := t) (vs := v.cells) R hd hdd h (by simp) (fun i c u hc hu => FK v.cells i c u hc hu) h1 ?_
  simp [execOp, ho, Instr.alloc, zeroValue, typeInfo, hi, hv, newVar, newRow]
theorem E8 (R : Aj w0 fr s a w p) {o : Oper} (hd : Co s.nt o.dst = true) {nm : Nm} {t : TypeId} {x : Operand} (ho : o.op = .box t x) (h : Q5 s nm o.dst t x = some s') : Stp P w0 fr s' o a w := by
  unfold Q5 at h
  split at h
  case h_2 => cases h
  rename_i d l hdd hl
  obtain ⟨g1, g2, g3⟩ := (R.opd x).one hl
  refine H4 (ty := t) (vs := (a.eval x).cells) R hd hdd h g1 g2 g3 ?_
  simp [execOp, ho, Instr.box, newVar, newRow]
end
end Go.Ev
