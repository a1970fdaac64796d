/- The value logic, part 1: pure data, what a slot holds, and how both lie in the model's memory. Conditions: none. -/
import Derived.WalkKit
import Derived.Still
import Derived.StillTail
import Derived.Below
import Derived.Maps.AppendAt
import Derived.Laws.OwnMore
import Derived.ChangeKeysEq
set_option linter.unusedSimpArgs false
set_option linter.unusedVariables false
namespace Go.Vl
open Go

/-- the block that a value stands for alone: an owned row's, a map's -/
def _root_.Go.Value.blk : Value → Option Nat
  | .map b => b
  | v => v.ownBlock
theorem own_blk {w : World} {base : Nat} {e : TypeId} {z n : Nat} {v : Value} {xs : List Value} (h : w.ownsRow base e z v n xs) : v.blk = v.ownBlock := by
  rcases h.2 with ⟨rfl, _⟩ | ⟨g, cap, cur, rfl, _⟩ <;> rfl

/-- Pure data: a cell's value without addresses; a slice is the list of its elements, each the list of its cells. -/
inductive D where
  | int (k : IntKind) (n : Int)
  | bool (b : Bool)
  | str (s : ByteArray)
  | slice (rows : List (List D))
  | nilp
  deriving Inhabited

/-- The data x lies at the value v; only blocks that are 'ok' are read. -/
inductive RD (w : World) (ok : Nat → Prop) : D → Value → Prop
  | int {k : IntKind} {n : Int} : RD w ok (.int k n) (.int k n)
  | bool {b : Bool} : RD w ok (.bool b) (.bool b)
  | str {s : ByteArray} : RD w ok (.str s) (.string s)
  | nilp : RD w ok .nilp (.pointer none)
  | snil {a : Option Addr} {c : Nat} : RD w ok (.slice []) (.slice a 0 c)
  | slice {rows : List (List D)} {a : Addr} {c : Nat} (z : Nat) (vs : Nat → Value) (hz : ∀ r ∈ rows, r.length = z) (hok : ok a.block) (hc : rows.length ≤ c)
      (hcell : ∀ j, j < rows.flatten.length → w.cell? (a.add j) = some (vs j))
      (h : ∀ j d, rows.flatten[j]? = some d → RD w ok d (vs j)) : RD w ok (.slice rows) (.slice (some a) rows.length c)

theorem block_add (a : Addr) (n : Nat) : (a.add n).block = a.block := by unfold Addr.add; split <;> rfl
theorem add_add (a : Addr) (i j : Nat) : (a.add i).add j = a.add (i + j) := by
  unfold Addr.add
  by_cases hi : i = 0 <;> by_cases hj : j = 0 <;> simp [hi, hj, Nat.add_assoc]
theorem add_zero (a : Addr) : a.add 0 = a := rfl
theorem add_blk (b o n : Nat) : (⟨b, o, none⟩ : Addr).add n = ⟨b, o + n, none⟩ := by
  unfold Addr.add; split
  · subst_vars; rfl
  · rfl

theorem RD.mono {w w' : World} {ok ok' : Nat → Prop} (hw : ∀ p : Addr, ok p.block → w'.cell? p = w.cell? p) (ho : ∀ b, ok b → ok' b) {x : D} {v : Value}
    (h : RD w ok x v) : RD w' ok' x v := by
  induction h with
  | int => exact .int
  | bool => exact .bool
  | str => exact .str
  | nilp => exact .nilp
  | snil => exact .snil
  | slice z vs hz hok hc hcell _ ih =>
    exact .slice z vs hz (ho _ hok) hc (fun j hj => (hw _ (by rw [block_add]; exact hok)).trans (hcell j hj)) ih

theorem RD.one {w : World} {ok : Nat → Prop} {x : D} {v : Value} (h : RD w ok x v) : v.oneCell' = true := by cases h <;> rfl

/-- What a slot or a cell holds: data, or a name of a local box (a variable that has an address) or of an owned row. -/
inductive AV where
  | undef
  | d (x : D)
  | nilS
  | full (rows : List (List D))
  | agg (l : List AV)
  | tup (l : List AV)
  | ptr (n o : Nat)
  | cptr (row : List D) (o : Nat)
  | vec (n : Nat)
  | vptr (n z i o : Nat)
  | cut (n z lo k : Nat)
  | slen (k : Nat)
  | fn (f : FuncId) (l : List AV)
  deriving Inhabited

/-- where the boxes and the rows lie -/
structure Pl where
  bx : Nat → Nat
  rw : Nat → Value
  lb : Nat → Prop
  lv : Nat → Prop

inductive RA (w : World) (ok : Nat → Prop) (p : Pl) : AV → Value → Prop
  | undef {v : Value} : RA w ok p .undef v
  | d {x : D} {v : Value} (h : RD w ok x v) : RA w ok p (.d x) v
  | nilS : RA w ok p .nilS (.slice none 0 0)
  | full {rows : List (List D)} {a : Option Addr} (h : RD w ok (.slice rows) (.slice a rows.length rows.length)) : RA w ok p (.full rows) (.slice a rows.length rows.length)
  | agg {l : List AV} {cs : Array Value} (hl : cs.size = l.length) (h : ∀ (i : Nat) (a : AV) (v : Value), l[i]? = some a → cs[i]? = some v → RA w ok p a v)
      (h1 : ∀ (i : Nat) (v : Value), cs[i]? = some v → v.oneCell' = true) : RA w ok p (.agg l) (.agg cs)
  | tup {l : List AV} {cs : Array Value} (hl : cs.size = l.length) (h : ∀ (i : Nat) (a : AV) (v : Value), l[i]? = some a → cs[i]? = some v → RA w ok p a v) : RA w ok p (.tup l) (.tuple cs)
  | ptr {n o : Nat} (hn : p.lb n) : RA w ok p (.ptr n o) (.pointer (some ⟨p.bx n, o, none⟩))
  | cptr {row : List D} {o : Nat} {a : Addr} (vs : Nat → Value) (hok : ok a.block) (hcell : ∀ j, j < row.length → w.cell? (a.add j) = some (vs j))
      (h : ∀ j x, row[j]? = some x → RD w ok x (vs j)) : RA w ok p (.cptr row o) (.pointer (some (a.add o)))
  | vec {n : Nat} (hn : p.lv n) : RA w ok p (.vec n) (p.rw n)
  | vptr {n z i o g c len : Nat} (hn : p.lv n) (hv : p.rw n = .slice (some ⟨g, 0, none⟩) len c) : RA w ok p (.vptr n z i o) (.pointer (some ⟨g, i * z + o, none⟩))
  | cut {n z lo k o g c len : Nat} (hn : p.lv n) (hv : p.rw n = .slice (some ⟨g, 0, none⟩) len c) (ho : (k = 0 ∨ o = lo * z) ∧ (lo = 0 → o = 0)) (hle : lo + k ≤ len) : RA w ok p (.cut n z lo k) (.slice (some ⟨g, o, none⟩) k (c - lo))
  | cut0 {n z : Nat} (hn : p.lv n) (hv : p.rw n = .slice none 0 0) : RA w ok p (.cut n z 0 0) (.slice none 0 0)
  | slen {k c : Nat} {a : Option Addr} : RA w ok p (.slen k) (.slice a k c)
  | fn {f : FuncId} {l : List AV} {cs : Array Value} (hl : cs.size = l.length) (h : ∀ (i : Nat) (a : AV) (v : Value), l[i]? = some a → cs[i]? = some v → RA w ok p a v) : RA w ok p (.fn f l) (.func (.func f) #[] cs)

theorem RA.ptr_at {w : World} {ok : Nat → Prop} {p : Pl} {n o b : Nat} (hn : p.lb n) (hb : p.bx n = b) : RA w ok p (.ptr n o) (.pointer (some ⟨b, o, none⟩)) := by subst hb; exact .ptr hn
theorem RA.vec_at {w : World} {ok : Nat → Prop} {p : Pl} {n : Nat} {v : Value} (hn : p.lv n) (hb : p.rw n = v) : RA w ok p (.vec n) v := by subst hb; exact .vec hn

theorem RA.mono {w w' : World} {ok ok' : Nat → Prop} {p p' : Pl} (hw : ∀ q : Addr, ok q.block → w'.cell? q = w.cell? q) (ho : ∀ b, ok b → ok' b)
    (hb : ∀ n, p.lb n → p'.lb n ∧ p'.bx n = p.bx n) (hv : ∀ n, p.lv n → p'.lv n ∧ p'.rw n = p.rw n) {x : AV} {v : Value} (h : RA w ok p x v) : RA w' ok' p' x v := by
  induction h with
  | undef => exact .undef
  | d h => exact .d (h.mono hw ho)
  | nilS => exact .nilS
  | full h => exact .full (h.mono hw ho)
  | agg hl _ h1 ih => exact .agg hl ih h1
  | tup hl _ ih => exact .tup hl ih
  | ptr hn => obtain ⟨h1, h2⟩ := hb _ hn; rw [← h2]; exact .ptr h1
  | cptr vs hok hcell h => exact .cptr vs (ho _ hok) (fun j hj => (hw _ (by rw [block_add]; exact hok)).trans (hcell j hj)) (fun j x hx => (h j x hx).mono hw ho)
  | vec hn => obtain ⟨h1, h2⟩ := hv _ hn; rw [← h2]; exact .vec h1
  | vptr hn he => obtain ⟨h1, h2⟩ := hv _ hn; exact .vptr h1 (h2.trans he)
  | cut hn he ho hle => obtain ⟨h1, h2⟩ := hv _ hn; exact .cut h1 (h2.trans he) ho hle
  | cut0 hn he => obtain ⟨h1, h2⟩ := hv _ hn; exact .cut0 h1 (h2.trans he)
  | slen => exact .slen
  | fn hl _ ih => exact .fn hl ih

/-! Names that are used -/
mutual
def AV.wf (lb lv : Nat → Bool) : AV → Bool
  | .ptr n _ => lb n
  | .vec n => lv n
  | .vptr n _ _ _ => lv n
  | .cut n _ _ _ => lv n
  | .agg l => AV.wfL lb lv l
  | .tup l => AV.wfL lb lv l
  | .fn _ l => AV.wfL lb lv l
  | _ => true
def AV.wfL (lb lv : Nat → Bool) : List AV → Bool
  | [] => true
  | x :: l => AV.wf lb lv x && AV.wfL lb lv l
end

theorem AV.wfL_get {lb lv : Nat → Bool} : ∀ {l : List AV}, AV.wfL lb lv l = true → ∀ {i : Nat} {x : AV}, l[i]? = some x → AV.wf lb lv x = true
  | [], _, i, x, h => by simp at h
  | y :: l, hl, i, x, h => by
    simp only [AV.wfL, Bool.and_eq_true] at hl
    cases i with
    | zero => simp at h; subst h; exact hl.1
    | succ i => exact AV.wfL_get hl.2 (by simpa using h)

/-- Fewer names are live behind a forgetting. -/
theorem RA.less {w w' : World} {ok ok' : Nat → Prop} {p p' : Pl} {lb lv : Nat → Bool} (hw : ∀ q : Addr, ok q.block → w'.cell? q = w.cell? q) (ho : ∀ b, ok b → ok' b)
    (hb : ∀ n, lb n = true → p.lb n → p'.lb n ∧ p'.bx n = p.bx n) (hv : ∀ n, lv n = true → p.lv n → p'.lv n ∧ p'.rw n = p.rw n) {x : AV} {v : Value} (h : RA w ok p x v) (hx : x.wf lb lv = true) : RA w' ok' p' x v := by
  induction h with
  | undef => exact .undef
  | d h => exact .d (h.mono hw ho)
  | nilS => exact .nilS
  | full h => exact .full (h.mono hw ho)
  | agg hl _ h1 ih => exact .agg hl (fun i a v ha hv' => ih i a v ha hv' (AV.wfL_get (by simpa [AV.wf] using hx) ha)) h1
  | tup hl _ ih => exact .tup hl (fun i a v ha hv' => ih i a v ha hv' (AV.wfL_get (by simpa [AV.wf] using hx) ha))
  | ptr hn => obtain ⟨h1, h2⟩ := hb _ (by simpa [AV.wf] using hx) hn; rw [← h2]; exact .ptr h1
  | cptr vs hok hcell h => exact .cptr vs (ho _ hok) (fun j hj => (hw _ (by rw [block_add]; exact hok)).trans (hcell j hj)) (fun j x hx => (h j x hx).mono hw ho)
  | vec hn => obtain ⟨h1, h2⟩ := hv _ (by simpa [AV.wf] using hx) hn; rw [← h2]; exact .vec h1
  | vptr hn he => obtain ⟨h1, h2⟩ := hv _ (by simpa [AV.wf] using hx) hn; exact .vptr h1 (h2.trans he)
  | cut hn he ho hle => obtain ⟨h1, h2⟩ := hv _ (by simpa [AV.wf] using hx) hn; exact .cut h1 (h2.trans he) ho hle
  | cut0 hn he => obtain ⟨h1, h2⟩ := hv _ (by simpa [AV.wf] using hx) hn; exact .cut0 h1 (h2.trans he)
  | slen => exact .slen
  | fn hl _ ih => exact .fn hl (fun i a v ha hv' => ih i a v ha hv' (AV.wfL_get (by simpa [AV.wf] using hx) ha))

/-! Association lists -/
def get {α : Type} : List (Nat × α) → Nat → Option α
  | [], _ => none
  | (k, v) :: l, t => if k = t then some v else get l t
def del {α : Type} : List (Nat × α) → Nat → List (Nat × α)
  | [], _ => []
  | (k, v) :: l, t => if k = t then del l t else (k, v) :: del l t
def mapv {α β : Type} (f : α → β) : List (Nat × α) → List (Nat × β)
  | [] => []
  | (k, v) :: l => (k, f v) :: mapv f l
theorem get_del {α : Type} (l : List (Nat × α)) (t s : Nat) : get (del l t) s = if t = s then none else get l s := by
  induction l with
  | nil => simp [get, del]
  | cons x l ih =>
    obtain ⟨k, v⟩ := x
    simp only [del]
    split
    · subst_vars; rw [ih]; simp only [get]; split <;> rfl
    · simp only [get]; split
      · subst_vars; rw [if_neg (by omega)]
      · exact ih
theorem get_mapv {α β : Type} (f : α → β) (l : List (Nat × α)) (t : Nat) : get (mapv f l) t = (get l t).map f := by
  induction l with
  | nil => rfl
  | cons x l ih =>
    obtain ⟨k, v⟩ := x
    simp only [mapv, get]
    split
    · rfl
    · exact ih

/-- an owned row: its elements' type, the cells of an element, the elements -/
structure VS where
  e : TypeId
  z : Nat
  rows : List (List D)

/-- maps lie among the rows: the tag tells the map's type, how many cells a key has, and whether a key, and a value, is a struct or an array -/
def mTag (t kz : Nat) (ka va : Bool) : Nat := 1000000 + (((t * 64 + kz) * 2 + ka.toNat) * 2 + va.toNat)
def VS.isM (s : VS) : Bool := decide (1000000 ≤ s.e)
def VS.kz (s : VS) : Nat := (s.e - 1000000) / 4 % 64
def VS.ka (s : VS) : Bool := (s.e - 1000000) / 2 % 2 == 1
def VS.va (s : VS) : Bool := (s.e - 1000000) % 2 == 1
def PackD (w : World) (ok : Nat → Prop) (ag : Bool) (ds : List D) (v : Value) : Prop :=
  if ag = true then ∃ cs : Array Value, v = .agg cs ∧ cs.size = ds.length ∧ ∀ (i : Nat) (d : D) (u : Value), ds[i]? = some d → cs[i]? = some u → RD w ok d u else ∃ d, ds = [d] ∧ RD w ok d v
structure MapR (w : World) (ok : Nat → Prop) (s : VS) (es : Array MapEntry) (clock : Nat) : Prop where
  size : es.size = s.rows.length
  row : ∀ (j : Nat) (row : List D) (e : MapEntry), s.rows[j]? = some row → es[j]? = some e → PackD w ok s.ka (row.take s.kz) e.key ∧ PackD w ok s.va (row.drop s.kz) e.val
  born : ∀ e ∈ es.toList, e.born < clock
  nodup : (es.toList.map (·.born)).Nodup
/-- an owned row, or a map, lies at v -/
def VRow (w : World) (ok : Nat → Prop) (s : VS) (v : Value) : Prop :=
  if s.isM = true then ∃ (b : Nat) (es : Array MapEntry) (clock : Nat), v = .map (some b) ∧ w.heap[b]? = some (.map es clock) ∧ MapR w ok s es clock
  else ∃ xs : List Value, w.ownsRow 0 s.e s.z v s.rows.length xs ∧ ∀ (j : Nat) (d : D) (u : Value), s.rows.flatten[j]? = some d → xs[j]? = some u → RD w ok d u
theorem VRow.row {w : World} {ok : Nat → Prop} {s : VS} {v : Value} (h : VRow w ok s v) (hs : s.isM = false) : ∃ xs : List Value, w.ownsRow 0 s.e s.z v s.rows.length xs ∧ ∀ (j : Nat) (d : D) (u : Value), s.rows.flatten[j]? = some d → xs[j]? = some u → RD w ok d u := by
  unfold VRow at h; rwa [if_neg (by rw [hs]; decide)] at h
theorem VRow.of {w : World} {ok : Nat → Prop} {s : VS} {v : Value} (hs : s.isM = false) (h : ∃ xs : List Value, w.ownsRow 0 s.e s.z v s.rows.length xs ∧ ∀ (j : Nat) (d : D) (u : Value), s.rows.flatten[j]? = some d → xs[j]? = some u → RD w ok d u) : VRow w ok s v := by
  unfold VRow; rwa [if_neg (by rw [hs]; decide)]
theorem VRow.map {w : World} {ok : Nat → Prop} {s : VS} {v : Value} (h : VRow w ok s v) (hs : s.isM = true) : ∃ (b : Nat) (es : Array MapEntry) (clock : Nat), v = .map (some b) ∧ w.heap[b]? = some (.map es clock) ∧ MapR w ok s es clock := by
  unfold VRow at h; rwa [if_pos hs] at h
theorem VRow.ofM {w : World} {ok : Nat → Prop} {s : VS} {v : Value} (hs : s.isM = true) (h : ∃ (b : Nat) (es : Array MapEntry) (clock : Nat), v = .map (some b) ∧ w.heap[b]? = some (.map es clock) ∧ MapR w ok s es clock) : VRow w ok s v := by
  unfold VRow; rwa [if_pos hs]
theorem PackD.mono {w w' : World} {ok ok' : Nat → Prop} (hw : ∀ q : Addr, ok q.block → w'.cell? q = w.cell? q) (ho : ∀ b, ok b → ok' b) {ag : Bool} {ds : List D} {v : Value} (h : PackD w ok ag ds v) : PackD w' ok' ag ds v := by
  unfold PackD at h ⊢
  split at h
  · rename_i ha
    rw [if_pos ha]
    obtain ⟨cs, h1, h2, h3⟩ := h
    exact ⟨cs, h1, h2, fun i d u hd hu => (h3 i d u hd hu).mono hw ho⟩
  · rename_i ha
    rw [if_neg ha]
    obtain ⟨d, h1, h2⟩ := h
    exact ⟨d, h1, h2.mono hw ho⟩
theorem pack_mono {w w' : World} {ok ok' : Nat → Prop} (hw : ∀ q : Addr, ok q.block → w'.cell? q = w.cell? q) (ho : ∀ b, ok b → ok' b) (f g : VS → Bool) (k : VS → Nat) (s : VS) {r : List D} {u v : Value} (h : PackD w ok (f s) (r.take (k s)) u ∧ PackD w ok (g s) (r.drop (k s)) v) : PackD w' ok' (f s) (r.take (k s)) u ∧ PackD w' ok' (g s) (r.drop (k s)) v :=
  ⟨PackD.mono hw ho h.1, PackD.mono hw ho h.2⟩
theorem MapR.mono {w w' : World} {ok ok' : Nat → Prop} (hw : ∀ q : Addr, ok q.block → w'.cell? q = w.cell? q) (ho : ∀ b, ok b → ok' b) {s : VS} {es : Array MapEntry} {clock : Nat} (h : MapR w ok s es clock) : MapR w' ok' s es clock :=
  { size := h.size
    row := fun j r e hr he => by
      exact pack_mono hw ho VS.ka VS.va VS.kz s (h.row j r e hr he)
    born := h.born
    nodup := h.nodup }
theorem ownsRow_congr {w w' : World} {base : Nat} {e : TypeId} {z n : Nat} {v : Value} {xs : List Value} (h : w.ownsRow base e z v n xs) (hg : ∀ g, v.blk = some g → w'.heap[g]? = w.heap[g]?) : w'.ownsRow base e z v n xs := by
  refine ⟨h.1, ?_⟩
  rcases h.2 with h0 | ⟨g, cap, cur, rfl, hb, hh, rest⟩
  · exact .inl h0
  · exact .inr ⟨g, cap, cur, rfl, hb, (hg g rfl).trans hh, rest⟩
theorem VRow.mono {w w' : World} {ok ok' : Nat → Prop} (hw : ∀ q : Addr, ok q.block → w'.cell? q = w.cell? q) (ho : ∀ b, ok b → ok' b) {s : VS} {v : Value} (hb : ∀ g, v.blk = some g → w'.heap[g]? = w.heap[g]?) (h : VRow w ok s v) : VRow w' ok' s v := by
  cases hs : s.isM with
  | true =>
    obtain ⟨b, es, clock, rfl, h1, h2⟩ := h.map hs
    exact .ofM hs ⟨b, es, clock, rfl, (hb b rfl).trans h1, h2.mono hw ho⟩
  | false =>
    obtain ⟨xs, h1, h2⟩ := h.row hs
    exact .of hs ⟨xs, ownsRow_congr h1 hb, fun j d u hd hu => (h2 j d u hd hu).mono hw ho⟩
theorem VRow.lt {w : World} {ok : Nat → Prop} {s : VS} {v : Value} (h : VRow w ok s v) {g : Nat} (hg : v.blk = some g) : g < w.heap.size := by
  cases hs : s.isM with
  | true =>
    obtain ⟨b, es, clock, rfl, h1, _⟩ := h.map hs
    cases hg
    exact (Array.getElem?_eq_some_iff.1 h1).1
  | false =>
    obtain ⟨xs, h1, _⟩ := h.row hs
    rw [own_blk h1] at hg
    exact (h1.lt g hg).2
theorem VRow.sl {w : World} {ok : Nat → Prop} {s : VS} {v : Value} (h : VRow w ok s v) {a : Option Addr} {l c : Nat} (hv : v = .slice a l c) : s.isM = false := by
  cases hs : s.isM with
  | false => rfl
  | true => obtain ⟨b, es, clock, e, _⟩ := h.map hs; rw [hv] at e; cases e
theorem VRow.one {w : World} {ok : Nat → Prop} {s : VS} {v : Value} (h : VRow w ok s v) : v.oneCell' = true := by
  cases hs : s.isM with
  | true => obtain ⟨b, es, clock, rfl, h1, _⟩ := h.map hs; rfl
  | false =>
    obtain ⟨xs, h1, _⟩ := h.row hs
    rcases h1.2 with ⟨rfl, _⟩ | ⟨g, cap, cur, rfl, _⟩ <;> rfl

structure St where
  nt : Nat
  env : List (Nat × AV)
  box : List (Nat × List AV)
  vec : List (Nat × VS)

def St.lb (st : St) (n : Nat) : Bool := (get st.box n).isSome
def St.lv (st : St) (n : Nat) : Bool := (get st.vec n).isSome
def St.put (st : St) (t : Nat) (x : AV) : St := { st with env := (t, x) :: st.env }
def St.look (st : St) (t : Nat) : AV := (get st.env t).getD .undef

/-- what is fixed for a call: the world in which it began, the blocks that may be read, those that come in to be written -/
structure Ctx where
  w0 : World
  ok0 : Nat → Prop
  ios : List Nat
  ivs : List Nat
def Ctx.io (K : Ctx) (b : Nat) : Prop := b ∈ K.ios ∨ b ∈ K.ivs
/-- where owned rows may begin -/
def Ctx.base (_ : Ctx) : Nat := 0
/-- the name of the i-th box that comes in -/
def InO (i : Nat) : Nat := 1000000 + i
/-- the name of the i-th row that comes in -/
def InV (i : Nat) : Nat := 2000000 + i

def St.pl (st : St) (bx : Nat → Nat) (rw : Nat → Value) : Pl := ⟨bx, rw, fun n => st.lb n = true, fun n => st.lv n = true⟩

/-- the blocks that may be read and that nobody writes any more -/
def okc (K : Ctx) (w : World) (p : Pl) (b : Nat) : Prop :=
  b < w.heap.size ∧ (K.ok0 b ∨ K.w0.heap.size ≤ b ∨ b ∈ K.ivs) ∧ (∀ n, p.lb n → b ≠ p.bx n) ∧ ∀ n, p.lv n → (p.rw n).blk ≠ some b

structure BoxAt (K : Ctx) (w : World) (p : Pl) (n : Nat) (cs : List AV) : Prop where
  at_ : ∃ (vs : Array Value) (ty : TypeId), w.heap[p.bx n]? = some (.cells vs ty (0, 0)) ∧ vs.size = cs.length ∧
    (∀ (i : Nat) (c : AV) (v : Value), cs[i]? = some c → vs[i]? = some v → RA w (okc K w p) p c v) ∧ ∀ (i : Nat) (v : Value), vs[i]? = some v → v.oneCell' = true
  mine : K.w0.heap.size ≤ p.bx n ∨ K.io (p.bx n)

structure VecAt (K : Ctx) (w : World) (p : Pl) (n : Nat) (s : VS) : Prop where
  at_ : VRow w (okc K w p) s (p.rw n)
  hz : ∀ r ∈ s.rows, r.length = s.z
  mine : ∀ g, (p.rw n).blk = some g → K.w0.heap.size ≤ g ∨ g ∈ K.ivs

structure Rel (K : Ctx) (st : St) (a : Act) (w : World) (p : Pl) : Prop where
  lb : p.lb = fun n => st.lb n = true
  lv : p.lv = fun n => st.lv n = true
  dfr : a.defers = []
  nt : a.tmps.size = st.nt
  ntl : st.nt ≤ 1000000
  ion : ∀ i : Nat, p.lb (InO i) → K.ios[i]? = some (p.bx (InO i))
  size : K.w0.heap.size ≤ w.heap.size
  os : w.os = K.w0.os
  tape : w.tape = K.w0.tape
  output : w.output = K.w0.output
  old : ∀ b, b < K.w0.heap.size → ¬ K.io b → w.heap[b]? = K.w0.heap[b]?
  env : ∀ t x, get st.env t = some x → RA w (okc K w p) p x (a.tmps.getD t undef)
  box : ∀ n cs, get st.box n = some cs → BoxAt K w p n cs
  vec : ∀ n s, get st.vec n = some s → VecAt K w p n s
  dbb : ∀ n m, p.lb n → p.lb m → n ≠ m → p.bx n ≠ p.bx m
  dbv : ∀ n m, p.lb n → p.lv m → (p.rw m).blk ≠ some (p.bx n)
  dvv : ∀ n m, p.lv n → p.lv m → n ≠ m → (p.rw n).blk = none ∨ (p.rw n).blk ≠ (p.rw m).blk

end Go.Vl
