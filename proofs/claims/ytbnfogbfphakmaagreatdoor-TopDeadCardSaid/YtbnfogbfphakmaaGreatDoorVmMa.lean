/- The value logic, part 1: pure data, what a slot holds, and how both lie in the model's memory. Conditions: none. -/
import Derived.WalkKit
import Derived.Still
import Derived.StillTail
import Derived.Below
import Derived.Maps.AppendAt
import Derived.Laws.OwnMore
import Derived.ChangeKeysEq
import Derived.Laws.BytesString
import Derived.Calls
set_option linter.unusedSimpArgs false
set_option linter.unusedVariables false
namespace Go.Vl
open Go

def _root_.Go.Value.blk : Value → Option Nat
  | .map b => b
  | v => v.ownBlock
theorem IS {w : World} {base : Nat} {e : TypeId} {z n : Nat} {v : Value} {xs : List Value} (h : w.ownsRow base e z v n xs) : v.blk = v.ownBlock := by
  rcases h.2 with ⟨rfl, _⟩ | ⟨g, cap, cur, rfl, _⟩ <;> rfl

def Ll (w : World) (b : Nat) : Option (Array MapEntry × Nat) := match w.heap[b]? with
  | some (.map es c) => some (es, c)
  | _ => none
def see (w : World) (q : Addr) : Option Value × Option (Array MapEntry × Nat) := (w.cell? q, Ll w q.block)
theorem Aq {w w' : World} {q : Addr} (h : w'.heap[q.block]? = w.heap[q.block]?) : see w' q = see w q := by
  unfold see Ll; rw [World.cell?_of_block h, h]
theorem Ie (w : World) (g : Nat) (cs : Array Value) (q : Addr) (h : q.block ≠ g) : see (w.setRow g cs) q = see w q :=
  Aq (by unfold World.setRow; simp [Array.getElem?_modify, Ne.symm h])
theorem GI {w w' : World} {q : Addr} (h : see w' q = see w q) : w'.cell? q = w.cell? q := congrArg Prod.fst h
theorem Sv {w w' : World} {b : Nat} (h : see w' ⟨b, 0, none⟩ = see w ⟨b, 0, none⟩) : Ll w' b = Ll w b := congrArg Prod.snd h

@[simp] def dr0 (_ : World) : Nat := 0
inductive D where
  | int (k : IntKind) (n : Int)
  | bool (b : Bool)
  | str (s : ByteArray)
  | slice (rows : List (List D))
  | nilp
  | mp (e z : Nat) (rows : List (List D))
  deriving Inhabited

def tkz (e : Nat) : Nat := (e - 1000000) / 4 % 64
def tka (e : Nat) : Bool := (e - 1000000) / 2 % 2 == 1
def tva (e : Nat) : Bool := (e - 1000000) % 2 == 1
def Fu (ag : Bool) (n : Nat) (f : Nat → Value) (v : Value) : Prop :=
  if ag = true then ∃ cs : Array Value, v = .agg cs ∧ cs.size = n ∧ ∀ i, i < n → cs[i]? = some (f i) else n = 1 ∧ v = f 0

inductive RD (w : World) (ok : Nat → Prop) : D → Value → Prop
  | int {k : IntKind} {n : Int} : RD w ok (.int k n) (.int k n)
  | bool {b : Bool} : RD w ok (.bool b) (.bool b)
  | str {s : ByteArray} : RD w ok (.str s) (.string s)
  | nilp : RD w ok .nilp (.pointer none)
  | snil {a : Option Addr} {c : Nat} : RD w ok (.slice []) (.slice a 0 c)
  | slice {rows : List (List D)} {a : Addr} {c : Nat} (z : Nat) (vs : Nat → Value) (hz : ∀ r ∈ rows, r.length = z) (hok : ok a.block) (hc : rows.length ≤ c)
      (hcell : ∀ j, j < rows.flatten.length → w.cell? (a.add j) = some (vs j))
      (h : ∀ j d, rows.flatten[j]? = some d → RD w ok d (vs j)) : RD w ok (.slice rows) (.slice (some a) rows.length c)
  | mp {e z : Nat} {rows : List (List D)} {b clock : Nat} {es : Array MapEntry} (vs : Nat → Nat → Value) (hM : 1000000 ≤ e) (hok : ok b) (hb : Ll w b = some (es, clock)) (hs : es.size = rows.length) (hz : ∀ r ∈ rows, r.length = z)
      (hen : ∀ (j : Nat) (r : List D) (en : MapEntry), rows[j]? = some r → es[j]? = some en → Fu (tka e) (r.take (tkz e)).length (vs j) en.key ∧ Fu (tva e) (r.drop (tkz e)).length (fun i => vs j (tkz e + i)) en.val)
      (hbn : ∀ en ∈ es.toList, en.born < clock) (hnd : (es.toList.map (·.born)).Nodup)
      (h : ∀ (j i : Nat) (r : List D) (d : D), rows[j]? = some r → r[i]? = some d → RD w ok d (vs j i)) : RD w ok (.mp e z rows) (.map (some b))

theorem block_add (a : Addr) (n : Nat) : (a.add n).block = a.block := by unfold Addr.add; split <;> rfl
theorem add_add (a : Addr) (i j : Nat) : (a.add i).add j = a.add (i + j) := by
  unfold Addr.add
  by_cases hi : i = 0 <;> by_cases hj : j = 0 <;> simp [hi, hj, Nat.add_assoc]
theorem add_zero (a : Addr) : a.add 0 = a := rfl
theorem Ah (b o n : Nat) : (⟨b, o, none⟩ : Addr).add n = ⟨b, o + n, none⟩ := by
  unfold Addr.add; split
  · subst_vars; rfl
  · rfl

theorem RD.mono {w w' : World} {ok ok' : Nat → Prop} (hw : ∀ p : Addr, ok p.block → see w' p = see w p) (ho : ∀ b, ok b → ok' b) {x : D} {v : Value}
    (h : RD w ok x v) : RD w' ok' x v := by
  induction h with
  | int => exact .int
  | bool => exact .bool
  | str => exact .str
  | nilp => exact .nilp
  | snil => exact .snil
  | slice z vs hz hok hc hcell _ ih =>
    exact .slice z vs hz (ho _ hok) hc (fun j hj => (GI (hw _ (by rw [block_add]; exact hok))).trans (hcell j hj)) ih
  | mp vs hM hok hb hs hz hen hbn hnd _ ih => exact .mp vs hM (ho _ hok) ((Sv (hw _ hok)).trans hb) hs hz hen hbn hnd ih

theorem RD.one {w : World} {ok : Nat → Prop} {x : D} {v : Value} (h : RD w ok x v) : v.oneCell' = true := by cases h <;> rfl

inductive AV where
  | undef
  | d (x : D)
  | nilS
  | full (rows : List (List D))
  | agg (l : List AV)
  | tup (l : List AV)
  | ptr (n o : Nat)
  | cptr (row : List D) (o : Nat)
  | vec (n : Nat)
  | vptr (n z i o : Nat)
  | cut (n z lo k : Nat)
  | slen (k : Nat)
  | iter (r : Nat)
  | fn (f : FuncId) (l : List AV)
  deriving Inhabited

structure Pl where
  bx : Nat → Nat
  rw : Nat → Value
  lb : Nat → Prop
  lv : Nat → Prop

inductive RA (w : World) (ok : Nat → Prop) (p : Pl) : AV → Value → Prop
  | undef {v : Value} : RA w ok p .undef v
  | d {x : D} {v : Value} (h : RD w ok x v) : RA w ok p (.d x) v
  | nilS : RA w ok p .nilS (.slice none 0 0)
  | full {rows : List (List D)} {a : Option Addr} (h : RD w ok (.slice rows) (.slice a rows.length rows.length)) : RA w ok p (.full rows) (.slice a rows.length rows.length)
  | agg {l : List AV} {cs : Array Value} (hl : cs.size = l.length) (h : ∀ (i : Nat) (a : AV) (v : Value), l[i]? = some a → cs[i]? = some v → RA w ok p a v)
      (h1 : ∀ (i : Nat) (v : Value), cs[i]? = some v → v.oneCell' = true) : RA w ok p (.agg l) (.agg cs)
  | tup {l : List AV} {cs : Array Value} (hl : cs.size = l.length) (h : ∀ (i : Nat) (a : AV) (v : Value), l[i]? = some a → cs[i]? = some v → RA w ok p a v) : RA w ok p (.tup l) (.tuple cs)
  | ptr {n o : Nat} (hn : p.lb n) : RA w ok p (.ptr n o) (.pointer (some ⟨p.bx n, o, none⟩))
  | cptr {row : List D} {o : Nat} {a : Addr} (vs : Nat → Value) (hok : ok a.block) (hcell : ∀ j, j < row.length → w.cell? (a.add j) = some (vs j))
      (h : ∀ j x, row[j]? = some x → RD w ok x (vs j)) : RA w ok p (.cptr row o) (.pointer (some (a.add o)))
  | vec {n : Nat} (hn : p.lv n) : RA w ok p (.vec n) (p.rw n)
  | vptr {n z i o g c len : Nat} (hn : p.lv n) (hv : p.rw n = .slice (some ⟨g, 0, none⟩) len c) : RA w ok p (.vptr n z i o) (.pointer (some ⟨g, i * z + o, none⟩))
  | cut {n z lo k o g c len : Nat} (hn : p.lv n) (hv : p.rw n = .slice (some ⟨g, 0, none⟩) len c) (ho : (k = 0 ∨ o = lo * z) ∧ (lo = 0 → o = 0)) (hle : lo + k ≤ len) : RA w ok p (.cut n z lo k) (.slice (some ⟨g, o, none⟩) k (c - lo))
  | cut0 {n z : Nat} (hn : p.lv n) (hv : p.rw n = .slice none 0 0) : RA w ok p (.cut n z 0 0) (.slice none 0 0)
  | slen {k c : Nat} {a : Option Addr} : RA w ok p (.slen k) (.slice a k c)
  | iter {r : Nat} : RA w ok p (.iter r) (.pointer (some ⟨r, 0, none⟩))
  | fn {f : FuncId} {l : List AV} {cs : Array Value} (hl : cs.size = l.length) (h : ∀ (i : Nat) (a : AV) (v : Value), l[i]? = some a → cs[i]? = some v → RA w ok p a v) : RA w ok p (.fn f l) (.func (.func f) #[] cs)

theorem RA.ptr_at {w : World} {ok : Nat → Prop} {p : Pl} {n o b : Nat} (hn : p.lb n) (hb : p.bx n = b) : RA w ok p (.ptr n o) (.pointer (some ⟨b, o, none⟩)) := by subst hb; exact .ptr hn
theorem RA.vec_at {w : World} {ok : Nat → Prop} {p : Pl} {n : Nat} {v : Value} (hn : p.lv n) (hb : p.rw n = v) : RA w ok p (.vec n) v := by subst hb; exact .vec hn

theorem RA.mono {w w' : World} {ok ok' : Nat → Prop} {p p' : Pl} (hw : ∀ q : Addr, ok q.block → see w' q = see w q) (ho : ∀ b, ok b → ok' b)
    (hb : ∀ n, p.lb n → p'.lb n ∧ p'.bx n = p.bx n) (hv : ∀ n, p.lv n → p'.lv n ∧ p'.rw n = p.rw n) {x : AV} {v : Value} (h : RA w ok p x v) : RA w' ok' p' x v := by
  induction h with
  | undef => exact .undef
  | d h => exact .d (h.mono hw ho)
  | nilS => exact .nilS
  | full h => exact .full (h.mono hw ho)
  | agg hl _ h1 ih => exact .agg hl ih h1
  | tup hl _ ih => exact .tup hl ih
  | ptr hn => obtain ⟨h1, h2⟩ := hb _ hn; rw [← h2]; exact .ptr h1
  | cptr vs hok hcell h => exact .cptr vs (ho _ hok) (fun j hj => (GI (hw _ (by rw [block_add]; exact hok))).trans (hcell j hj)) (fun j x hx => (h j x hx).mono hw ho)
  | vec hn => obtain ⟨h1, h2⟩ := hv _ hn; rw [← h2]; exact .vec h1
  | vptr hn he => obtain ⟨h1, h2⟩ := hv _ hn; exact .vptr h1 (h2.trans he)
  | cut hn he ho hle => obtain ⟨h1, h2⟩ := hv _ hn; exact .cut h1 (h2.trans he) ho hle
  | cut0 hn he => obtain ⟨h1, h2⟩ := hv _ hn; exact .cut0 h1 (h2.trans he)
  | slen => exact .slen
  | iter => exact .iter
  | fn hl _ ih => exact .fn hl ih

mutual
def AV.wf (lb lv : Nat → Bool) : AV → Bool
  | .ptr n _ => lb n
  | .vec n => lv n
  | .vptr n _ _ _ => lv n
  | .cut n _ _ _ => lv n
  | .agg l => AV.wfL lb lv l
  | .tup l => AV.wfL lb lv l
  | .fn _ l => AV.wfL lb lv l
  | _ => true
def AV.wfL (lb lv : Nat → Bool) : List AV → Bool
  | [] => true
  | x :: l => AV.wf lb lv x && AV.wfL lb lv l
end

theorem AV.wfL_get {lb lv : Nat → Bool} : ∀ {l : List AV}, AV.wfL lb lv l = true → ∀ {i : Nat} {x : AV}, l[i]? = some x → AV.wf lb lv x = true
  | [], _, i, x, h => by simp at h
  | y :: l, hl, i, x, h => by
    simp only [AV.wfL, Bool.and_eq_true] at hl
    cases i with
    | zero => simp at h; subst h; exact hl.1
    | succ i => exact AV.wfL_get hl.2 (by simpa using h)

theorem RA.less {w w' : World} {ok ok' : Nat → Prop} {p p' : Pl} {lb lv : Nat → Bool} (hw : ∀ q : Addr, ok q.block → see w' q = see w q) (ho : ∀ b, ok b → ok' b)
    (hb : ∀ n, lb n = true → p.lb n → p'.lb n ∧ p'.bx n = p.bx n) (hv : ∀ n, lv n = true → p.lv n → p'.lv n ∧ p'.rw n = p.rw n) {x : AV} {v : Value} (h : RA w ok p x v) (hx : x.wf lb lv = true) : RA w' ok' p' x v := by
  induction h with
  | undef => exact .undef
  | d h => exact .d (h.mono hw ho)
  | nilS => exact .nilS
  | full h => exact .full (h.mono hw ho)
  | agg hl _ h1 ih => exact .agg hl (fun i a v ha hv' => ih i a v ha hv' (AV.wfL_get (by simpa [AV.wf] using hx) ha)) h1
  | tup hl _ ih => exact .tup hl (fun i a v ha hv' => ih i a v ha hv' (AV.wfL_get (by simpa [AV.wf] using hx) ha))
  | ptr hn => obtain ⟨h1, h2⟩ := hb _ (by simpa [AV.wf] using hx) hn; rw [← h2]; exact .ptr h1
  | cptr vs hok hcell h => exact .cptr vs (ho _ hok) (fun j hj => (GI (hw _ (by rw [block_add]; exact hok))).trans (hcell j hj)) (fun j x hx => (h j x hx).mono hw ho)
  | vec hn => obtain ⟨h1, h2⟩ := hv _ (by simpa [AV.wf] using hx) hn; rw [← h2]; exact .vec h1
  | vptr hn he => obtain ⟨h1, h2⟩ := hv _ (by simpa [AV.wf] using hx) hn; exact .vptr h1 (h2.trans he)
  | cut hn he ho hle => obtain ⟨h1, h2⟩ := hv _ (by simpa [AV.wf] using hx) hn; exact .cut h1 (h2.trans he) ho hle
  | cut0 hn he => obtain ⟨h1, h2⟩ := hv _ (by simpa [AV.wf] using hx) hn; exact .cut0 h1 (h2.trans he)
  | slen => exact .slen
  | iter => exact .iter
  | fn hl _ ih => exact .fn hl (fun i a v ha hv' => ih i a v ha hv' (AV.wfL_get (by simpa [AV.wf] using hx) ha))

def get {α : Type} : List (Nat × α) → Nat → Option α
  | [], _ => none
  | (k, v) :: l, t => if k = t then some v else get l t
def del {α : Type} : List (Nat × α) → Nat → List (Nat × α)
  | [], _ => []
  | (k, v) :: l, t => if k = t then del l t else (k, v) :: del l t
def Bl {α β : Type} (f : α → β) : List (Nat × α) → List (Nat × β)
  | [] => []
  | (k, v) :: l => (k, f v) :: Bl f l
theorem Av {α : Type} (l : List (Nat × α)) (t s : Nat) : get (del l t) s = if t = s then none else get l s := by
  induction l with
  | nil => simp [get, del]
  | cons x l ih =>
    obtain ⟨k, v⟩ := x
    simp only [del]
    split
    · subst_vars; rw [ih]; simp only [get]; split <;> rfl
    · simp only [get]; split
      · subst_vars; rw [if_neg (by omega)]
      · exact ih
theorem BF {α β : Type} (f : α → β) (l : List (Nat × α)) (t : Nat) : get (Bl f l) t = (get l t).map f := by
  induction l with
  | nil => rfl
  | cons x l ih =>
    obtain ⟨k, v⟩ := x
    simp only [Bl, get]
    split
    · rfl
    · exact ih

structure VS where
  e : TypeId
  z : Nat
  rows : List (List D)

def ES (t kz : Nat) (ka va : Bool) : Nat := 1000000 + (((t * 64 + kz) * 2 + ka.toNat) * 2 + va.toNat)
def VS.isM (s : VS) : Bool := decide (1000000 ≤ s.e)
def VS.kz (s : VS) : Nat := tkz s.e
def VS.ka (s : VS) : Bool := tka s.e
def VS.va (s : VS) : Bool := tva s.e
def Ar (w : World) (ok : Nat → Prop) (ag : Bool) (ds : List D) (v : Value) : Prop :=
  if ag = true then ∃ cs : Array Value, v = .agg cs ∧ cs.size = ds.length ∧ ∀ (i : Nat) (d : D) (u : Value), ds[i]? = some d → cs[i]? = some u → RD w ok d u else ∃ d, ds = [d] ∧ RD w ok d v
structure DD (w : World) (ok : Nat → Prop) (s : VS) (es : Array MapEntry) (clock : Nat) : Prop where
  size : es.size = s.rows.length
  row : ∀ (j : Nat) (row : List D) (e : MapEntry), s.rows[j]? = some row → es[j]? = some e → Ar w ok s.ka (row.take s.kz) e.key ∧ Ar w ok s.va (row.drop s.kz) e.val
  born : ∀ e ∈ es.toList, e.born < clock
  nodup : (es.toList.map (·.born)).Nodup
def Cm (w : World) (ok : Nat → Prop) (s : VS) (v : Value) : Prop :=
  if s.isM = true then ∃ (b : Nat) (es : Array MapEntry) (clock : Nat), v = .map (some b) ∧ w.heap[b]? = some (.map es clock) ∧ DD w ok s es clock
  else ∃ xs : List Value, w.ownsRow 0 s.e s.z v s.rows.length xs ∧ ∀ (j : Nat) (d : D) (u : Value), s.rows.flatten[j]? = some d → xs[j]? = some u → RD w ok d u
theorem Cm.row {w : World} {ok : Nat → Prop} {s : VS} {v : Value} (h : Cm w ok s v) (hs : s.isM = false) : ∃ xs : List Value, w.ownsRow 0 s.e s.z v s.rows.length xs ∧ ∀ (j : Nat) (d : D) (u : Value), s.rows.flatten[j]? = some d → xs[j]? = some u → RD w ok d u := by
  unfold Cm at h; rwa [if_neg (by rw [hs]; decide)] at h
theorem Cm.of {w : World} {ok : Nat → Prop} {s : VS} {v : Value} (hs : s.isM = false) (h : ∃ xs : List Value, w.ownsRow 0 s.e s.z v s.rows.length xs ∧ ∀ (j : Nat) (d : D) (u : Value), s.rows.flatten[j]? = some d → xs[j]? = some u → RD w ok d u) : Cm w ok s v := by
  unfold Cm; rwa [if_neg (by rw [hs]; decide)]
theorem Cm.map {w : World} {ok : Nat → Prop} {s : VS} {v : Value} (h : Cm w ok s v) (hs : s.isM = true) : ∃ (b : Nat) (es : Array MapEntry) (clock : Nat), v = .map (some b) ∧ w.heap[b]? = some (.map es clock) ∧ DD w ok s es clock := by
  unfold Cm at h; rwa [if_pos hs] at h
theorem Cm.ofM {w : World} {ok : Nat → Prop} {s : VS} {v : Value} (hs : s.isM = true) (h : ∃ (b : Nat) (es : Array MapEntry) (clock : Nat), v = .map (some b) ∧ w.heap[b]? = some (.map es clock) ∧ DD w ok s es clock) : Cm w ok s v := by
  unfold Cm; rwa [if_pos hs]
theorem Ar.mono {w w' : World} {ok ok' : Nat → Prop} (hw : ∀ q : Addr, ok q.block → see w' q = see w q) (ho : ∀ b, ok b → ok' b) {ag : Bool} {ds : List D} {v : Value} (h : Ar w ok ag ds v) : Ar w' ok' ag ds v := by
  unfold Ar at h ⊢
  split at h
  · rename_i ha
    rw [if_pos ha]
    obtain ⟨cs, h1, h2, h3⟩ := h
    exact ⟨cs, h1, h2, fun i d u hd hu => (h3 i d u hd hu).mono hw ho⟩
  · rename_i ha
    rw [if_neg ha]
    obtain ⟨d, h1, h2⟩ := h
    exact ⟨d, h1, h2.mono hw ho⟩
theorem O5 {w w' : World} {ok ok' : Nat → Prop} (hw : ∀ q : Addr, ok q.block → see w' q = see w q) (ho : ∀ b, ok b → ok' b) (f g : VS → Bool) (k : VS → Nat) (s : VS) {r : List D} {u v : Value} (h : Ar w ok (f s) (r.take (k s)) u ∧ Ar w ok (g s) (r.drop (k s)) v) : Ar w' ok' (f s) (r.take (k s)) u ∧ Ar w' ok' (g s) (r.drop (k s)) v :=
  ⟨Ar.mono hw ho h.1, Ar.mono hw ho h.2⟩
theorem DD.mono {w w' : World} {ok ok' : Nat → Prop} (hw : ∀ q : Addr, ok q.block → see w' q = see w q) (ho : ∀ b, ok b → ok' b) {s : VS} {es : Array MapEntry} {clock : Nat} (h : DD w ok s es clock) : DD w' ok' s es clock :=
  { size := h.size
    row := fun j r e hr he => by
      exact O5 hw ho VS.ka VS.va VS.kz s (h.row j r e hr he)
    born := h.born
    nodup := h.nodup }
theorem J7 {w w' : World} {base : Nat} {e : TypeId} {z n : Nat} {v : Value} {xs : List Value} (h : w.ownsRow base e z v n xs) (hg : ∀ g, v.blk = some g → w'.heap[g]? = w.heap[g]?) : w'.ownsRow base e z v n xs := by
  refine ⟨h.1, ?_⟩
  rcases h.2 with h0 | ⟨g, cap, cur, rfl, hb, hh, rest⟩
  · exact .inl h0
  · exact .inr ⟨g, cap, cur, rfl, hb, (hg g rfl).trans hh, rest⟩
theorem Cm.mono {w w' : World} {ok ok' : Nat → Prop} (hw : ∀ q : Addr, ok q.block → see w' q = see w q) (ho : ∀ b, ok b → ok' b) {s : VS} {v : Value} (hb : ∀ g, v.blk = some g → w'.heap[g]? = w.heap[g]?) (h : Cm w ok s v) : Cm w' ok' s v := by
  cases hs : s.isM with
  | true =>
    obtain ⟨b, es, clock, rfl, h1, h2⟩ := h.map hs
    exact .ofM hs ⟨b, es, clock, rfl, (hb b rfl).trans h1, h2.mono hw ho⟩
  | false =>
    obtain ⟨xs, h1, h2⟩ := h.row hs
    exact .of hs ⟨xs, J7 h1 hb, fun j d u hd hu => (h2 j d u hd hu).mono hw ho⟩
theorem Cm.lt {w : World} {ok : Nat → Prop} {s : VS} {v : Value} (h : Cm w ok s v) {g : Nat} (hg : v.blk = some g) : g < w.heap.size := by
  cases hs : s.isM with
  | true =>
    obtain ⟨b, es, clock, rfl, h1, _⟩ := h.map hs
    cases hg
    exact (Array.getElem?_eq_some_iff.1 h1).1
  | false =>
    obtain ⟨xs, h1, _⟩ := h.row hs
    rw [IS h1] at hg
    exact (h1.lt g hg).2
theorem Cm.sl {w : World} {ok : Nat → Prop} {s : VS} {v : Value} (h : Cm w ok s v) {a : Option Addr} {l c : Nat} (hv : v = .slice a l c) : s.isM = false := by
  cases hs : s.isM with
  | false => rfl
  | true => obtain ⟨b, es, clock, e, _⟩ := h.map hs; rw [hv] at e; cases e
theorem Cm.one {w : World} {ok : Nat → Prop} {s : VS} {v : Value} (h : Cm w ok s v) : v.oneCell' = true := by
  cases hs : s.isM with
  | true => obtain ⟨b, es, clock, rfl, h1, _⟩ := h.map hs; rfl
  | false =>
    obtain ⟨xs, h1, _⟩ := h.row hs
    rcases h1.2 with ⟨rfl, _⟩ | ⟨g, cap, cur, rfl, _⟩ <;> rfl

attribute [local irreducible] tkz tka tva
def cellAt (ag : Bool) (v : Value) (i : Nat) : Value := if ag = true then (match v with | .agg cs => (cs[i]?).getD undef | _ => undef) else v
theorem GJ {w : World} {ok : Nat → Prop} {ag : Bool} {ds : List D} {v : Value} (h : Ar w ok ag ds v) : Fu ag ds.length (cellAt ag v) v ∧ ∀ (i : Nat) (d : D), ds[i]? = some d → RD w ok d (cellAt ag v i) := by
  unfold Ar at h
  cases ag with
  | true =>
    rw [if_pos rfl] at h
    obtain ⟨cs, rfl, h2, h3⟩ := h
    unfold Fu cellAt
    simp only [if_true]
    have key : ∀ i, i < ds.length → cs[i]? = some ((cs[i]?).getD undef) := fun i hi => by rw [Array.getElem?_eq_getElem (by omega)]; rfl
    exact ⟨⟨cs, rfl, h2, key⟩, fun i d hd => h3 i d _ hd (key i (List.getElem?_eq_some_iff.1 hd).1)⟩
  | false =>
    rw [if_neg (by decide)] at h
    obtain ⟨d, rfl, h2⟩ := h
    unfold Fu cellAt
    simp only [Bool.false_eq_true, if_false]
    refine ⟨⟨rfl, trivial⟩, fun i d' hd => ?_⟩
    match i with
    | 0 => simp at hd; subst hd; exact h2
    | i + 1 => simp at hd
theorem Lm {w : World} {ok : Nat → Prop} {ag : Bool} {ds : List D} {v : Value} {f : Nat → Value} (h : Fu ag ds.length f v) (hf : ∀ (i : Nat) (d : D), ds[i]? = some d → RD w ok d (f i)) : Ar w ok ag ds v := by
  unfold Fu at h
  unfold Ar
  split at h
  · rename_i ha
    obtain ⟨cs, rfl, h2, h3⟩ := h
    rw [if_pos ha]
    refine ⟨cs, rfl, h2, fun i d u hd hu => ?_⟩
    have := h3 i (List.getElem?_eq_some_iff.1 hd).1
    rw [hu] at this
    cases this
    exact hf i d hd
  · rename_i ha
    obtain ⟨h2, rfl⟩ := h
    rw [if_neg ha]
    obtain ⟨d, rfl⟩ := List.length_eq_one_iff.1 h2
    exact ⟨d, rfl, hf 0 d rfl⟩
theorem KL {w : World} {b : Nat} {es : Array MapEntry} {clock : Nat} : Ll w b = some (es, clock) ↔ w.heap[b]? = some (.map es clock) := by
  unfold Ll
  constructor
  · intro h
    split at h
    · rename_i h2; cases h; exact h2
    · cases h
  · intro h; rw [h]
theorem RD.mp_inv {w : World} {ok : Nat → Prop} {e z : Nat} {rows : List (List D)} {v : Value} (h : RD w ok (.mp e z rows) v) : ∃ (b : Nat) (es : Array MapEntry) (clock : Nat), v = .map (some b) ∧ w.heap[b]? = some (.map es clock) ∧ ok b ∧ 1000000 ≤ e ∧ DD w ok ⟨e, z, rows⟩ es clock := by
  cases h with
  | mp vs hM hok hb hs hz hen hbn hnd h =>
    refine ⟨_, _, _, rfl, KL.1 hb, hok, hM, ⟨hs, fun j r en hr he => ?_, hbn, hnd⟩⟩
    obtain ⟨h1, h2⟩ := hen j r en hr he
    refine ⟨Lm h1 fun i d hd => h j i r d hr ?_, Lm h2 fun i d hd => h j (tkz e + i) r d hr (by rwa [List.getElem?_drop] at hd)⟩
    rw [List.getElem?_take] at hd
    split at hd
    · exact hd
    · cases hd
theorem RD.ofMap {w : World} {ok : Nat → Prop} {s : VS} {b : Nat} {es : Array MapEntry} {clock : Nat} (hM : s.isM = true) (hz : ∀ r ∈ s.rows, r.length = s.z) (hb : w.heap[b]? = some (.map es clock)) (hok : ok b) (hm : DD w ok s es clock) : RD w ok (.mp s.e s.z s.rows) (.map (some b)) := by
  have hr : ∀ (j : Nat) (r : List D) (en : MapEntry), s.rows[j]? = some r → es[j]? = some en → Ar w ok (tka s.e) (r.take (tkz s.e)) en.key ∧ Ar w ok (tva s.e) (r.drop (tkz s.e)) en.val := fun j r en h1 h2 => hm.row j r en h1 h2
  refine .mp (fun j i => match es[j]? with | some en => if i < tkz s.e then cellAt (tka s.e) en.key i else cellAt (tva s.e) en.val (i - tkz s.e) | none => undef) (by simpa [VS.isM] using hM) hok (KL.2 hb) hm.size hz (fun j r en h1 h2 => ?_) hm.born hm.nodup (fun j i r d h1 h2 => ?_)
  · obtain ⟨k1, k2⟩ := hr j r en h1 h2
    have p1 := (GJ k1).1
    have p2 := (GJ k2).1
    simp only [h2]
    have cong : ∀ {ag : Bool} {n : Nat} {f g : Nat → Value} {v : Value}, (∀ i, i < n → f i = g i) → Fu ag n f v → Fu ag n g v := fun {ag n f g v} hfg hp => by
      unfold Fu at hp ⊢
      split at hp
      · rename_i ha
        rw [if_pos ha]
        obtain ⟨cs, a1, a2, a3⟩ := hp
        exact ⟨cs, a1, a2, fun i hi => by rw [a3 i hi, hfg i hi]⟩
      · rename_i ha
        rw [if_neg ha]
        exact ⟨hp.1, by rw [← hfg 0 (by omega)]; exact hp.2⟩
    refine ⟨cong (fun i hi => ?_) p1, cong (fun i hi => ?_) p2⟩
    · rw [if_pos]
      rw [List.length_take] at hi
      omega
    · rw [if_neg (by omega), Nat.add_sub_cancel_left]
  · have hj : j < es.size := by rw [hm.size]; exact (List.getElem?_eq_some_iff.1 h1).1
    have he : es[j]? = some es[j] := Array.getElem?_eq_getElem hj
    obtain ⟨k1, k2⟩ := hr j r _ h1 he
    simp only [he]
    split
    · rename_i hi
      exact (GJ k1).2 i d (by rw [List.getElem?_take, if_pos hi]; exact h2)
    · rename_i hi
      exact (GJ k2).2 (i - tkz s.e) d (by rw [List.getElem?_drop]; rw [show tkz s.e + (i - tkz s.e) = i by omega]; exact h2)

structure St where
  nt : Nat
  env : List (Nat × AV)
  box : List (Nat × List AV)
  vec : List (Nat × VS)

def St.lb (st : St) (n : Nat) : Bool := (get st.box n).isSome
def St.lv (st : St) (n : Nat) : Bool := (get st.vec n).isSome
def St.put (st : St) (t : Nat) (x : AV) : St := { st with env := (t, x) :: st.env }
def St.look (st : St) (t : Nat) : AV := (get st.env t).getD .undef

def N5 (P : Program) (b : Nat) : IntKind × List Int :=
  match P.globals[b]? with
  | some g => if g.name = "leakresponse/notice.deadlines" then (.i64, [40, 16, 4, 1]) else if g.name = "leakresponse/severity.levels" then (.i64, [1, 100, 1000, 10000]) else if g.name = "internal/strconv.none" then (.u64, [1, 10, 100, 1000, 10000, 100000, 1000000, 10000000, 100000000, 1000000000, 10000000000, 100000000000, 1000000000000, 10000000000000, 100000000000000, 1000000000000000, 10000000000000000, 100000000000000000, 1000000000000000000, 10000000000000000000]) else (.i64, [])
  | none => (.i64, [])
def E1 (P : Program) (b : Nat) : List Int := (N5 P b).2
def P4 (P : Program) (b : Nat) : IntKind := (N5 P b).1
def DX (P : Program) (w : World) (ok : Nat → Prop) : Prop := ∀ (b i : Nat) (x : Int), (E1 P b)[i]? = some x → ok b ∧ (w.cell? ⟨b, i, none⟩ = some (.int (P4 P b) x) ∧ w.cell? ⟨b, (E1 P b).length, none⟩ = none)
structure Ctx (P : Program) where
  w0 : World
  ok0 : Nat → Prop
  ios : List Nat
  ivs : List Nat
  gl : ∀ (b i : Nat) (x : Int), (E1 P b)[i]? = some x → (b < w0.heap.size ∧ ok0 b ∧ b ∉ ios ∧ b ∉ ivs) ∧ (w0.cell? ⟨b, i, none⟩ = some (.int (P4 P b) x) ∧ w0.cell? ⟨b, (E1 P b).length, none⟩ = none)
def Ctx.io {P : Program} (K : Ctx P) (b : Nat) : Prop := b ∈ K.ios ∨ b ∈ K.ivs
def Ctx.base {P : Program} (_ : Ctx P) : Nat := 0
def InO (i : Nat) : Nat := 1000000 + i
def InV (i : Nat) : Nat := 2000000 + i

def St.pl (st : St) (bx : Nat → Nat) (rw : Nat → Value) : Pl := ⟨bx, rw, fun n => st.lb n = true, fun n => st.lv n = true⟩

def okc {P : Program} (K : Ctx P) (w : World) (p : Pl) (b : Nat) : Prop :=
  b < w.heap.size ∧ (K.ok0 b ∨ K.w0.heap.size ≤ b ∨ b ∈ K.ivs) ∧ (∀ n, p.lb n → b ≠ p.bx n) ∧ ∀ n, p.lv n → (p.rw n).blk ≠ some b

structure P5 {P : Program} (K : Ctx P) (w : World) (p : Pl) (n : Nat) (cs : List AV) : Prop where
  at_ : ∃ (vs : Array Value) (ty : TypeId), w.heap[p.bx n]? = some (.cells vs ty (0, 0)) ∧ vs.size = cs.length ∧
    (∀ (i : Nat) (c : AV) (v : Value), cs[i]? = some c → vs[i]? = some v → RA w (okc K w p) p c v) ∧ ∀ (i : Nat) (v : Value), vs[i]? = some v → v.oneCell' = true
  mine : K.w0.heap.size ≤ p.bx n ∨ K.io (p.bx n)

structure P6 {P : Program} (K : Ctx P) (w : World) (p : Pl) (n : Nat) (s : VS) : Prop where
  at_ : Cm w (okc K w p) s (p.rw n)
  hz : ∀ r ∈ s.rows, r.length = s.z
  mine : ∀ g, (p.rw n).blk = some g → K.w0.heap.size ≤ g ∨ g ∈ K.ivs

structure Rel {P : Program} (K : Ctx P) (st : St) (a : Act) (w : World) (p : Pl) : Prop where
  lb : p.lb = fun n => st.lb n = true
  lv : p.lv = fun n => st.lv n = true
  dfr : a.defers = []
  nt : a.tmps.size = st.nt
  ntl : st.nt ≤ 1000000
  ion : ∀ i : Nat, p.lb (InO i) → K.ios[i]? = some (p.bx (InO i))
  size : K.w0.heap.size ≤ w.heap.size
  os : w.os = K.w0.os
  tape : w.tape = K.w0.tape
  dr : dr0 K.w0 ≤ dr0 w
  output : w.output = K.w0.output
  old : ∀ b, b < K.w0.heap.size → ¬ K.io b → w.heap[b]? = K.w0.heap[b]?
  env : ∀ t x, get st.env t = some x → RA w (okc K w p) p x (a.tmps.getD t undef)
  box : ∀ n cs, get st.box n = some cs → P5 K w p n cs
  vec : ∀ n s, get st.vec n = some s → P6 K w p n s
  dbb : ∀ n m, p.lb n → p.lb m → n ≠ m → p.bx n ≠ p.bx m
  dbv : ∀ n m, p.lb n → p.lv m → (p.rw m).blk ≠ some (p.bx n)
  dvv : ∀ n m, p.lv n → p.lv m → n ≠ m → (p.rw n).blk = none ∨ (p.rw n).blk ≠ (p.rw m).blk

theorem Rel.glob {P : Program} {K : Ctx P} {st : St} {a : Act} {w : World} {p : Pl} (R : Rel K st a w p) : DX P w (okc K w p) := fun b i x h => by
  obtain ⟨⟨h1, h2, h3, h4⟩, h5⟩ := K.gl b i x h
  have hio : ¬ K.io b := fun h => h.elim h3 h4
  have e := R.old b h1 hio
  refine ⟨⟨Nat.lt_of_lt_of_le h1 R.size, .inl h2, fun n hn he => ?_, fun n hn he => ?_⟩, ?_⟩
  · rw [R.lb] at hn
    obtain ⟨cs, hcs⟩ := Option.isSome_iff_exists.1 hn
    rcases (R.box n cs hcs).mine with h | h
    · omega
    · exact hio (he ▸ h)
  · rw [R.lv] at hn
    obtain ⟨s, hs⟩ := Option.isSome_iff_exists.1 hn
    rcases (R.vec n s hs).mine b he with h | h
    · omega
    · exact h4 h
  · unfold World.cell? at h5 ⊢
    simp only at h5 ⊢
    rw [e]; exact h5

end Go.Vl

namespace Go.Vl
open Go

theorem A4 {rows : List (List D)} {z : Nat} (hz : ∀ r ∈ rows, r.length = z) : rows.flatten.length = rows.length * z := by
  induction rows with
  | nil => simp
  | cons r rs ih =>
    simp only [List.flatten_cons, List.length_append, List.length_cons, hz r (by simp), ih fun r hr => hz r (by simp [hr]), Nat.add_mul]
    omega
theorem flat_get {rows : List (List D)} {z : Nat} (hz : ∀ r ∈ rows, r.length = z) : ∀ {i : Nat} {r : List D}, rows[i]? = some r → ∀ {j : Nat}, j < z → rows.flatten[i * z + j]? = r[j]? := by
  induction rows with
  | nil => intro i r h; simp at h
  | cons r0 rs ih =>
    intro i r h j hj
    have h0 : r0.length = z := hz r0 (by simp)
    rw [List.flatten_cons]
    cases i with
    | zero => simp at h; subst h; rw [List.getElem?_append_left (by omega)]; simp
    | succ i =>
      rw [List.getElem?_append_right (by rw [h0, Nat.add_mul]; omega), h0, show (i + 1) * z + j - z = i * z + j by rw [Nat.add_mul]; omega]
      exact ih (fun r hr => hz r (by simp [hr])) (by simpa using h) hj
theorem FV {rows : List (List D)} {z : Nat} (hz : ∀ r ∈ rows, r.length = z) : ∀ l : Nat, (rows.drop l).flatten = rows.flatten.drop (l * z) := by
  induction rows with
  | nil => simp
  | cons r0 rs ih =>
    intro l
    have h0 : r0.length = z := hz r0 (by simp)
    cases l with
    | zero => simp
    | succ l =>
      have e : r0.drop ((l + 1) * z) = [] := List.drop_eq_nil_of_le (by rw [h0, Nat.add_mul]; omega)
      rw [List.drop_succ_cons, ih fun r hr => hz r (by simp [hr]), List.flatten_cons, List.drop_append, e, h0,
        show (l + 1) * z - z = l * z by rw [Nat.add_mul]; omega]
      rfl
theorem EB {rows : List (List D)} {z : Nat} (hz : ∀ r ∈ rows, r.length = z) (l : Nat) : (rows.take l).flatten = rows.flatten.take (l * z) := by
  induction rows generalizing l with
  | nil => simp
  | cons r0 rs ih =>
    have h0 : r0.length = z := hz r0 (by simp)
    cases l with
    | zero => simp
    | succ l =>
      have e : r0.take ((l + 1) * z) = r0 := List.take_of_length_le (by rw [h0, Nat.add_mul]; omega)
      rw [List.take_succ_cons, List.flatten_cons, List.flatten_cons, ih fun r hr => hz r (by simp [hr]), List.take_append, e, h0,
        show (l + 1) * z - z = l * z by rw [Nat.add_mul]; omega]

def AV.ofCell : Value → AV
  | .int k n => .d (.int k n)
  | .bool b => .d (.bool b)
  | .string s => .d (.str s)
  | .pointer none => .d .nilp
  | .slice none 0 0 => .nilS
  | _ => .undef
def AV.ofConst : Value → AV
  | .agg cs => if cs.all Value.oneCell' then .agg (cs.toList.map AV.ofCell) else .undef
  | v => AV.ofCell v

theorem G7 (w : World) (ok : Nat → Prop) (p : Pl) (v : Value) : RA w ok p (AV.ofCell v) v := by
  unfold AV.ofCell
  split
  · exact .d .int
  · exact .d .bool
  · exact .d .str
  · exact .d .nilp
  · exact .nilS
  · exact .undef
theorem If (w : World) (ok : Nat → Prop) (p : Pl) (v : Value) : RA w ok p (AV.ofConst v) v := by
  unfold AV.ofConst
  split
  · rename_i cs
    split
    · rename_i h
      refine .agg (by simp) (fun i a v ha hv => ?_) (fun i v hv => ?_)
      · rw [List.getElem?_map, Array.getElem?_toList, hv] at ha
        simp at ha; subst ha
        exact G7 w ok p v
      · have := Array.all_eq_true_iff_forall_mem.1 h v (Array.mem_of_getElem? hv)
        exact this
    · exact .undef
  · exact G7 w ok p v

def opd (st : St) : Operand → AV
  | .tmp t => st.look t
  | .const v => AV.ofConst v
  | .global _ => .undef
  | .func f => .fn f []

theorem Rel.opd {P : Program} {K : Ctx P} {st : St} {a : Act} {w : World} {p : Pl} (R : Rel K st a w p) (x : Operand) : RA w (okc K w p) p (opd st x) (a.eval x) := by
  cases x with
  | tmp t =>
    simp only [Vl.opd, St.look, Act.eval]
    cases h : get st.env t with
    | none => exact .undef
    | some x => exact R.env t x h
  | const v => exact If _ _ _ v
  | global g => exact .undef
  | func f => exact .fn (l := []) rfl (fun i a v h => by simp at h)

def Ad (P : Program) (t : TypeId) : Option Nat := (P.info? t).map (·.size)
def Ao (P : Program) (t : TypeId) : Bool := match P.underlying t with | some (.struct _) | some (.array _ _) => true | _ => false
def Aw (P : Program) (t : TypeId) : Option (List AV) := (P.info? t).bind fun i => i.zero.bind fun z => if z.cells.size = i.size ∧ z.cells.all Value.oneCell' then some (z.cells.toList.map AV.ofCell) else none

theorem AU {P : Program} {t : TypeId} {k : Nat} (h : Ad P t = some k) (w : World) : (sizeOf t).run P w = .ok k w := by
  unfold Ad at h
  cases hi : P.info? t with
  | none => simp [hi] at h
  | some i => simp [hi] at h; subst h; simp [sizeOf, typeInfo, hi]

theorem Be {P : Program} {t : TypeId} (hu : (P.underlying t).isSome = true) (w : World) : (isAgg t).run P w = .ok (Ao P t) w := by
  obtain ⟨d, hd⟩ := Option.isSome_iff_exists.1 hu
  unfold Ao
  rw [hd]
  simp only [isAgg, Sem.run_bind, run_underlying hd, Result.andThen]
  cases d <;> rfl

theorem CR {P : Program} {t : TypeId} {i : TypeInfo} (h : P.underlying t = some i.desc) : (P.underlying t).isSome = true := by simp [h]

def Em (P : Program) (t : TypeId) (cs : List AV) (o : Nat) : Option AV :=
  if (P.underlying t).isSome then
    if Ao P t then (Ad P t).bind fun k => if o + k ≤ cs.length then some (.agg ((cs.drop o).take k)) else none
    else cs[o]?
  else none

theorem F0 {P : Program} {t : TypeId} {cs : List AV} {o : Nat} {x : AV} (h : Em P t cs o = some x) {w : World} {ok : Nat → Prop} {p : Pl} {a : Addr} (vs : Nat → Value)
    (hcell : ∀ j, j < cs.length → w.cell? (a.add j) = some (vs j)) (hr : ∀ j c, cs[j]? = some c → RA w ok p c (vs j)) (h1 : ∀ j, j < cs.length → (vs j).oneCell' = true) :
    ∃ v, (loadVar t (a.add o)).run P w = .ok v w ∧ RA w ok p x v := by
  unfold Em at h
  split at h
  case isFalse => cases h
  rename_i hu
  simp only [loadVar, Sem.run_bind, Be hu, Result.andThen]
  split at h
  · rename_i hg
    cases hk : Ad P t with
    | none => simp [hk] at h
    | some k =>
      simp only [hk, Option.bind_some] at h
      split at h
      case isFalse => cases h
      rename_i hle
      cases h
      simp only [hg, if_true, Sem.run_bind, AU hk, Result.andThen]
      rw [run_loadCells (P := P) w (a.add o) k (fun j => vs (o + j)) (fun j hj => by rw [add_add]; exact hcell _ (by omega))]
      refine ⟨_, rfl, .agg (by simp; omega) (fun i y v hy hv => ?_) (fun i v hv => ?_)⟩
      · simp only [List.getElem?_toArray, List.getElem?_map] at hv
        by_cases hi : i < k
        · rw [List.getElem?_range hi] at hv
          simp at hv; subst hv
          rw [List.getElem?_take_of_lt hi, List.getElem?_drop] at hy
          exact hr _ _ hy
        · rw [List.getElem?_eq_none (by simpa using hi)] at hv; simp at hv
      · simp only [List.getElem?_toArray, List.getElem?_map] at hv
        by_cases hi : i < k
        · rw [List.getElem?_range hi] at hv
          simp at hv; subst hv
          exact h1 _ (by omega)
        · rw [List.getElem?_eq_none (by simpa using hi)] at hv; simp at hv
  · rename_i hg
    have hlt : o < cs.length := (List.getElem?_eq_some_iff.1 h).1
    simp only [hg, Bool.false_eq_true, if_false]
    exact ⟨vs o, by simp [hcell o hlt], hr _ _ h⟩

theorem Ig {P : Program} {t : TypeId} {cs : List AV} {o : Nat} {x : AV} (h : Em P t cs o = some x) {w : World} {ok : Nat → Prop} {p : Pl} {vs : Array Value}
    (hl : vs.size = cs.length) (hr : ∀ (i : Nat) (a : AV) (v : Value), cs[i]? = some a → vs[i]? = some v → RA w ok p a v) (h1 : ∀ (i : Nat) (v : Value), vs[i]? = some v → v.oneCell' = true) :
    ∃ v, (part t vs o).run P w = .ok v w ∧ RA w ok p x v := by
  unfold Em at h
  split at h
  case isFalse => cases h
  rename_i hu
  simp only [part, Sem.run_bind, Be hu, Result.andThen]
  split at h
  · rename_i hg
    cases hk : Ad P t with
    | none => simp [hk] at h
    | some k =>
      simp only [hk, Option.bind_some] at h
      split at h
      case isFalse => cases h
      rename_i hle
      cases h
      simp only [hg, if_true, Sem.run_bind, AU hk, Result.andThen]
      refine ⟨_, rfl, .agg (by simp; omega) (fun i y v hy hv => ?_) (fun i v hv => ?_)⟩
      · rw [Array.getElem?_extract] at hv
        split at hv
        case isFalse => cases hv
        rename_i hi
        have hi' : i < k := by omega
        rw [List.getElem?_take_of_lt hi', List.getElem?_drop] at hy
        exact hr _ _ _ hy hv
      · rw [Array.getElem?_extract] at hv
        split at hv
        case isFalse => cases hv
        exact h1 _ _ hv
  · rename_i hg
    have hlt : o < cs.length := (List.getElem?_eq_some_iff.1 h).1
    simp only [hg, Bool.false_eq_true, if_false]
    have hv : vs[o]? = some (vs[o]'(by omega)) := Array.getElem?_eq_getElem (by omega)
    exact ⟨vs[o]'(by omega), by simp [hv], hr _ _ _ h hv⟩

def DG (P : Program) (st : St) (t : TypeId) : AV → Option AV
  | .ptr n o => (get st.box n).bind fun cs => Em P t cs o
  | .cptr row o => Em P t (row.map .d) o
  | .vptr n z i o => (get st.vec n).bind fun s => if z = s.z then s.rows[i]?.bind fun row => Em P t (row.map .d) o else none
  | _ => none

theorem FW {w : World} {base : Nat} {e : TypeId} {z n : Nat} {g c len : Nat} {xs : List Value} (h : w.ownsRow base e z (.slice (some ⟨g, 0, none⟩) len c) n xs) :
    len = n ∧ ∀ j, j < n * z → w.cell? ⟨g, j, none⟩ = xs[j]? ∧ w.frozen? ⟨g, j, none⟩ = false := by
  obtain ⟨hl, hh⟩ := h
  rcases hh with ⟨h0, _⟩ | ⟨g', cap, cur, h0, _, hg, hn, hm, hs, hx⟩
  · cases h0
  · injection h0 with h1 h2 h3
    injection h1 with h1
    injection h1 with h1
    subst h1; subst h2; subst h3
    refine ⟨rfl, fun j hj => ⟨?_, frozen_of_row w g j cur e hg⟩⟩
    rw [cell_of_row w g j cur e (0, 0) hg, ← hx, List.getElem?_take_of_lt hj]
    simp

section
variable {P : Program} {K : Ctx P} {st : St} {a : Act} {w : World} {p : Pl}

theorem E2 (R : Rel K st a w p) {P : Program} {t : TypeId} {y x : AV} (h : DG P st t y = some x) {u : Value} (hu : RA w (okc K w p) p y u) :
    ∃ v, (Instr.loadAt t u).run P w = .ok v w ∧ RA w (okc K w p) p x v := by
  cases hu with
  | ptr hn =>
    rename_i n o
    simp only [DG] at h
    cases hb : get st.box n with
    | none => simp [hb] at h
    | some cs =>
      simp only [hb, Option.bind_some] at h
      obtain ⟨⟨vs, ty, hg, hl, hr, h1⟩, _⟩ := R.box n cs hb
      simp only [Instr.loadAt, Instr.sureAddr, Sem.run_bind, Sem.run_pure, Result.andThen]
      have := F0 (a := ⟨p.bx n, 0, none⟩) h (w := w) (ok := okc K w p) (p := p) (fun j => vs.getD j undef) (fun j hj => by
        rw [Ah, Nat.zero_add, cell_of_row w _ j vs ty _ hg]; simp [show j < vs.size by omega]) (fun j c hc => by
        have hj : j < vs.size := by have := (List.getElem?_eq_some_iff.1 hc).1; omega
        exact hr j c _ hc (by simp [hj])) (fun j hj => h1 j _ (by simp [show j < vs.size by omega]))
      rw [Ah, Nat.zero_add] at this
      exact this
  | cptr vs hok hcell hd =>
    rename_i row o b
    simp only [DG] at h
    simp only [Instr.loadAt, Instr.sureAddr, Sem.run_bind, Sem.run_pure, Result.andThen]
    refine F0 h vs (fun j hj => hcell j (by simpa using hj)) (fun j c hc => ?_) (fun j hj => ?_)
    · rw [List.getElem?_map] at hc
      cases hx : row[j]? with
      | none => simp [hx] at hc
      | some x => simp [hx] at hc; subst hc; exact .d (hd j x hx)
    · have hj' : j < row.length := by simpa using hj
      exact (hd j row[j] (List.getElem?_eq_getElem hj')).one
  | vptr hn hv =>
    rename_i n z i o g c len
    simp only [DG] at h
    cases hb : get st.vec n with
    | none => simp [hb] at h
    | some s =>
      simp only [hb, Option.bind_some] at h
      split at h
      case isFalse => cases h
      rename_i hz
      cases hrow : s.rows[i]? with
      | none => simp [hrow] at h
      | some row =>
        simp only [hrow, Option.bind_some] at h
        obtain ⟨hat, hzs, _⟩ := R.vec n s hb
        obtain ⟨xs, hown, hd⟩ := hat.row (hat.sl hv)
        rw [hv] at hown
        obtain ⟨hlen, hcl⟩ := FW hown
        have hrl : row.length = s.z := hzs row (List.mem_of_getElem? hrow)
        have hi : i < s.rows.length := (List.getElem?_eq_some_iff.1 hrow).1
        have hbd : ∀ j, j < s.z → i * s.z + j < s.rows.length * s.z := fun j hj => by
          have : (i + 1) * s.z ≤ s.rows.length * s.z := Nat.mul_le_mul_right _ hi
          rw [Nat.add_mul] at this; omega
        simp only [Instr.loadAt, Instr.sureAddr, Sem.run_bind, Sem.run_pure, Result.andThen]
        have := F0 (a := ⟨g, i * z, none⟩) h (w := w) (ok := okc K w p) (p := p) (fun j => xs.getD (i * s.z + j) undef) (fun j hj => by
          have hj' : j < s.z := by simpa [hrl] using hj
          have hb' := hbd j hj'
          rw [Ah, hz, (hcl _ hb').1]
          simp [List.getD, List.getElem?_eq_getElem (show i * s.z + j < xs.length by rw [hown.1]; exact hb')]) (fun j c hc => by
          rw [List.getElem?_map] at hc
          cases hx : row[j]? with
          | none => simp [hx] at hc
          | some x =>
            simp [hx] at hc; subst hc
            have hj' : j < s.z := by have := (List.getElem?_eq_some_iff.1 hx).1; omega
            have hxl : i * s.z + j < xs.length := by rw [hown.1]; exact hbd j hj'
            exact .d (hd (i * s.z + j) x _ (by rw [flat_get hzs hrow hj']; exact hx) (by simp [List.getD, List.getElem?_eq_getElem hxl]))) (fun j hj => by
          have hj' : j < s.z := by simpa [hrl] using hj
          have hxl : i * s.z + j < xs.length := by rw [hown.1]; exact hbd j hj'
          have hf : i * s.z + j < s.rows.flatten.length := by rw [A4 hzs]; exact hbd j hj'
          exact (hd (i * s.z + j) _ _ (List.getElem?_eq_getElem hf) (by simp [List.getD, List.getElem?_eq_getElem hxl])).one)
        rw [Ah] at this
        exact this
  | _ => simp [DG] at h

end
end Go.Vl

namespace Go.Vl
open Go

def Lo (P : Program) (k : Nat) : AV → Option AV
  | .ptr n o => some (.ptr n (o + k))
  | .cptr row o => some (.cptr row (o + k))
  | .vptr n z i o => some (.vptr n z i (o + k))
  | _ => none
theorem ET {w : World} {ok : Nat → Prop} {p : Pl} {P : Program} {k : Nat} {y x : AV} (h : Lo P k y = some x) {u : Value} (hu : RA w ok p y u) :
    ∃ b : Addr, u = .pointer (some b) ∧ RA w ok p x (.pointer (some (b.add k))) := by
  cases hu with
  | ptr hn => simp [Lo] at h; subst h; exact ⟨_, rfl, by rw [Ah]; exact .ptr hn⟩
  | cptr vs hok hc hd => simp [Lo] at h; subst h; exact ⟨_, rfl, by rw [add_add]; exact .cptr vs hok hc hd⟩
  | vptr hn hv => simp [Lo] at h; subst h; exact ⟨_, rfl, by rw [Ah, Nat.add_assoc]; exact .vptr hn hv⟩
  | _ => simp [Lo] at h

def Ih (P : Program) (s : TypeId) (f : Nat) (y : AV) : Option AV :=
  match P.underlying s with
  | some (.struct fs) => (fs[f]?).bind fun fd => match Ad P fd.type with
    | some (_ + 1) => Lo P fd.offset y
    | _ => none
  | _ => none
theorem Ky {w : World} {ok : Nat → Prop} {p : Pl} {P : Program} {s : TypeId} {f : Nat} {y x : AV} (h : Ih P s f y = some x) {u : Value} (hu : RA w ok p y u) :
    ∃ v, (Instr.fieldAt s u f).run P w = .ok v w ∧ RA w ok p x v := by
  unfold Ih at h
  split at h
  case h_2 => cases h
  rename_i fs hs
  cases hf : fs[f]? with
  | none => simp [hf] at h
  | some fd =>
    simp only [hf, Option.bind_some] at h
    split at h
    case h_2 => cases h
    rename_i k hk
    obtain ⟨b, rfl, hb⟩ := ET h hu
    exact ⟨_, by simp [Instr.fieldAt, Instr.sureAddr, run_underlying hs, hf, fieldPlace, AU hk], hb⟩

def Dq (P : Program) (t : TypeId) (y : AV) (i : Int) (st : St) : Option AV :=
  match P.underlying t with
  | some (.slice e) => if 0 ≤ i then (match y with
    | .d (.slice rows) => rows[i.toNat]?.bind fun row => if Ad P e = some row.length then some (.cptr row 0) else none
    | .full rows => rows[i.toNat]?.bind fun row => if Ad P e = some row.length then some (.cptr row 0) else none
    | .vec n => (get st.vec n).bind fun s => if i.toNat < s.rows.length ∧ Ad P e = some s.z ∧ s.isM = false then some (.vptr n s.z i.toNat 0) else none
    | .cut n z lo k => if i.toNat < k ∧ Ad P e = some z then some (.vptr n z (lo + i.toNat) 0) else none
    | _ => none) else none
  | some (.array len e) => if 0 ≤ i ∧ i < len then (Ad P e).bind fun z => Lo P (i.toNat * z) y else none
  | _ => none

theorem Kz {w : World} {ok : Nat → Prop} {p : Pl} {P : Program} {t e : TypeId} (hs : P.underlying t = some (.slice e)) {rows : List (List D)} {row : List D} {k : IntKind} {i : Int} (h0 : 0 ≤ i) (hrow : rows[i.toNat]? = some row)
    (hz : Ad P e = some row.length) {u : Value} (h : RD w ok (.slice rows) u) : ∃ v, (Instr.indexAt t u (.int k i)).run P w = .ok v w ∧ RA w ok p (.cptr row 0) v := by
  have hi : i.toNat < rows.length := (List.getElem?_eq_some_iff.1 hrow).1
  cases h with
  | snil => simp at hi
  | slice z vs hzs hok hc hcell hd =>
    rename_i b c
    have hrl : row.length = z := hzs row (List.mem_of_getElem? hrow)
    refine ⟨.pointer (some (b.add (i.toNat * row.length))), ?_, ?_⟩
    · have h1 : i < (rows.length : Int) := by omega
      simp [Instr.indexAt, run_underlying hs, asIntOf, h0, h1, AU hz]
    · rw [← add_zero (b.add _)]
      refine .cptr (fun j => vs (i.toNat * row.length + j)) (by rw [block_add]; exact hok) (fun j hj => ?_) (fun j x hx => ?_)
      · rw [add_add]
        refine hcell _ ?_
        rw [A4 hzs]
        have : (i.toNat + 1) * z ≤ rows.length * z := Nat.mul_le_mul_right _ hi
        rw [Nat.add_mul] at this; rw [hrl] at hj ⊢; omega
      · have hj : j < z := by have := (List.getElem?_eq_some_iff.1 hx).1; omega
        refine hd _ _ ?_
        rw [hrl, flat_get hzs hrow hj]; exact hx

section
variable {P : Program} {K : Ctx P} {st : St} {a : Act} {w : World} {p : Pl}
theorem J8 (R : Rel K st a w p) {P : Program} {t : TypeId} {k : IntKind} {i : Int} {y x : AV} (h : Dq P t y i st = some x) {u : Value} (hu : RA w (okc K w p) p y u) :
    ∃ v, (Instr.indexAt t u (.int k i)).run P w = .ok v w ∧ RA w (okc K w p) p x v := by
  unfold Dq at h
  split at h
  · rename_i e hs
    split at h
    case isFalse => cases h
    rename_i h0
    split at h
    · rename_i rows
      cases hrow : rows[i.toNat]? with
      | none => simp [hrow] at h
      | some row =>
        simp only [hrow, Option.bind_some] at h
        split at h
        case isFalse => cases h
        rename_i hz
        cases h
        cases hu with
        | d hd => exact Kz hs h0 hrow hz hd
    · rename_i rows
      cases hrow : rows[i.toNat]? with
      | none => simp [hrow] at h
      | some row =>
        simp only [hrow, Option.bind_some] at h
        split at h
        case isFalse => cases h
        rename_i hz
        cases h
        cases hu with
        | full hd => exact Kz hs h0 hrow hz hd
    · rename_i n
      cases hb : get st.vec n with
      | none => simp [hb] at h
      | some s =>
        simp only [hb, Option.bind_some] at h
        split at h
        case isFalse => cases h
        rename_i hh
        obtain ⟨hi, hz, hM⟩ := hh
        cases h
        cases hu with
        | vec hn =>
          obtain ⟨hat, hzs, _⟩ := R.vec n s hb
          obtain ⟨xs, hown, hd⟩ := hat.row hM
          rcases hown.2 with ⟨_, h1⟩ | ⟨g, cap, cur, hv, _, _, _, _, _, _⟩
          · omega
          · rw [hv]
            have h1 : i < (s.rows.length : Int) := by omega
            refine ⟨.pointer (some ⟨g, i.toNat * s.z + 0, none⟩), ?_, .vptr hn hv⟩
            simp [Instr.indexAt, run_underlying hs, asIntOf, h0, h1, AU hz, Ah]
    · rename_i n z lo k'
      split at h
      case isFalse => cases h
      rename_i hh
      obtain ⟨hi, hz⟩ := hh
      cases h
      cases hu with
      | cut hn hv ho hle =>
        rename_i o g c len
        have h1 : i < (k' : Int) := by omega
        have h2 : o = lo * z := ho.1.resolve_left (by omega)
        refine ⟨.pointer (some ⟨g, (lo + i.toNat) * z + 0, none⟩), ?_, .vptr hn hv⟩
        simp [Instr.indexAt, run_underlying hs, asIntOf, h0, h1, AU hz, Ah, h2, Nat.add_mul]
      | cut0 hn hv => omega
    · cases h
  · rename_i len e hs
    split at h
    case isFalse => cases h
    rename_i hh
    cases hz : Ad P e with
    | none => simp [hz] at h
    | some z =>
      simp only [hz, Option.bind_some] at h
      obtain ⟨b, rfl, hb⟩ := ET h hu
      exact ⟨_, by simp [Instr.indexAt, Instr.sureAddr, run_underlying hs, asIntOf, hh, AU hz], hb⟩
  · cases h
end

def J9 (k : IntKind) (a b : Int) : Int := k.wrap ((BitVec.ofInt k.bits a &&& BitVec.ofInt k.bits b).toNat)
def bOr (k : IntKind) (a b : Int) : Int := k.wrap ((BitVec.ofInt k.bits a ||| BitVec.ofInt k.bits b).toNat)
def ZV (k : IntKind) (a b : Int) : Int := k.wrap ((BitVec.ofInt k.bits a ^^^ BitVec.ofInt k.bits b).toNat)
def N6 (k : IntKind) (a b : Int) : Int := k.wrap ((BitVec.ofInt k.bits a &&& ~~~ BitVec.ofInt k.bits b).toNat)
def Dz (op : BinOp) (k : IntKind) (a b : Int) : Option D :=
  match op with
  | .add => some (.int k (k.wrap (a + b)))
  | .sub => some (.int k (k.wrap (a - b)))
  | .mul => some (.int k (k.wrap (a * b)))
  | .quo => if b = 0 then none else some (.int k (k.wrap (a.tdiv b)))
  | .rem => if b = 0 then none else some (.int k (a.tmod b))
  | .and => some (.int k (J9 k a b))
  | .or => some (.int k (bOr k a b))
  | .xor => some (.int k (ZV k a b))
  | .andNot => some (.int k (N6 k a b))
  | .eql => some (.bool (a == b))
  | .neq => some (.bool (a != b))
  | .lss => some (.bool (decide (a < b)))
  | .leq => some (.bool (decide (a ≤ b)))
  | .gtr => some (.bool (decide (b < a)))
  | .geq => some (.bool (decide (b ≤ a)))
  | .shl | .shr => none
def KM (op : BinOp) (k : IntKind) (a b : Int) : Option D :=
  if b < 0 then none else
  match op with
  | .shl => some (.int k (k.wrap (a * 2 ^ (min b.toNat k.bits))))
  | .shr => some (.int k (a.fdiv (2 ^ (min b.toNat k.bits))))
  | _ => none

theorem Lq {P : Program} {w : World} {op : BinOp} {k yk : IntKind} {t : TypeId} {a b : Int} {x : D} (h : KM op k a b = some x) {ok : Nat → Prop} :
    ∃ v, (binOp op t (.int k a) (.int yk b)).run P w = .ok v w ∧ RD w ok x v := by
  unfold KM at h
  split at h
  · cases h
  · rename_i hb
    cases op <;> simp at h <;> subst h
    · exact ⟨_, by simp [binOp, Op.shift, hb], .int⟩
    · exact ⟨_, by simp [binOp, Op.shift, hb], .int⟩

theorem K3 {P : Program} {w : World} {op : BinOp} {k : IntKind} {t : TypeId} {a b : Int} {x : D} (h : Dz op k a b = some x) {ok : Nat → Prop} :
    ∃ v, (binOp op t (.int k a) (.int k b)).run P w = .ok v w ∧ RD w ok x v := by
  cases op <;> simp only [Dz] at h
  case quo | rem =>
    split at h
    · cases h
    · rename_i hb; cases h; exact ⟨_, (by simp [binOp, Op.intDiv, hb] <;> rfl), .int⟩
  case shl | shr => cases h
  case add | sub | mul => cases h; exact ⟨_, (by simp [binOp, Op.intArith] <;> rfl), .int⟩
  case and | or | xor | andNot => cases h; exact ⟨_, (by simp only [binOp, Op.intBits, ne_eq, not_true_eq_false, if_false]; rfl), .int⟩
  all_goals cases h; exact ⟨_, (by simp [binOp, Op.intCmp] <;> rfl), .bool⟩

def G8 (op : BinOp) (a b : ByteArray) : Option D :=
  match op with
  | .add => if a.size + b.size ≤ 9223372036854775807 then some (.str (a ++ b)) else none
  | .eql => some (.bool (a.toList == b.toList))
  | .neq => some (.bool (!(a.toList == b.toList)))
  | .lss => some (.bool (Op.bytesLess a.toList b.toList))
  | .leq => some (.bool (Op.bytesLess a.toList b.toList || a.toList == b.toList))
  | .gtr => some (.bool (!(Op.bytesLess a.toList b.toList || a.toList == b.toList)))
  | .geq => some (.bool (!(Op.bytesLess a.toList b.toList)))
  | _ => none
theorem K4 {P : Program} {w : World} {op : BinOp} {t : TypeId} {a b : ByteArray} {x : D} (h : G8 op a b = some x) {ok : Nat → Prop} :
    ∃ v, (binOp op t (.string a) (.string b)).run P w = .ok v w ∧ RD w ok x v := by
  cases op <;> simp only [G8] at h
  case add =>
    split at h
    · rename_i hle
      cases h
      refine ⟨.string (a ++ b), ?_, .str⟩
      have : ¬ (((a.size + b.size : Nat) : Int) > IntKind.i64.max) := by
        have : IntKind.i64.max = 9223372036854775807 := by decide
        rw [this]; omega
      simp only [binOp, Op.stringOp, if_neg this]; rfl
    · cases h
  case eql | neq | lss | leq | gtr | geq => cases h; exact ⟨_, (by simp [binOp, Op.stringOp] <;> rfl), .bool⟩
  all_goals cases h

def FX (P : Program) (op : BinOp) (t : TypeId) (a b : Bool) : Option D :=
  match op, P.underlying t with
  | .eql, some .bool => some (.bool (a == b))
  | .neq, some .bool => some (.bool (a != b))
  | _, _ => none
theorem KA {P : Program} {w : World} {op : BinOp} {t : TypeId} {a b : Bool} {x : D} (h : FX P op t a b = some x) {ok : Nat → Prop} :
    ∃ v, (binOp op t (.bool a) (.bool b)).run P w = .ok v w ∧ RD w ok x v := by
  unfold FX at h
  split at h
  · rename_i hu; cases h
    exact ⟨_, by simp only [binOp, Sem.run_bind, run_equal_bool w t a b hu, Result.andThen_ok, Sem.run_pure], .bool⟩
  · rename_i hu; cases h
    exact ⟨.bool (!(a == b)), by simp only [binOp, Sem.run_bind, run_equal_bool w t a b hu, Result.andThen_ok, Sem.run_pure], .bool⟩
  · cases h

def Ba (P : Program) (t : TypeId) (x y : AV) : Option Bool :=
  match P.underlying t, x, y with
  | some (.int _), .d (.int k a), .d (.int k' b) => if k = k' then some (a == b) else none
  | some .bool, .d (.bool a), .d (.bool b) => some (a == b)
  | some .string, .d (.str a), .d (.str b) => some (a.toList == b.toList)
  | _, _, _ => none
def KB (P : Program) : Nat → List Field → List AV → List AV → Option Bool
  | _, [], [], [] => some true
  | j, f :: fs, x :: l, y :: l' => if f.name ≠ "_" ∧ f.offset = j then (Ba P f.type x y).bind fun b => (KB P (j + 1) fs l l').map fun r => b && r else none
  | _, _, _, _ => none
def G9 (P : Program) (e : TypeId) : List AV → List AV → Option Bool
  | [], [] => some true
  | x :: l, y :: l' => (Ba P e x y).bind fun b => (G9 P e l l').map fun r => b && r
  | _, _ => none
def DY (P : Program) : Nat → List Field → List AV → List AV → Option Bool
  | _, [], [], [] => some true
  | j, f :: fs, x :: l, y :: l' => if f.name ≠ "_" ∧ f.offset = j then
      (match P.underlying f.type with
        | some (.struct gs) => if P.stoodInHeld f.type then none else (Ad P f.type).bind fun z => if z ≤ l.length + 1 ∧ z ≤ l'.length + 1 then
            (KB P 0 gs.toList ((x :: l).take z) ((y :: l').take z)).bind fun b => (DY P (j + z) fs ((x :: l).drop z) ((y :: l').drop z)).map fun r => b && r else none
        | _ => (Ba P f.type x y).bind fun b => (DY P (j + 1) fs l l').map fun r => b && r) else none
  | _, _, _, _ => none
def eqA (P : Program) (t : TypeId) (l l' : List AV) : Option Bool :=
  if P.eqGuardType P.depth t then none else
  match P.underlying t with
  | some (.struct fs) => if P.stoodInHeld t then none else DY P 0 fs.toList l l'
  | some (.array n e) => if Ad P e = some 1 ∧ l.length = n then G9 P e l l' else none
  | _ => none

section
variable {P : Program} {w : World} {ok : Nat → Prop} {p : Pl}
theorem EU {t : TypeId} {x y : AV} {r : Bool} (h : Ba P t x y = some r) {u v : Value} (hu : RA w ok p x u) (hv : RA w ok p y v) (d : Nat) :
    (Op.equalIn (d + 1) t u v).run P w = .ok r w ∧ (∀ (cs : Array Value) (o : Nat) (z : Value), cs[o]? = some z → (part t cs o).run P w = .ok z w) := by
  unfold Ba at h
  split at h
  · rename_i k0 k a k' b hut
    split at h
    case isFalse => cases h
    cases h
    rename_i hk
    subst hk
    cases hu with | d hu => cases hu with | int => cases hv with | d hv => cases hv with | int =>
    exact ⟨run_equalIn_int w d t k k0 a b hut, fun cs o z hz => by simp [part, isAgg, run_underlying hut, hz]⟩
  · rename_i a b hut
    cases h
    cases hu with | d hu => cases hu with | bool => cases hv with | d hv => cases hv with | bool =>
    exact ⟨run_equalIn_bool w d t a b hut, fun cs o z hz => by simp [part, isAgg, run_underlying hut, hz]⟩
  · rename_i a b hut
    cases h
    cases hu with | d hu => cases hu with | str => cases hv with | d hv => cases hv with | str =>
    exact ⟨run_equalIn_string w d t a b hut, fun cs o z hz => by simp [part, isAgg, run_underlying hut, hz]⟩
  · cases h

theorem Mv {xs ys : Array Value} (d : Nat) : ∀ (fs : List Field) (j : Nat) (l l' : List AV) (r : Bool), KB P j fs l l' = some r →
    (∀ (i : Nat) (a : AV), l[i]? = some a → ∃ v, xs[j + i]? = some v ∧ RA w ok p a v) → (∀ (i : Nat) (a : AV), l'[i]? = some a → ∃ v, ys[j + i]? = some v ∧ RA w ok p a v) →
    (Op.eqFields (d + 1) xs ys fs).run P w = .ok r w := by
  intro fs
  induction fs with
  | nil =>
    intro j l l' r h _ _
    cases l <;> cases l' <;> simp [KB] at h
    subst h
    simp [Op.eqFields]
  | cons f fs ih =>
    intro j l l' r h hx hy
    cases l with
    | nil => simp [KB] at h
    | cons x l =>
      cases l' with
      | nil => simp [KB] at h
      | cons y l' =>
        simp only [KB] at h
        split at h
        case isFalse => cases h
        rename_i hf
        obtain ⟨hn, ho⟩ := hf
        cases hb : Ba P f.type x y with
        | none => simp [hb] at h
        | some b =>
          cases hr : KB P (j + 1) fs l l' with
          | none => simp [hb, hr] at h
          | some r' =>
            simp [hb, hr] at h
            obtain ⟨u, hu1, hu2⟩ := hx 0 x rfl
            obtain ⟨v, hv1, hv2⟩ := hy 0 y rfl
            obtain ⟨he, hp⟩ := EU hb hu2 hv2 d
            have := ih (j + 1) l l' r' hr (fun i a ha => by have := hx (i + 1) a (by simpa using ha); rwa [show j + (i + 1) = j + 1 + i by omega] at this)
              (fun i a ha => by have := hy (i + 1) a (by simpa using ha); rwa [show j + (i + 1) = j + 1 + i by omega] at this)
            have p1 := hp xs f.offset u (by rw [ho]; exact hu1)
            have p2 := hp ys f.offset v (by rw [ho]; exact hv1)
            simp only [Op.eqFields, if_pos hn, Sem.run_bind, p1, p2, he, Result.andThen_ok, Sem.run_ite, this]
            cases b <;> simp_all

theorem Hj {xs ys : Array Value} (d : Nat) : ∀ (fs : List Field) (j : Nat) (l l' : List AV) (r : Bool), DY P j fs l l' = some r →
    (∀ (i : Nat) (a : AV), l[i]? = some a → ∃ v, xs[j + i]? = some v ∧ RA w ok p a v) → (∀ (i : Nat) (a : AV), l'[i]? = some a → ∃ v, ys[j + i]? = some v ∧ RA w ok p a v) →
    (Op.eqFields (d + 2) xs ys fs).run P w = .ok r w := by
  intro fs
  induction fs with
  | nil =>
    intro j l l' r h _ _
    cases l <;> cases l' <;> simp [DY] at h
    subst h
    simp [Op.eqFields]
  | cons f fs ih =>
    intro j l l' r h hx hy
    cases l with
    | nil => simp [DY] at h
    | cons x l =>
      cases l' with
      | nil => simp [DY] at h
      | cons y l' =>
        simp only [DY] at h
        split at h
        case isFalse => cases h
        rename_i hf
        obtain ⟨hn, ho⟩ := hf
        split at h
        · rename_i gs hgs
          split at h
          · cases h
          rename_i hst
          cases hz : Ad P f.type with
          | none => simp [hz] at h
          | some z =>
            simp only [hz, Option.bind_some] at h
            split at h
            case isFalse => cases h
            rename_i hle
            cases hb : KB P 0 gs.toList ((x :: l).take z) ((y :: l').take z) with
            | none => simp [hb] at h
            | some b =>
              cases hr : DY P (j + z) fs ((x :: l).drop z) ((y :: l').drop z) with
              | none => simp [hb, hr] at h
              | some r' =>
                simp [hb, hr] at h
                have hag : Ao P f.type = true := by unfold Ao; rw [hgs]
                have hu : (P.underlying f.type).isSome = true := by rw [hgs]; rfl
                have p1 : (part f.type xs f.offset).run P w = .ok (.agg (xs.extract f.offset (f.offset + z))) w := by
                  simp only [part, Sem.run_bind, Be hu, hag, Result.andThen, if_true, AU hz]; rfl
                have p2 : (part f.type ys f.offset).run P w = .ok (.agg (ys.extract f.offset (f.offset + z))) w := by
                  simp only [part, Sem.run_bind, Be hu, hag, Result.andThen, if_true, AU hz]; rfl
                have get1 : ∀ {us : Array Value} {m : List AV}, (∀ (i : Nat) (a : AV), m[i]? = some a → ∃ v, us[j + i]? = some v ∧ RA w ok p a v) → ∀ (i : Nat) (a : AV), (m.take z)[i]? = some a → ∃ v, (us.extract f.offset (f.offset + z))[0 + i]? = some v ∧ RA w ok p a v := fun {us m} hm i a ha => by
                  rw [List.getElem?_take] at ha
                  split at ha
                  case isFalse => cases ha
                  rename_i hiz
                  obtain ⟨v, h1, h2⟩ := hm i a ha
                  refine ⟨v, ?_, h2⟩
                  have hlt := (Array.getElem?_eq_some_iff.1 h1).1
                  rw [Nat.zero_add, Array.getElem?_extract, if_pos (by omega), ho]; exact h1
                have he : (Op.equalIn (d + 2) f.type (.agg (xs.extract f.offset (f.offset + z))) (.agg (ys.extract f.offset (f.offset + z)))).run P w = .ok b w := by
                  have hfs : P.fieldsOf f.type = gs := by simp [Program.fieldsOf, hgs]
                  have := run_equalIn_struct (P := P) w (d + 1) f.type (xs.extract f.offset (f.offset + z)) (ys.extract f.offset (f.offset + z)) (by rw [hfs]; exact hgs) (by simpa using hst)
                  rw [hfs] at this
                  exact this.trans (Mv d gs.toList 0 _ _ b hb (get1 hx) (get1 hy))
                have drop1 : ∀ {us : Array Value} {m : List AV}, (∀ (i : Nat) (a : AV), m[i]? = some a → ∃ v, us[j + i]? = some v ∧ RA w ok p a v) → ∀ (i : Nat) (a : AV), (m.drop z)[i]? = some a → ∃ v, us[j + z + i]? = some v ∧ RA w ok p a v := fun {us m} hm i a ha => by
                  rw [List.getElem?_drop] at ha
                  have := hm (z + i) a ha
                  rwa [← Nat.add_assoc] at this
                have := ih (j + z) _ _ r' hr (drop1 hx) (drop1 hy)
                simp only [Op.eqFields, if_pos hn, Sem.run_bind, p1, p2, he, Result.andThen_ok, Sem.run_ite, this]
                cases b <;> simp_all
        · cases hb : Ba P f.type x y with
          | none => simp [hb] at h
          | some b =>
            cases hr : DY P (j + 1) fs l l' with
            | none => simp [hb, hr] at h
            | some r' =>
              simp [hb, hr] at h
              obtain ⟨u, hu1, hu2⟩ := hx 0 x rfl
              obtain ⟨v, hv1, hv2⟩ := hy 0 y rfl
              obtain ⟨he, hp⟩ := EU hb hu2 hv2 (d + 1)
              have := ih (j + 1) l l' r' hr (fun i a ha => by have := hx (i + 1) a (by simpa using ha); rwa [show j + (i + 1) = j + 1 + i by omega] at this)
                (fun i a ha => by have := hy (i + 1) a (by simpa using ha); rwa [show j + (i + 1) = j + 1 + i by omega] at this)
              have p1 := hp xs f.offset u (by rw [ho]; exact hu1)
              have p2 := hp ys f.offset v (by rw [ho]; exact hv1)
              simp only [Op.eqFields, if_pos hn, Sem.run_bind, p1, p2, he, Result.andThen_ok, Sem.run_ite, this]
              cases b <;> simp_all

theorem Ii {e : TypeId} {xs ys : Array Value} (d : Nat) : ∀ (l l' : List AV) (j : Nat) (r : Bool), G9 P e l l' = some r →
    (∀ (i : Nat) (a : AV), l[i]? = some a → ∃ v, xs[j + i]? = some v ∧ RA w ok p a v) → (∀ (i : Nat) (a : AV), l'[i]? = some a → ∃ v, ys[j + i]? = some v ∧ RA w ok p a v) →
    (Op.eqItems (d + 1) e 1 xs ys (List.range' j l.length)).run P w = .ok r w := by
  intro l
  induction l with
  | nil =>
    intro l' j r h _ _
    cases l' <;> simp [G9] at h
    subst h
    simp [Op.eqItems]
  | cons x l ih =>
    intro l' j r h hx hy
    cases l' with
    | nil => simp [G9] at h
    | cons y l' =>
      simp only [G9] at h
      cases hb : Ba P e x y with
      | none => simp [hb] at h
      | some b =>
        cases hr : G9 P e l l' with
        | none => simp [hb, hr] at h
        | some r' =>
          simp [hb, hr] at h
          obtain ⟨u, hu1, hu2⟩ := hx 0 x rfl
          obtain ⟨v, hv1, hv2⟩ := hy 0 y rfl
          obtain ⟨he, hp⟩ := EU hb hu2 hv2 d
          have := ih l' (j + 1) r' hr (fun i a ha => by have := hx (i + 1) a (by simpa using ha); rwa [show j + (i + 1) = j + 1 + i by omega] at this)
            (fun i a ha => by have := hy (i + 1) a (by simpa using ha); rwa [show j + (i + 1) = j + 1 + i by omega] at this)
          have p1 := hp xs (j * 1) u (by simpa using hu1)
          have p2 := hp ys (j * 1) v (by simpa using hv1)
          simp only [List.length_cons, List.range'_succ, Op.eqItems, Sem.run_bind, p1, p2, he, Result.andThen_ok, Sem.run_ite, this]
          cases b <;> simp_all

theorem HA {t : TypeId} {l l' : List AV} {r : Bool} (h : eqA P t l l' = some r) {u v : Value} (hu : RA w ok p (.agg l) u) (hv : RA w ok p (.agg l') v) :
    ∃ xs ys, u = .agg xs ∧ v = .agg ys ∧ (∀ op x y, (eqGuard op t x y u v).run P w = .ok () w) ∧ (binOp .eql t u v).run P w = .ok (.bool r) w ∧ (binOp .neq t u v).run P w = .ok (.bool (!r)) w := by
  cases hu with
  | agg hl hx hx1 =>
    rename_i xs
    cases hv with
    | agg hl' hy hy1 =>
      rename_i ys
      have hx' : ∀ (i : Nat) (a : AV), l[i]? = some a → ∃ v, xs[0 + i]? = some v ∧ RA w ok p a v := fun i a ha => by
        have hi : i < xs.size := by have := (List.getElem?_eq_some_iff.1 ha).1; omega
        exact ⟨xs[i], by simp [hi], hx i a _ ha (by simp [hi])⟩
      have hy' : ∀ (i : Nat) (a : AV), l'[i]? = some a → ∃ v, ys[0 + i]? = some v ∧ RA w ok p a v := fun i a ha => by
        have hi : i < ys.size := by have := (List.getElem?_eq_some_iff.1 ha).1; omega
        exact ⟨ys[i], by simp [hi], hy i a _ ha (by simp [hi])⟩
      unfold eqA at h
      split at h
      · cases h
      rename_i hg
      have hg' : P.eqGuardType P.depth t = false := by simpa using hg
      have key : (Op.equalIn 10000 t (.agg xs) (.agg ys)).run P w = .ok r w := by
        split at h
        · rename_i fs hs
          split at h
          · cases h
          rename_i hp
          have hfs : P.fieldsOf t = fs := by simp [Program.fieldsOf, hs]
          have := run_equalIn_struct (P := P) w 9999 t xs ys (by rw [hfs]; exact hs) (by simpa using hp)
          rw [hfs] at this
          exact this.trans (Hj 9997 fs.toList 0 l l' r h hx' hy')
        · rename_i n e hs
          split at h
          case isFalse => cases h
          rename_i hh
          obtain ⟨hz, hn⟩ := hh
          have hi : ∃ i, P.info? e = some i := by
            unfold Ad at hz
            cases hi : P.info? e with
            | none => simp [hi] at hz
            | some i => exact ⟨i, rfl⟩
          obtain ⟨i, hi⟩ := hi
          have hc : P.cellsOf e = 1 := by simp [Ad, hi] at hz; simp [Program.cellsOf, hi, hz]
          have := run_equalIn_array (P := P) w 9999 xs ys hs hi
          rw [hc, List.range_eq_range', ← hn] at this
          exact this.trans (Ii 9998 l l' 0 r h hx' hy')
        · cases h
      exact ⟨xs, ys, rfl, rfl, fun op x y => run_eqGuard_agg w op t x y xs ys hg', by rw [run_eql_struct, key]; rfl, by rw [run_neq_struct, key]; rfl⟩
end

def Mw (P : Program) (op : BinOp) (t : TypeId) (x y : AV) : Option AV :=
  match x, y with
  | .d (.int k a), .d (.int k' b) => (match op with
    | .shl | .shr => KM op k a b
    | _ => if k = k' then Dz op k a b else none).map .d
  | .d (.str a), .d (.str b) => (G8 op a b).map .d
  | .d (.bool a), .d (.bool b) => (FX P op t a b).map .d
  | .agg l, .agg l' => match op with
    | .eql => (eqA P t l l').map fun r => .d (.bool r)
    | .neq => (eqA P t l l').map fun r => .d (.bool !r)
    | _ => none
  | .d (.slice (_ :: _)), .nilS => match op, P.underlying t with
    | .eql, some (.slice _) => some (.d (.bool false))
    | .neq, some (.slice _) => some (.d (.bool true))
    | _, _ => none
  | .nilS, .nilS => match op, P.underlying t with
    | .eql, some (.slice _) => some (.d (.bool true))
    | .neq, some (.slice _) => some (.d (.bool false))
    | _, _ => none
  | .d .nilp, .d .nilp => match op, P.underlying t with
    | .eql, some (.pointer _) => some (.d (.bool true))
    | .neq, some (.pointer _) => some (.d (.bool false))
    | _, _ => none
  | .cptr _ _, .d .nilp => match op, P.underlying t with
    | .eql, some (.pointer _) => some (.d (.bool false))
    | .neq, some (.pointer _) => some (.d (.bool true))
    | _, _ => none
  | .ptr _ _, .d .nilp => match op, P.underlying t with
    | .eql, some (.pointer _) => some (.d (.bool false))
    | .neq, some (.pointer _) => some (.d (.bool true))
    | _, _ => none
  | _, _ => none

theorem Bb {P : Program} {w : World} {t e : TypeId} (h : P.underlying t = some (.slice e)) (a : Option Addr) (n c : Nat) :
    (binOp .eql t (.slice a n c) (.slice none 0 0)).run P w = .ok (.bool a.isNone) w ∧ (binOp .neq t (.slice a n c) (.slice none 0 0)).run P w = .ok (.bool (!a.isNone)) w := by
  have h9 : (Op.equalIn 10000 t (.slice a n c) (.slice none 0 0)).run P w = .ok a.isNone w := by
    have : ∀ d, (Op.equalIn (d + 1) t (.slice a n c) (.slice none 0 0)).run P w = .ok a.isNone w := fun d => by
      cases a <;> simp [Op.equalIn, run_underlying h]
    exact this 9999
  constructor
  · simp only [binOp, Sem.run_bind, Op.equal, Op.maxDepth, h9, Result.andThen_ok, Sem.run_pure]
  · simp only [binOp, Sem.run_bind, Op.equal, Op.maxDepth, h9, Result.andThen_ok, Sem.run_pure]

theorem CE {P : Program} {w : World} {t e : TypeId} (h : P.underlying t = some (.pointer e)) (a : Option Addr) :
    (binOp .eql t (.pointer a) (.pointer none)).run P w = .ok (.bool a.isNone) w ∧ (binOp .neq t (.pointer a) (.pointer none)).run P w = .ok (.bool (!a.isNone)) w := by
  have h9 : (Op.equalIn 10000 t (.pointer a) (.pointer none)).run P w = .ok a.isNone w := by
    have : ∀ d, (Op.equalIn (d + 1) t (.pointer a) (.pointer none)).run P w = .ok a.isNone w := fun d => by
      cases a <;> simp [Op.equalIn, run_underlying h]
    exact this 9999
  constructor
  · simp only [binOp, Sem.run_bind, Op.equal, Op.maxDepth, h9, Result.andThen_ok, Sem.run_pure]
  · simp only [binOp, Sem.run_bind, Op.equal, Op.maxDepth, h9, Result.andThen_ok, Sem.run_pure]

theorem EV {P : Program} {w : World} {ok : Nat → Prop} {p : Pl} {op : BinOp} {t : TypeId} {x y z : AV} (h : Mw P op t x y = some z) {u v : Value} (hu : RA w ok p x u) (hv : RA w ok p y v) (ox oy : Operand) :
    ∃ r, (do eqGuard op t ox oy u v; binOp op t u v : Sem Value).run P w = .ok r w ∧ RA w ok p z r := by
  unfold Mw at h
  split at h
  · rename_i k a k' b
    cases hu with | d hu => cases hu with | int => cases hv with | d hv => cases hv with | int =>
    have hg : (eqGuard op t ox oy (.int k a) (.int k' b)).run P w = .ok () w := by cases op <;> simp [eqGuard]
    simp only [Sem.run_bind, hg, Result.andThen_ok]
    cases hd : (match op with | .shl | .shr => KM op k a b | _ => if k = k' then Dz op k a b else none) with
    | none => rw [hd] at h; cases h
    | some d =>
      rw [hd] at h
      cases h
      have hs : ∀ (hq : KM op k a b = some d), ∃ r, (binOp op t (.int k a) (.int k' b)).run P w = .ok r w ∧ RA w ok p (.d d) r := fun hq => by
        obtain ⟨r, h1, h2⟩ := Lq (P := P) (w := w) (yk := k') (t := t) hq (ok := ok)
        exact ⟨r, h1, .d h2⟩
      have hi : ∀ (hq : (if k = k' then Dz op k a b else none) = some d), ∃ r, (binOp op t (.int k a) (.int k' b)).run P w = .ok r w ∧ RA w ok p (.d d) r := fun hq => by
        by_cases hk : k = k'
        · rw [if_pos hk] at hq
          obtain ⟨r, h1, h2⟩ := K3 (P := P) (w := w) (t := t) hq (ok := ok)
          rw [← hk]
          exact ⟨r, h1, .d h2⟩
        · rw [if_neg hk] at hq; cases hq
      cases op <;> first | exact hs hd | exact hi hd
  · rename_i a b
    cases hu with | d hu => cases hu with | str => cases hv with | d hv => cases hv with | str =>
    have hg : (eqGuard op t ox oy (.string a) (.string b)).run P w = .ok () w := by cases op <;> simp [eqGuard]
    simp only [Sem.run_bind, hg, Result.andThen_ok]
    cases hd : G8 op a b with
    | none => rw [hd] at h; cases h
    | some d =>
      rw [hd] at h; cases h
      obtain ⟨r, h1, h2⟩ := K4 (P := P) (w := w) (t := t) hd (ok := ok)
      exact ⟨r, h1, .d h2⟩
  · rename_i a b
    cases hu with | d hu => cases hu with | bool => cases hv with | d hv => cases hv with | bool =>
    have hg : (eqGuard op t ox oy (.bool a) (.bool b)).run P w = .ok () w := by cases op <;> simp [eqGuard]
    simp only [Sem.run_bind, hg, Result.andThen_ok]
    cases hd : FX P op t a b with
    | none => rw [hd] at h; cases h
    | some d =>
      rw [hd] at h; cases h
      obtain ⟨r, h1, h2⟩ := KA (P := P) (w := w) (t := t) hd (ok := ok)
      exact ⟨r, h1, .d h2⟩
  · rename_i l l'
    split at h
    · cases hd : eqA P t l l' with
      | none => rw [hd] at h; cases h
      | some r =>
        rw [hd] at h; cases h
        obtain ⟨xs, ys, _, _, hg, h1, _⟩ := HA hd hu hv
        simp only [Sem.run_bind, hg, Result.andThen_ok]
        exact ⟨_, h1, .d .bool⟩
    · cases hd : eqA P t l l' with
      | none => rw [hd] at h; cases h
      | some r =>
        rw [hd] at h; cases h
        obtain ⟨xs, ys, _, _, hg, _, h1⟩ := HA hd hu hv
        simp only [Sem.run_bind, hg, Result.andThen_ok]
        exact ⟨_, h1, .d .bool⟩
    · cases h
  · cases hu with | d hu => cases hu with | slice z vs hz hok hc hcell hd => cases hv with | nilS =>
    rename_i b c
    have hg : ∀ op n c, (eqGuard op t ox oy (.slice (some b) n c) (.slice none 0 0)).run P w = .ok () w := fun op n c => by cases op <;> simp [eqGuard]
    simp only [Sem.run_bind, hg, Result.andThen_ok]
    split at h
    · rename_i e hs; cases h; exact ⟨_, (Bb hs _ _ _).1, .d .bool⟩
    · rename_i e hs; cases h; exact ⟨_, (Bb hs _ _ _).2, .d .bool⟩
    · cases h
  · cases hu with | nilS => cases hv with | nilS =>
    have hg : ∀ op, (eqGuard op t ox oy (.slice none 0 0) (.slice none 0 0)).run P w = .ok () w := fun op => by cases op <;> simp [eqGuard]
    simp only [Sem.run_bind, hg, Result.andThen_ok]
    split at h
    · rename_i e hs; cases h; exact ⟨_, (Bb hs _ _ _).1, .d .bool⟩
    · rename_i e hs; cases h; exact ⟨_, (Bb hs _ _ _).2, .d .bool⟩
    · cases h
  · cases hu with | d hu => cases hu with | nilp => cases hv with | d hv => cases hv with | nilp =>
    have hg : ∀ op a, (eqGuard op t ox oy (.pointer a) (.pointer none)).run P w = .ok () w := fun op a => by cases op <;> simp [eqGuard]
    simp only [Sem.run_bind, hg, Result.andThen_ok]
    split at h
    · rename_i e hs; cases h; exact ⟨_, (CE hs _).1, .d .bool⟩
    · rename_i e hs; cases h; exact ⟨_, (CE hs _).2, .d .bool⟩
    · cases h
  · cases hu with | cptr vs h1 h2 h3 => cases hv with | d hv => cases hv with | nilp =>
    have hg : ∀ op a, (eqGuard op t ox oy (.pointer a) (.pointer none)).run P w = .ok () w := fun op a => by cases op <;> simp [eqGuard]
    simp only [Sem.run_bind, hg, Result.andThen_ok]
    split at h
    · rename_i e hs; cases h; exact ⟨_, (CE hs _).1, .d .bool⟩
    · rename_i e hs; cases h; exact ⟨_, (CE hs _).2, .d .bool⟩
    · cases h
  · cases hu with | ptr hn => cases hv with | d hv => cases hv with | nilp =>
    have hg : ∀ op a, (eqGuard op t ox oy (.pointer a) (.pointer none)).run P w = .ok () w := fun op a => by cases op <;> simp [eqGuard]
    simp only [Sem.run_bind, hg, Result.andThen_ok]
    split at h
    · rename_i e hs; cases h; exact ⟨_, (CE hs _).1, .d .bool⟩
    · rename_i e hs; cases h; exact ⟨_, (CE hs _).2, .d .bool⟩
    · cases h
  · cases h

end Go.Vl

namespace Go.Vl
open Go

def An : AV → Option (List AV)
  | .agg l => some l
  | .undef | .tup _ => none
  | x => some [x]
def DZ (place : Nat → Option (Nat × Nat)) (cells : List AV) : List (Nat × AV) → Option (List AV)
  | [] => some cells
  | (i, x) :: rest => match place i with
    | none => none
    | some (off, size) => (An x).bind fun l => if l.length = size ∧ off + size ≤ cells.length then DZ place (cells.take off ++ (l ++ cells.drop (off + size))) rest else none

theorem RA.one {w : World} {ok : Nat → Prop} {p : Pl} {x : AV} {l : List AV} {v : Value} (h : RA w ok p x v) (hx : An x = some l) (hp : ∀ n, p.lv n → (p.rw n).oneCell' = true) :
    v.cells.size = l.length ∧ (∀ (i : Nat) (a : AV) (u : Value), l[i]? = some a → v.cells[i]? = some u → RA w ok p a u) ∧ ∀ (i : Nat) (u : Value), v.cells[i]? = some u → u.oneCell' = true := by
  cases h with
  | agg hl h h1 => simp [An] at hx; subst hx; exact ⟨hl, h, h1⟩
  | undef => simp [An] at hx
  | tup => simp [An] at hx
  | d h =>
    rename_i x
    simp [An] at hx; subst hx
    have h1 := h.one
    have hc : v.cells = #[v] := by cases v <;> simp_all [Value.cells, Value.oneCell']
    rw [hc]
    exact ⟨rfl, fun i a u ha hu => by cases i <;> simp at ha hu; subst ha; subst hu; exact .d h, fun i u hu => by cases i <;> simp at hu; subst hu; exact h1⟩
  | vec hn =>
    rename_i n
    simp [An] at hx; subst hx
    have h1 := hp n hn
    have hc : (p.rw n).cells = #[p.rw n] := by cases hh : p.rw n <;> simp_all [Value.cells, Value.oneCell']
    rw [hc]
    exact ⟨rfl, fun i a u ha hu => by cases i <;> simp at ha hu; subst ha; subst hu; exact .vec hn, fun i u hu => by cases i <;> simp at hu; subst hu; exact h1⟩
  | nilS => simp [An] at hx; subst hx; exact ⟨rfl, fun i a u ha hu => by cases i <;> simp [Value.cells] at ha hu; subst ha; subst hu; exact .nilS, fun i u hu => by cases i <;> simp [Value.cells] at hu; subst hu; rfl⟩
  | full h => simp [An] at hx; subst hx; exact ⟨rfl, fun i a u ha hu => by cases i <;> simp [Value.cells] at ha hu; subst ha; subst hu; exact .full h, fun i u hu => by cases i <;> simp [Value.cells] at hu; subst hu; rfl⟩
  | ptr h => simp [An] at hx; subst hx; exact ⟨rfl, fun i a u ha hu => by cases i <;> simp [Value.cells] at ha hu; subst ha; subst hu; exact .ptr h, fun i u hu => by cases i <;> simp [Value.cells] at hu; subst hu; rfl⟩
  | cptr vs h1 h2 h3 => simp [An] at hx; subst hx; exact ⟨rfl, fun i a u ha hu => by cases i <;> simp [Value.cells] at ha hu; subst ha; subst hu; exact .cptr vs h1 h2 h3, fun i u hu => by cases i <;> simp [Value.cells] at hu; subst hu; rfl⟩
  | vptr h1 h2 => simp [An] at hx; subst hx; exact ⟨rfl, fun i a u ha hu => by cases i <;> simp [Value.cells] at ha hu; subst ha; subst hu; exact .vptr h1 h2, fun i u hu => by cases i <;> simp [Value.cells] at hu; subst hu; rfl⟩
  | cut h1 h2 h3 h4 => simp [An] at hx; subst hx; exact ⟨rfl, fun i a u ha hu => by cases i <;> simp [Value.cells] at ha hu; subst ha; subst hu; exact .cut h1 h2 h3 h4, fun i u hu => by cases i <;> simp [Value.cells] at hu; subst hu; rfl⟩
  | cut0 h1 h2 => simp [An] at hx; subst hx; exact ⟨rfl, fun i a u ha hu => by cases i <;> simp [Value.cells] at ha hu; subst ha; subst hu; exact .cut0 h1 h2, fun i u hu => by cases i <;> simp [Value.cells] at hu; subst hu; rfl⟩
  | slen => simp [An] at hx; subst hx; exact ⟨rfl, fun i a u ha hu => by cases i <;> simp [Value.cells] at ha hu; subst ha; subst hu; exact .slen, fun i u hu => by cases i <;> simp [Value.cells] at hu; subst hu; rfl⟩
  | iter => simp [An] at hx; subst hx; exact ⟨rfl, fun i a u ha hu => by cases i <;> simp [Value.cells] at ha hu; subst ha; subst hu; exact .iter, fun i u hu => by cases i <;> simp [Value.cells] at hu; subst hu; rfl⟩
  | fn q1 q2 => simp [An] at hx; subst hx; exact ⟨rfl, fun i a u ha hu => by cases i <;> simp [Value.cells] at ha hu; subst ha; subst hu; exact .fn q1 q2, fun i u hu => by cases i <;> simp [Value.cells] at hu; subst hu; rfl⟩

theorem foldl_set (off : Nat) : ∀ (l : List Value) (k : Nat) (cs : Array Value), off + k + l.length ≤ cs.size →
    ((l.zipIdx k).foldl (fun cs (x : Value × Nat) => cs.setIfInBounds (off + x.2) x.1) cs).toList = cs.toList.take (off + k) ++ (l ++ cs.toList.drop (off + k + l.length))
  | [], k, cs, _ => by simp
  | v :: l, k, cs, h => by
    simp only [List.zipIdx_cons, List.foldl_cons]
    simp only [List.length_cons] at h
    rw [foldl_set off l (k + 1) _ (by simp; omega)]
    have hlt : off + k < cs.size := by omega
    apply List.ext_getElem?
    intro i
    simp only [Array.toList_setIfInBounds, List.getElem?_append, List.getElem?_take, List.getElem?_drop, List.length_take, List.length_set, List.getElem?_set, Array.length_toList,
      List.length_cons]
    by_cases h1 : i < off + k
    · have : i < min (off + (k + 1)) cs.size := by omega
      have h3 : i < off + (k + 1) := by omega
      have h4 : i < min (off + k) cs.size := by omega
      simp only [this, h3, h4, h1, if_true, show ¬ (off + k = i) by omega, if_false]
    · by_cases h2 : i = off + k
      · subst h2
        have : off + k < min (off + (k + 1)) cs.size := by omega
        have h4 : ¬ (off + k < min (off + k) cs.size) := by omega
        simp only [this, if_true, h4, if_false]
        have h5 : off + k - min (off + k) cs.size = 0 := by omega
        simp [h5, hlt, show off + k < off + (k + 1) by omega]
      · have h3 : ¬ (i < min (off + (k + 1)) cs.size) := by omega
        have h4 : ¬ (i < min (off + k) cs.size) := by omega
        simp only [h3, h4, if_false]
        have e1 : i - min (off + (k + 1)) cs.size = i - (off + k + 1) := by omega
        have e2 : i - min (off + k) cs.size = (i - (off + k + 1)) + 1 := by omega
        rw [e1, e2, List.getElem?_cons_succ]
        by_cases h5 : i - (off + k + 1) < l.length
        · simp only [h5, show i - (off + k + 1) + 1 < l.length + 1 by omega, if_true]
        · simp only [h5, show ¬ (i - (off + k + 1) + 1 < l.length + 1) by omega, if_false, show ¬ (off + k = off + (k + 1) + l.length + (i - (off + k + 1) - l.length)) by omega]
          congr 1; omega

theorem E3 {w : World} {ok : Nat → Prop} {p : Pl} (hp : ∀ n, p.lv n → (p.rw n).oneCell' = true) {place : Nat → Option (Nat × Nat)} : ∀ {parts : List (Nat × AV)} {vals : List (Nat × Value)} {cells r : List AV} {cs : Array Value},
    DZ place cells parts = some r → vals.length = parts.length → (∀ (j : Nat) (i k : Nat) (x : AV) (v : Value), parts[j]? = some (i, x) → vals[j]? = some (k, v) → i = k ∧ RA w ok p x v) → cs.size = cells.length →
    (∀ (i : Nat) (a : AV) (v : Value), cells[i]? = some a → cs[i]? = some v → RA w ok p a v) → (∀ (i : Nat) (v : Value), cs[i]? = some v → v.oneCell' = true) →
    ∃ cs', Instr.fill place cs vals = some cs' ∧ cs'.size = r.length ∧ (∀ (i : Nat) (a : AV) (v : Value), r[i]? = some a → cs'[i]? = some v → RA w ok p a v) ∧ ∀ (i : Nat) (v : Value), cs'[i]? = some v → v.oneCell' = true := by
  intro parts
  induction parts with
  | nil =>
    intro vals cells r cs h hl _ hs hr h1
    cases vals with
    | nil => simp [DZ] at h; subst h; exact ⟨cs, rfl, hs, hr, h1⟩
    | cons => simp at hl
  | cons part parts ih =>
    intro vals cells r cs h hl hv hs hr h1
    cases vals with
    | nil => simp at hl
    | cons val vals =>
      obtain ⟨i, x⟩ := part
      obtain ⟨k, v⟩ := val
      obtain ⟨hik, hxv⟩ := hv 0 i k x v rfl rfl
      subst hik
      simp only [DZ] at h
      cases hpl : place i with
      | none => simp [hpl] at h
      | some os =>
        obtain ⟨off, size⟩ := os
        simp only [hpl] at h
        cases hc : An x with
        | none => simp [hc] at h
        | some l =>
          simp only [hc, Option.bind_some] at h
          split at h
          case isFalse => cases h
          rename_i hle
          obtain ⟨hl1, hl2⟩ := hle
          obtain ⟨g1, g2, g3⟩ := hxv.one hc hp
          have hsz : ¬ (v.cells.size ≠ size || decide (off + v.cells.size > cs.size)) = true := by simp; omega
          simp only [Instr.fill, hpl]
          rw [if_neg hsz]
          have hfold := foldl_set off v.cells.toList 0 cs (by simp; omega)
          rw [← Array.foldl_toList, Array.toList_zipIdx]
          generalize hW : (List.foldl (fun cs (x : Value × Nat) => cs.setIfInBounds (off + x.2) x.1) cs (v.cells.toList.zipIdx 0)) = cs1 at hfold ⊢
          have hcs1 : cs1.size = cells.length := by rw [← Array.length_toList, hfold]; simp; omega
          have hget : ∀ i, cs1[i]? = if i < off then cs[i]? else if i < off + size then v.cells[i - off]? else cs[i]? := fun i => by
            rw [← Array.getElem?_toList, hfold]
            simp only [List.getElem?_append, List.length_take, Array.length_toList, List.getElem?_take, Array.getElem?_toList, List.getElem?_drop, Nat.add_zero]
            by_cases h1 : i < off
            · rw [if_pos (by omega), if_pos h1, if_pos h1]
            · rw [if_neg (by omega), if_neg h1]
              have e1 : i - min off cs.size = i - off := by omega
              rw [e1]
              by_cases h2 : i < off + size
              · rw [if_pos (by omega), if_pos h2]
              · rw [if_neg (by omega), if_neg h2]; congr 1; omega
          have hgetA : ∀ i, (cells.take off ++ (l ++ cells.drop (off + size)))[i]? = if i < off then cells[i]? else if i < off + size then l[i - off]? else cells[i]? := fun i => by
            simp only [List.getElem?_append, List.length_take, List.getElem?_take, List.getElem?_drop]
            by_cases h1 : i < off
            · rw [if_pos (by omega), if_pos h1, if_pos h1]
            · rw [if_neg (by omega), if_neg h1]
              have e1 : i - min off cells.length = i - off := by omega
              rw [e1]
              by_cases h2 : i < off + size
              · rw [if_pos (by omega), if_pos h2]
              · rw [if_neg (by omega), if_neg h2]; congr 1; omega
          have hlen : cs1.size = (cells.take off ++ (l ++ cells.drop (off + size))).length := by rw [hcs1]; simp; omega
          refine ih h (by simpa using hl) (fun j i k x v hj hk => hv (j + 1) i k x v (by simpa using hj) (by simpa using hk)) hlen (fun i a u ha hu => ?_) (fun i u hu => ?_)
          · rw [hgetA] at ha; rw [hget] at hu
            split at ha
            · rename_i h1; rw [if_pos h1] at hu; exact hr i a u ha hu
            · rename_i h1; rw [if_neg h1] at hu
              split at ha
              · rename_i h2; rw [if_pos h2] at hu; exact g2 _ a u ha hu
              · rename_i h2; rw [if_neg h2] at hu; exact hr i a u ha hu
          · rw [hget] at hu
            split at hu
            · exact h1 i u hu
            · split at hu
              · exact g3 _ u hu
              · exact h1 i u hu

def Ij (P : Program) (t : TypeId) (parts : List (Nat × AV)) : Option (List AV) :=
  (Aw P t).bind fun z => match P.underlying t with
    | some (.array _ e) => (Ad P e).bind fun k => DZ (fun i => some (i * k, k)) z parts
    | some (.struct fs) => (fs.toList.mapM fun f => (Ad P f.type).map fun k => (f.offset, k)).bind fun places => DZ (fun i => places[i]?) z parts
    | _ => none

theorem CS {P : Program} {t : TypeId} {z : List AV} (h : Aw P t = some z) : ∃ i v, P.info? t = some i ∧ i.zero = some v ∧ v.cells.size = i.size ∧ z = v.cells.toList.map AV.ofCell ∧ ∀ (j : Nat) (u : Value), v.cells[j]? = some u → u.oneCell' = true := by
  unfold Aw at h
  cases hi : P.info? t with
  | none => simp [hi] at h
  | some i =>
    cases hz : i.zero with
    | none => simp [hi, hz] at h
    | some v =>
      simp only [hi, hz, Option.bind_some] at h
      split at h
      case isFalse => cases h
      rename_i hh
      cases h
      exact ⟨i, v, rfl, hz, hh.1, rfl, fun j u hu => Array.all_eq_true_iff_forall_mem.1 hh.2 u (Array.mem_of_getElem? hu)⟩

theorem K5 {w : World} {ok : Nat → Prop} {p : Pl} (v : Array Value) (i : Nat) (a : AV) (u : Value) (ha : (v.toList.map AV.ofCell)[i]? = some a) (hu : v[i]? = some u) : RA w ok p a u := by
  rw [List.getElem?_map, Array.getElem?_toList, hu] at ha
  simp at ha; subst ha
  exact G7 w ok p u

theorem K6 {P : Program} {w : World} {ok : Nat → Prop} {p : Pl} (hp : ∀ n, p.lv n → (p.rw n).oneCell' = true) {t : TypeId} {parts : Array (Nat × Operand)} {f : Operand → AV} {g : Operand → Value} (hfg : ∀ x, RA w ok p (f x) (g x)) {r : List AV}
    (h : Ij P t (parts.toList.map fun (i, x) => (i, f x)) = some r) : ∃ v, (Instr.build t (parts.map fun (i, x) => (i, g x))).run P w = .ok v w ∧ RA w ok p (.agg r) v := by
  unfold Ij at h
  cases hz : Aw P t with
  | none => simp [hz] at h
  | some z =>
    simp only [hz, Option.bind_some] at h
    obtain ⟨i, v, hi, hv, hsz, rfl, h1⟩ := CS hz
    have hparts : ∀ (j : Nat) (i k : Nat) (x : AV) (v : Value), (parts.toList.map fun (i, x) => (i, f x))[j]? = some (i, x) → (parts.map fun (i, x) => (i, g x)).toList[j]? = some (k, v) → i = k ∧ RA w ok p x v := by
      intro j i k x v hj hk
      rw [Array.toList_map, List.getElem?_map] at hk
      rw [List.getElem?_map] at hj
      cases hq : parts.toList[j]? with
      | none => simp [hq] at hj
      | some q =>
        obtain ⟨q1, q2⟩ := q
        simp [hq] at hj hk
        obtain ⟨rfl, rfl⟩ := hj
        obtain ⟨rfl, rfl⟩ := hk
        exact ⟨rfl, hfg _⟩
    split at h
    · rename_i n e hu
      cases hk : Ad P e with
      | none => simp [hk] at h
      | some k =>
        simp only [hk, Option.bind_some] at h
        obtain ⟨cs', c1, c2, c3, c4⟩ := E3 hp h (by simp) hparts (by simp) (fun i a u ha hu => K5 v.cells i a u ha hu) h1
        have he : ∃ ie, P.info? e = some ie ∧ ie.size = k := by
          unfold Ad at hk
          cases hie : P.info? e with
          | none => simp [hie] at hk
          | some ie => simp [hie] at hk; exact ⟨ie, rfl, hk⟩
        obtain ⟨ie, hie, rfl⟩ := he
        exact ⟨_, run_build w t _ cs' (by simp only [Program.built, hi, hu, hv, hie]; exact c1), .agg c2 c3 c4⟩
    · rename_i fs hu
      cases hk : (fs.toList.mapM fun f => (Ad P f.type).map fun k => (f.offset, k)) with
      | none => rw [hk] at h; simp at h
      | some places =>
        rw [hk] at h
        simp only [Option.bind_some] at h
        obtain ⟨cs', c1, c2, c3, c4⟩ := E3 hp h (by simp) hparts (by simp) (fun i a u ha hu => K5 v.cells i a u ha hu) h1
        have hk' : (fs.toList.mapM fun f => (P.info? f.type).map fun i => (f.offset, i.size)) = some places := by
          rw [← hk]; congr 1; funext f; unfold Ad; cases P.info? f.type <;> rfl
        refine ⟨_, run_build w t _ cs' ?_, .agg c2 c3 c4⟩
        simp only [Program.built, hi, hu, hv, hk']
        have : (fun i : Nat => places[i]?) = (fun i : Nat => places.toArray[i]?) := by funext i; simp
        rw [this] at c1; exact c1
    · cases h

end Go.Vl

namespace Go.Vl
open Go Go.RowKit
def WW (l : List Int) : ByteArray := l.foldl (fun r n => r.push (UInt8.ofNat n.toNat)) ByteArray.empty
def GK (l : List Int) : List (List D) := l.map fun n => [.int .u8 n]
def IT : List (List D) → Option (List Int)
  | [] => some []
  | [.int .u8 n] :: r => (IT r).map (n :: ·)
  | _ => none
theorem Ik : ∀ {rows : List (List D)} {l : List Int}, IT rows = some l → rows = GK l
  | [], l, h => by cases h; rfl
  | r :: rows, l, h => by
    unfold IT at h
    split at h
    · rename_i e; cases e
    · rename_i n r' e
      cases e
      obtain ⟨l', hl, rfl⟩ := Option.map_eq_some_iff.1 h
      rw [Ik hl]; rfl
    · cases h
theorem Il : ∀ l : List Int, (GK l).flatten = l.map fun c => D.int .u8 c
  | [] => rfl
  | y :: l => by
    have ih := Il l
    unfold GK at ih ⊢
    rw [List.map_cons, List.flatten_cons, ih]; rfl
theorem P7 {P : Program} {w : World} {ok : Nat → Prop} {s t e : TypeId} {l : List Int} {v : Value} (hs : P.underlying s = some (.slice e)) (he : P.underlying e = some (.int .u8)) (hu : P.underlying t = some .string) (h : RD w ok (.slice (GK l)) v) : (convert s t v).run P w = .ok (.string (WW l)) w := by
  generalize hx : D.slice (GK l) = x at h
  cases h with
  | @snil b c =>
    have hl : l = [] := by
      cases l with
      | nil => rfl
      | cons y l => simp [GK] at hx
    subst hl
    rw [run_convert_bytes_string w s t e b 0 c hs he hu]
    cases b with
    | none => simp [Conv.bytesToString, WW]
    | some b => exact run_bytesToString w b 0 c [] (run_loadCells_list (P := P) w b [] (fun j v hj => by simp at hj))
  | @slice rows b c z vs hz hok hc hcell h =>
    cases hx
    have hfl := Il l
    have hln : (GK l).length = l.length := by simp [GK]
    rw [hln, run_convert_bytes_string w s t e (some b) l.length c hs he hu]
    have hl := run_loadCells_list (P := P) w b (l.map (Value.int .u8)) (fun j v hj => by
      rw [List.getElem?_map] at hj
      cases hlj : l[j]? with
      | none => rw [hlj] at hj; cases hj
      | some n =>
        rw [hlj] at hj
        cases hj
        have hj2 : j < (GK l).flatten.length := by rw [hfl, List.length_map]; exact (List.getElem?_eq_some_iff.1 hlj).1
        have h2 := h j (.int .u8 n) (by rw [hfl, List.getElem?_map, hlj]; rfl)
        rw [hcell j hj2]
        generalize vs j = u at h2
        cases h2; rfl)
    rw [List.length_map] at hl
    exact run_bytesToString w b l.length c l hl
  | _ => cases hx
end Go.Vl

namespace Go.Vl
open Go

def rowsOf (st : St) : AV → Option (List (List D))
  | .d (.slice rows) => some rows
  | .full rows => some rows
  | .nilS => some []
  | .vec n => (get st.vec n).bind fun s => if s.isM = true then none else some s.rows
  | .cut n z lo k => (get st.vec n).bind fun s => if s.isM = true then none else if lo + k ≤ s.rows.length ∧ z = s.z then some ((s.rows.drop lo).take k) else none
  | _ => none

theorem Im {P : Program} {K : Ctx P} {st : St} {a : Act} {w : World} {p : Pl} (R : Rel K st a w p) {x : AV} {rows : List (List D)} (h : rowsOf st x = some rows) {v : Value} (hv : RA w (okc K w p) p x v) :
    ∃ b c, v = .slice b rows.length c := by
  cases hv with
  | d hd =>
    cases hd with
    | snil => simp [rowsOf] at h; subst h; exact ⟨_, _, rfl⟩
    | slice => simp [rowsOf] at h; subst h; exact ⟨_, _, rfl⟩
    | _ => simp [rowsOf] at h
  | nilS => simp [rowsOf] at h; subst h; exact ⟨_, _, rfl⟩
  | full hd => simp [rowsOf] at h; subst h; exact ⟨_, _, rfl⟩
  | vec hn =>
    rename_i n
    simp only [rowsOf] at h
    cases hs : get st.vec n with
    | none => simp [hs] at h
    | some s =>
      simp only [hs, Option.bind_some] at h
      split at h
      · cases h
      rename_i hM
      cases h
      obtain ⟨xs, hown, _⟩ := (R.vec n s hs).at_.row (by simpa using hM)
      rcases hown.2 with ⟨h0, h1⟩ | ⟨g, cap, cur, h0, _⟩
      · exact ⟨none, 0, by rw [h0, h1]⟩
      · exact ⟨_, _, h0⟩
  | cut hn hv ho hle =>
    rename_i n z lo k o g c len
    simp only [rowsOf] at h
    cases hs : get st.vec n with
    | none => simp [hs] at h
    | some s =>
      simp only [hs, Option.bind_some] at h
      split at h
      · cases h
      split at h
      case isFalse => cases h
      rename_i hh
      cases h
      have e : ((s.rows.drop lo).take k).length = k := by rw [List.length_take, List.length_drop, Nat.min_eq_left (by omega)]
      rw [e]
      exact ⟨_, _, rfl⟩
  | cut0 hn hv =>
    rename_i n z
    simp only [rowsOf] at h
    cases hs : get st.vec n with
    | none => simp [hs] at h
    | some s =>
      simp only [hs, Option.bind_some] at h
      split at h
      · cases h
      split at h
      case isFalse => cases h
      cases h
      exact ⟨none, 0, by simp⟩
  | _ => simp [rowsOf] at h

def KC (P : Program) (st : St) (t : TypeId) (x : AV) : Option Int :=
  match P.underlying t with
  | some (.slice _) => match x with | .cut _ _ _ k => some (k : Int) | .slen k => some (k : Int) | x => (rowsOf st x).map fun r => (r.length : Int)
  | some .string => match x with | .d (.str s) => some (s.size : Int) | _ => none
  | some (.array n _) => some (n : Int)
  | some (.pointer e) => match P.underlying e with | some (.array n _) => some (n : Int) | _ => none
  | _ => none

theorem Io {P : Program} {K : Ctx P} {st : St} {a : Act} {w : World} {p : Pl} (R : Rel K st a w p) {t ty : TypeId} {x : AV} {n : Int} (h : KC P st t x = some n) {v : Value} (hv : RA w (okc K w p) p x v) :
    ∀ w' : World, (Builtin.len_ #[t] ty #[v]).run P w' = .ok (.int .i64 n) w' := by
  intro w'
  unfold KC at h
  split at h
  · rename_i e hu
    split at h
    · cases h
      cases hv with
      | cut hn hv ho hle => simp [Builtin.len_, run_underlying hu, goInt]
      | cut0 hn hv => simp [Builtin.len_, run_underlying hu, goInt]
    · cases h
      cases hv with
      | slen => simp [Builtin.len_, run_underlying hu, goInt]
    cases hr : rowsOf st x with
    | none => simp [hr] at h
    | some rows =>
      simp [hr] at h; subst h
      obtain ⟨b, c, rfl⟩ := Im R hr hv
      simp [Builtin.len_, run_underlying hu, goInt]
  · rename_i hu
    split at h
    · cases hv with | d hd => cases hd with | str => cases h; simp [Builtin.len_, run_underlying hu, goInt]
    · cases h
  · rename_i m e hu
    cases h; simp [Builtin.len_, run_underlying hu, goInt]
  · rename_i e hu
    split at h
    · rename_i m e' hu'
      cases h; simp [Builtin.len_, run_underlying hu, run_underlying hu', goInt]
    · cases h
  · cases h

def Fh : Option AV → Option (Option Int)
  | none => some none
  | some (.d (.int _ n)) => some (some n)
  | _ => none
def cutV (P : Program) (st : St) (e : TypeId) (n lo0 k0 : Nat) (lo hi mx : Option Int) : Option AV :=
  (get st.vec n).bind fun s => if s.isM = true then none else if Ad P e = some s.z ∧ mx = none then
    let l := lo.getD 0
    let h := hi.getD k0
    if 0 ≤ l ∧ l ≤ h ∧ h ≤ k0 ∧ lo0 + k0 ≤ s.rows.length then some (.cut n s.z (lo0 + l.toNat) (h.toNat - l.toNat)) else none else none
def Mx (P : Program) (st : St) (t : TypeId) (x : AV) (lo hi mx : Option Int) : Option AV :=
  match P.underlying t with
  | some (.slice e) => match x with
    | .vec n => (get st.vec n).bind fun s => cutV P st e n 0 s.rows.length lo hi mx
    | .cut n z lo0 k0 => (get st.vec n).bind fun s => if z = s.z then cutV P st e n lo0 k0 lo hi mx else none
    | x => (rowsOf st x).bind fun rows => (Ad P e).bind fun z => if ∀ r ∈ rows, r.length = z then
      let l := lo.getD 0
      let h := hi.getD rows.length
      if 0 ≤ l ∧ l ≤ h ∧ h ≤ rows.length then match mx with
        | none => some (.d (.slice ((rows.take h.toNat).drop l.toNat)))
        | some m => if hi.isSome ∧ m = h then some (.full ((rows.take h.toNat).drop l.toNat)) else none
      else none else none
  | some .string => match x, mx with
    | .d (.str s), none =>
      let l := lo.getD 0
      let h := hi.getD s.size
      if 0 ≤ l ∧ l ≤ h ∧ h ≤ s.size then some (.d (.str (s.extract l.toNat h.toNat))) else none
    | _, _ => none
  | _ => none

theorem Cs {P : Program} {w : World} {isS : Bool} {len cap : Nat} {lo hi : Option Int} {vl vh : Option Value} (hl : (vl = none ∧ lo = none) ∨ ∃ k n, vl = some (.int k n) ∧ lo = some n) (hh : (vh = none ∧ hi = none) ∨ ∃ k n, vh = some (.int k n) ∧ hi = some n)
    (h0 : 0 ≤ lo.getD 0) (h1 : lo.getD 0 ≤ hi.getD len) (h2 : hi.getD len ≤ len) (h3 : len ≤ cap) :
    (Instr.sliceBounds isS len cap vl vh none).run P w = .ok ((lo.getD 0).toNat, (hi.getD len).toNat, cap) w := by
  have e : ((len : Int)).toNat = len := Int.toNat_natCast len
  rcases hl with ⟨rfl, rfl⟩ | ⟨k, n, rfl, rfl⟩ <;> rcases hh with ⟨rfl, rfl⟩ | ⟨k', n', rfl, rfl⟩
  · simp [Instr.sliceBounds]
  · simp only [Option.getD_some, Option.getD_none] at *
    simp only [Instr.sliceBounds, Sem.run_bind, Sem.run_pure, Result.andThen_ok]
    rw [run_sliceBound (h0 := by omega) (h1 := by omega)]
    simp
  · simp only [Option.getD_some, Option.getD_none] at *
    simp only [Instr.sliceBounds, Sem.run_bind, Sem.run_pure, Result.andThen_ok]
    rw [run_sliceBound (h0 := by omega) (h1 := by omega)]
    simp
  · simp only [Option.getD_some] at *
    simp only [Instr.sliceBounds, Sem.run_bind, Sem.run_pure, Result.andThen_ok]
    rw [run_sliceBound (h0 := by omega) (h1 := by omega)]
    simp only [Result.andThen_ok]
    rw [run_sliceBound (h0 := by omega) (h1 := by omega)]
    simp

theorem Hk {P : Program} {w : World} {len cap : Nat} {lo : Option Int} {vl : Option Value} {k k' : IntKind} {h m : Int} (hl : (vl = none ∧ lo = none) ∨ ∃ k n, vl = some (.int k n) ∧ lo = some n)
    (h0 : 0 ≤ lo.getD 0) (h1 : lo.getD 0 ≤ h) (h2 : h ≤ m) (h3 : m ≤ cap) :
    (Instr.sliceBounds true len cap vl (some (.int k h)) (some (.int k' m))).run P w = .ok ((lo.getD 0).toNat, h.toNat, m.toNat) w := by
  rcases hl with ⟨rfl, rfl⟩ | ⟨k, n, rfl, rfl⟩
  · simp only [Option.getD_none] at *
    simp only [Instr.sliceBounds, Sem.run_bind, Sem.run_pure, Result.andThen_ok]
    rw [run_sliceBound (h0 := by omega) (h1 := by omega)]
    simp only [Result.andThen_ok]
    rw [run_sliceBound (h0 := by omega) (h1 := by omega)]
    simp
  · simp only [Option.getD_some] at *
    simp only [Instr.sliceBounds, Sem.run_bind, Sem.run_pure, Result.andThen_ok]
    rw [run_sliceBound (h0 := by omega) (h1 := by omega)]
    simp only [Result.andThen_ok]
    rw [run_sliceBound (h0 := by omega) (h1 := by omega)]
    simp only [Result.andThen_ok]
    rw [run_sliceBound (h0 := by omega) (h1 := by omega)]
    simp

theorem RD.cut {w : World} {ok : Nat → Prop} {rows : List (List D)} {a : Option Addr} {c z l h m : Nat} (hd : RD w ok (.slice rows) (.slice a rows.length c)) (hz : ∀ r ∈ rows, r.length = z)
    (h1 : l ≤ h) (h2 : h ≤ rows.length) (h3 : h ≤ m) (h4 : m ≤ c) : RD w ok (.slice ((rows.take h).drop l)) (.slice (if m = l then a else a.map (·.add (l * z))) (h - l) (m - l)) := by
  by_cases hlh : l = h
  · subst hlh
    have : (rows.take l).drop l = [] := List.drop_eq_nil_of_le (by simp; omega)
    rw [this, Nat.sub_self]
    exact .snil
  · rw [if_neg (by omega)]
    cases hd with
    | snil => simp at h2; omega
    | slice z' vs hz' hok hc hcell hdd =>
      rename_i b
      have hne : rows ≠ [] := fun e => by subst e; simp at h2; omega
      obtain ⟨r, hr⟩ := List.exists_mem_of_ne_nil _ hne
      have hzz : z' = z := (hz' r hr).symm.trans (hz r hr)
      subst hzz
      have hlen : ((rows.take h).drop l).length = h - l := by simp; omega
      have hfl : ((rows.take h).drop l).flatten = (rows.flatten.take (h * z')).drop (l * z') := by
        rw [FV (z := z') (fun r hr => hz r (List.mem_of_mem_take hr)), EB hz]
      have := RD.slice (w := w) (ok := ok) (rows := (rows.take h).drop l) (a := b.add (l * z')) (c := m - l) z' (fun j => vs (l * z' + j)) (fun r hr => hz r (List.mem_of_mem_take (List.mem_of_mem_drop hr)))
        (by rw [block_add]; exact hok) (by rw [hlen]; omega) (fun j hj => by
          rw [add_add]
          refine hcell _ ?_
          rw [hfl] at hj
          simp only [List.length_drop, List.length_take] at hj
          omega) (fun j d hj => by
          rw [hfl, List.getElem?_drop, List.getElem?_take] at hj
          split at hj
          · exact hdd _ _ hj
          · cases hj)
      rw [hlen] at this
      exact this

theorem RA.cutOf {w : World} {ok : Nat → Prop} {p : Pl} {n z lo0 k0 o g c len l h : Nat} (hn : p.lv n) (hv : p.rw n = .slice (some ⟨g, 0, none⟩) len c) (ho : (k0 = 0 ∨ o = lo0 * z) ∧ (lo0 = 0 → o = 0)) (hle : lo0 + k0 ≤ len) (hlc : len ≤ c) (h1 : l ≤ h) (h2 : h ≤ k0) :
    RA w ok p (.cut n z (lo0 + l) (h - l)) (.slice (if c - lo0 = l then some ⟨g, o, none⟩ else some ((⟨g, o, none⟩ : Addr).add (l * z))) (h - l) (c - lo0 - l)) := by
  rw [Ah, Nat.sub_sub]
  split
  · rename_i e
    refine .cut hn hv ⟨.inl (by omega), fun e0 => ho.2 (by omega)⟩ (by omega)
  · rename_i e
    refine .cut hn hv ⟨?_, fun e0 => ?_⟩ (by omega)
    · rcases ho.1 with h0 | h0
      · left; omega
      · right; rw [h0, Nat.add_mul]
    · have : l = 0 := by omega
      rw [ho.2 (by omega), this]; simp
theorem F1 {P : Program} {K : Ctx P} {st : St} {a : Act} {w : World} {p : Pl} (R : Rel K st a w p) {t e : TypeId} (hu : P.underlying t = some (.slice e)) {n lo0 k0 : Nat} {y : AV} {lo hi mx : Option Int} {vl vh vm : Option Value}
    (hl : (vl = none ∧ lo = none) ∨ ∃ k n, vl = some (.int k n) ∧ lo = some n) (hh : (vh = none ∧ hi = none) ∨ ∃ k n, vh = some (.int k n) ∧ hi = some n) (hm : (vm = none ∧ mx = none) ∨ ∃ k n, vm = some (.int k n) ∧ mx = some n)
    (h : cutV P st e n lo0 k0 lo hi mx = some y) {s : VS} (hs : get st.vec n = some s) {v : Value}
    (hv : (∃ g len c o, p.rw n = .slice (some ⟨g, 0, none⟩) len c ∧ v = .slice (some ⟨g, o, none⟩) k0 (c - lo0) ∧ ((k0 = 0 ∨ o = lo0 * s.z) ∧ (lo0 = 0 → o = 0)) ∧ lo0 + k0 ≤ len) ∨ (p.rw n = .slice none 0 0 ∧ v = .slice none 0 0 ∧ lo0 = 0 ∧ k0 = 0)) (hn : p.lv n) :
    ∃ r, (∀ w' : World, (Instr.sliceAt t v vl vh vm).run P w' = .ok r w') ∧ RA w (okc K w p) p y r := by
  unfold cutV at h
  simp only [hs, Option.bind_some] at h
  split at h
  · cases h
  rename_i hM
  split at h
  case isFalse => cases h
  rename_i hz
  obtain ⟨hz, rfl⟩ := hz
  split at h
  case isFalse => cases h
  rename_i hb
  obtain ⟨hb0, hb1, hb2, hb3⟩ := hb
  cases h
  rcases hm with ⟨rfl, _⟩ | ⟨_, _, _, hm⟩
  case inr => cases hm
  rcases hv with ⟨g, len, c, o, hrw, rfl, ho, hle⟩ | ⟨hrw, rfl, rfl, rfl⟩
  · have hlc : len ≤ c := by
      obtain ⟨xs, hown, _⟩ := (R.vec n s hs).at_.row (by simpa using hM)
      rw [hrw] at hown
      rcases hown.2 with ⟨h0, _⟩ | ⟨g', cap, cur, h0, _, _, h2, _⟩
      · cases h0
      · injection h0 with e1 e2 e3; omega
    refine ⟨_, ?_, RA.cutOf hn hrw ho hle hlc (l := (lo.getD 0).toNat) (h := (hi.getD k0).toNat) (by omega) (by omega)⟩
    intro w'
    simp only [Instr.sliceAt, Instr.slice, Sem.run_bind, run_underlying hu, Result.andThen_ok, Cs (P := P) (w := w') (isS := true) (len := k0) (cap := c - lo0) hl hh hb0 hb1 hb2 (by omega), AU hz, Sem.run_pure]
    split <;> rfl
  · have e1 : (lo.getD 0).toNat = 0 := by omega
    have e2 : (hi.getD ((0 : Nat) : Int)).toNat = 0 := by omega
    rw [e1, e2]
    refine ⟨.slice none 0 0, ?_, .cut0 hn hrw⟩
    intro w'
    have hb := Cs (P := P) (w := w') (isS := true) (len := 0) (cap := 0) hl hh hb0 hb1 hb2 (Nat.le_refl _)
    rw [e1, e2] at hb
    simp only [Instr.sliceAt, Instr.slice, Sem.run_bind, run_underlying hu, Result.andThen_ok, hb, AU hz, Sem.run_pure]
    rfl
theorem Ip {P : Program} {K : Ctx P} {st : St} {a : Act} {w : World} {p : Pl} (R : Rel K st a w p) {t : TypeId} {x y : AV} {lo hi mx : Option Int} {v : Value} {vl vh vm : Option Value}
    (hl : (vl = none ∧ lo = none) ∨ ∃ k n, vl = some (.int k n) ∧ lo = some n) (hh : (vh = none ∧ hi = none) ∨ ∃ k n, vh = some (.int k n) ∧ hi = some n) (hm : (vm = none ∧ mx = none) ∨ ∃ k n, vm = some (.int k n) ∧ mx = some n)
    (h : Mx P st t x lo hi mx = some y) (hv : RA w (okc K w p) p x v) :
    ∃ r, (∀ w' : World, (Instr.sliceAt t v vl vh vm).run P w' = .ok r w') ∧ RA w (okc K w p) p y r := by
  unfold Mx at h
  split at h
  · rename_i e hu
    split at h
    · rename_i n
      cases hs : get st.vec n with
      | none => simp [hs] at h
      | some s =>
        simp only [hs, Option.bind_some] at h
        have hM : s.isM = false := by
          unfold cutV at h
          simp only [hs, Option.bind_some] at h
          split at h
          · cases h
          · simpa using ‹¬ s.isM = true›
        cases hv with
        | vec hn =>
          obtain ⟨xs, hown, _⟩ := (R.vec n s hs).at_.row hM
          refine F1 R hu hl hh hm h hs ?_ hn
          rcases hown.2 with ⟨h0, h1⟩ | ⟨g, cap, cur, h0, _⟩
          · exact .inr ⟨h0, h0, rfl, h1⟩
          · exact .inl ⟨g, _, cap, 0, h0, by simpa using h0, ⟨.inr (by simp), fun _ => rfl⟩, by omega⟩
    · rename_i n z lo0 k0
      cases hs : get st.vec n with
      | none => simp [hs] at h
      | some s =>
        simp only [hs, Option.bind_some] at h
        split at h
        case isFalse => cases h
        rename_i hz
        subst hz
        cases hv with
        | cut hn hv ho hle => exact F1 R hu hl hh hm h hs (.inl ⟨_, _, _, _, hv, rfl, ho, hle⟩) hn
        | cut0 hn hv => exact F1 R hu hl hh hm h hs (.inr ⟨hv, rfl, rfl, rfl⟩) hn
    rename_i hnv hnw
    cases hr' : rowsOf st x with
    | none => rw [hr'] at h; cases h
    | some rows =>
      rw [hr'] at h
      simp only [Option.bind_some] at h
      cases hz : Ad P e with
      | none => simp [hz] at h
      | some z =>
        simp only [hz, Option.bind_some] at h
        split at h
        case isFalse => cases h
        rename_i hzs
        split at h
        case isFalse => cases h
        rename_i hb
        obtain ⟨hb0, hb1, hb2⟩ := hb
        obtain ⟨b, c, rfl⟩ := Im R hr' hv
        have hd : RD w (okc K w p) (.slice rows) (.slice b rows.length c) := by
          cases x with
          | d x => cases hv with | d hv => simp only [rowsOf] at hr'; cases x <;> simp at hr'; subst hr'; exact hv
          | nilS => simp [rowsOf] at hr'; subst hr'; exact .snil
          | full rows' => simp [rowsOf] at hr'; subst hr'; cases hv with | full hv => exact hv
          | vec n => exact absurd rfl (hnv n)
          | cut n z lo k => exact absurd rfl (hnw n z lo k)
          | _ => simp [rowsOf] at hr'
        have hc : rows.length ≤ c := by cases hd with | snil => simp | slice _ _ _ _ hc => exact hc
        split at h
        · cases h
          rcases hm with ⟨rfl, _⟩ | ⟨_, _, _, hm⟩
          case inr => cases hm
          refine ⟨.slice (if c = (lo.getD 0).toNat then b else b.map (·.add ((lo.getD 0).toNat * z))) ((hi.getD rows.length).toNat - (lo.getD 0).toNat) (c - (lo.getD 0).toNat), ?_, .d (hd.cut hzs (by omega) (by omega) (by omega) (Nat.le_refl _))⟩
          intro w'
          simp only [Instr.sliceAt, Instr.slice, Sem.run_bind, run_underlying hu, Result.andThen_ok, Cs (P := P) (w := w') (isS := true) hl hh hb0 hb1 hb2 hc, AU hz, Sem.run_pure]
        · rename_i m
          split at h
          case isFalse => cases h
          rename_i hmm
          obtain ⟨his, rfl⟩ := hmm
          cases h
          rcases hm with ⟨_, hm⟩ | ⟨k, n, rfl, hm⟩
          case inl => cases hm
          injection hm with hm
          subst hm
          rcases hh with ⟨rfl, rfl⟩ | ⟨k', n', rfl, rfl⟩
          case inl => cases his
          simp only [Option.getD_some] at *
          have hcut := hd.cut (l := (lo.getD 0).toNat) (h := n'.toNat) (m := n'.toNat) hzs (by omega) (by omega) (Nat.le_refl _) (by omega)
          have hln : ((rows.take n'.toNat).drop (lo.getD 0).toNat).length = n'.toNat - (lo.getD 0).toNat := by simp; omega
          refine ⟨.slice (if n'.toNat = (lo.getD 0).toNat then b else b.map (·.add ((lo.getD 0).toNat * z))) (n'.toNat - (lo.getD 0).toNat) (n'.toNat - (lo.getD 0).toNat), ?_, ?_⟩
          · intro w'
            simp only [Instr.sliceAt, Instr.slice, Sem.run_bind, run_underlying hu, Result.andThen_ok, Hk (P := P) (w := w') (len := rows.length) (cap := c) hl hb0 hb1 (Int.le_refl _) (by omega), AU hz, Sem.run_pure]
          · rw [← hln] at hcut ⊢
            exact .full hcut
  · rename_i hu
    split at h
    · rename_i s
      dsimp only at h
      split at h
      case isFalse => cases h
      rename_i hb
      obtain ⟨hb0, hb1, hb2⟩ := hb
      cases h
      rcases hm with ⟨rfl, _⟩ | ⟨_, _, _, hm⟩
      case inr => cases hm
      cases hv with | d hd => cases hd with | str =>
      refine ⟨.string (s.extract (lo.getD 0).toNat (hi.getD s.size).toNat), ?_, .d .str⟩
      intro w'
      simp [Instr.sliceAt, Instr.slice, run_underlying hu, Cs (P := P) (w := w') (isS := false) hl hh hb0 hb1 hb2 (Nat.le_refl _)]
    · cases h
  · cases h


def K7 (P : Program) (s : TypeId) (f : Nat) (y : AV) : Option AV :=
  match P.underlying s, y with
  | some (.struct fs), .agg l => (fs[f]?).bind fun fd => Em P fd.type l fd.offset
  | _, _ => none
def K8 (P : Program) (t : TypeId) (y : AV) (i : Int) : Option AV :=
  match P.underlying t, y with
  | some (.array len e), .agg l => if 0 ≤ i ∧ i < len then (Ad P e).bind fun z => Em P e l (i.toNat * z) else none
  | some .string, .d (.str s) => if 0 ≤ i then s[i.toNat]?.map fun b => .d (.int .u8 b.toNat) else none
  | _, _ => none
def unA (op : UnOp) (x : AV) : Option AV :=
  match op, x with
  | .not, .d (.bool b) => some (.d (.bool !b))
  | .neg, .d (.int k n) => some (.d (.int k (k.wrap (0 - n))))
  | .xor, .d (.int k n) => (Dz .xor k (if k.signed then -1 else k.max) n).map .d
  | _, _ => none
def P8 (P : Program) (src dst : TypeId) (x : AV) : Option AV :=
  match P.underlying src, P.underlying dst, x with
  | some _, some (.int k), .d (.int _ n) => some (.d (.int k (k.wrap n)))
  | some .string, some .string, .d (.str s) => some (.d (.str s))
  | some (.slice e), some .string, .d (.slice rows) => match P.underlying e with | some (.int .u8) => (IT rows).map fun l => .d (.str (WW l)) | _ => none
  | _, _, _ => none
def P9 (c x y : AV) : Option AV :=
  match c with
  | .d (.bool b) => match x, y with
    | .d (.bool p), .d (.bool q) => some (.d (.bool (bif b then p else q)))
    | x, y => some (if b then x else y)
  | _ => none
def N7 : AV → Bool
  | .ptr _ _ | .cptr _ _ | .vptr _ _ _ _ | .fn _ _ => true
  | _ => false
def WX : List AV → Option Int
  | [.d (.int .i64 a), .d (.int .i64 b)] => some (if b < a then b else a)
  | _ => none
def WY : List AV → Option Int
  | [.d (.int .i64 a), .d (.int .i64 b)] => some (if b > a then b else a)
  | _ => none
def CU : AV → Option Int
  | .d (.int _ n) => some n
  | _ => none

def Lr (P : Program) (st : St) (c : Call) : Option AV :=
  match c.callee, c.args.toList, c.argTypes.toList with
  | .builtin .len, [x], [t] => (KC P st t (opd st x)).map fun n => .d (.int .i64 n)
  | .builtin .min, l, _ => (WX (l.map (opd st))).map fun n => .d (.int .i64 n)
  | .builtin .max, l, _ => (WY (l.map (opd st))).map fun n => .d (.int .i64 n)
  | _, _, _ => none

def vstep (P : Program) (st : St) (o : Oper) : Option AV :=
  match o.op with
  | .move x => some (opd st x)
  | .assign x => some (opd st x)
  | .pick c a b => P9 (opd st c) (opd st a) (opd st b)
  | .nilCheck x => if N7 (opd st x) then some (opd st x) else none
  | .load t x => DG P st t (opd st x)
  | .fieldAddr s x f => Ih P s f (opd st x)
  | .field s x f => K7 P s f (opd st x)
  | .indexAddr t x i => (CU (opd st i)).bind fun i => Dq P t (opd st x) i st
  | .index t x i => (CU (opd st i)).bind fun i => K8 P t (opd st x) i
  | .extract x i => match opd st x with | .tup l => l[i]? | _ => none
  | .binOp op t x y _ => Mw P op t (opd st x) (opd st y)
  | .unOp op _ x => unA op (opd st x)
  | .convert s d x => P8 P s d (opd st x)
  | .build t parts => (Ij P t (parts.toList.map fun (i, x) => (i, opd st x))).map .agg
  | .slice t x lo hi mx => (Fh (lo.map (opd st))).bind fun lo => (Fh (hi.map (opd st))).bind fun hi => (Fh (mx.map (opd st))).bind fun mx => Mx P st t (opd st x) lo hi mx
  | .call c => Lr P st c
  | .makeFunc fn first caps => match fn, first.toList with
    | .func f, [] => some (.fn f (caps.toList.map (opd st)))
    | _, _ => none
  | _ => none

theorem Rel.rwone {P : Program} {K : Ctx P} {st : St} {a : Act} {w : World} {p : Pl} (R : Rel K st a w p) : ∀ n, p.lv n → (p.rw n).oneCell' = true := by
  intro n hn
  rw [R.lv] at hn
  obtain ⟨s, hs⟩ := Option.isSome_iff_exists.1 hn
  exact (R.vec n s hs).at_.one

theorem CZ {w : World} {ok : Nat → Prop} {p : Pl} {x : AV} {n : Int} (h : CU x = some n) {v : Value} (hv : RA w ok p x v) : ∃ k, v = .int k n := by
  unfold CU at h
  split at h
  · cases h; cases hv with | d hd => cases hd with | int => exact ⟨_, rfl⟩
  · cases h

theorem DV {P : Program} {K : Ctx P} {st : St} {a : Act} {w : World} {p : Pl} (R : Rel K st a w p) {o : Option Operand} {r : Option Int} (h : Fh (o.map (opd st)) = some r) :
    (o.map a.eval = none ∧ r = none) ∨ ∃ k n, o.map a.eval = some (.int k n) ∧ r = some n := by
  cases o with
  | none => simp [Fh] at h; subst h; exact .inl ⟨rfl, rfl⟩
  | some x =>
    simp only [Option.map_some] at h ⊢
    have := R.opd x
    unfold Fh at h
    split at h
    · rename_i hh; cases hh
    · rename_i k n hh
      cases h
      injection hh with hh
      rw [hh] at this
      generalize a.eval x = v at this ⊢
      cases this with | d hd => cases hd with | int => exact .inr ⟨_, _, rfl, rfl⟩
    · cases h

theorem Dr {P : Program} {K : Ctx P} {st : St} {a : Act} {w : World} {p : Pl} (R : Rel K st a w p) {o : Oper} {x : AV} (h : vstep P st o = some x) :
    ∃ v, (execOp a.eval o).run P w = .ok (.value v) w ∧ RA w (okc K w p) p x v := by
  have close : ∀ {s : Sem Value} {x : AV}, (∃ v, s.run P w = .ok v w ∧ RA w (okc K w p) p x v) → ∃ v, (do pure (Next.value (← s)) : Sem Next).run P w = .ok (.value v) w ∧ RA w (okc K w p) p x v := fun ⟨v, h1, h2⟩ => ⟨v, by simp [h1], h2⟩
  unfold vstep at h
  unfold execOp
  split at h <;> rename_i ho <;> simp only [ho]
  · cases h; exact ⟨_, rfl, R.opd _⟩
  · cases h; exact ⟨_, rfl, R.opd _⟩
  · rename_i c b1 b2
    have hc := R.opd c
    have h1 := R.opd b1
    have h2 := R.opd b2
    generalize opd st c = cc at *
    generalize opd st b1 = c1 at *
    generalize opd st b2 = c2 at *
    unfold P9 at h
    split at h
    · rename_i b
      generalize a.eval c = v at *
      cases hc with | d hd => cases hd with | bool =>
      refine ⟨if b then a.eval b1 else a.eval b2, by simp [asBool], ?_⟩
      split at h
      · cases h
        cases b
        · simpa using h2
        · simpa using h1
      · cases h
        cases b
        · simpa using h2
        · simpa using h1
    · cases h
  · rename_i y
    split at h
    case isFalse => cases h
    rename_i hp
    cases h
    have hy := R.opd y
    generalize opd st y = yy at *
    generalize a.eval y = v at *
    cases hy with
    | ptr hn => exact ⟨_, rfl, .ptr hn⟩
    | cptr vs h1 h2 h3 => exact ⟨_, rfl, .cptr vs h1 h2 h3⟩
    | vptr h1 h2 => exact ⟨_, rfl, .vptr h1 h2⟩
    | fn q1 q2 => exact ⟨_, rfl, .fn q1 q2⟩
    | _ => simp [N7] at hp
  · exact close (E2 R h (R.opd _))
  · exact close (Ky h (R.opd _))
  · rename_i s y f
    unfold K7 at h
    split at h
    case h_2 => cases h
    rename_i fs l hu hl
    have hy := R.opd y
    rw [hl] at hy
    generalize a.eval y = v at *
    cases hf : fs[f]? with
    | none => simp [hf] at h
    | some fd =>
      simp only [hf, Option.bind_some] at h
      cases hy with | agg hsz hr h1 =>
      rename_i cs
      obtain ⟨v, h3, h4⟩ := Ig h hsz hr h1 (w := w)
      exact ⟨v, by simp [Instr.field, run_underlying hu, hf, asAgg, h3], h4⟩
  · rename_i t y i
    cases hi : CU (opd st i) with
    | none => simp [hi] at h
    | some n =>
      simp only [hi, Option.bind_some] at h
      obtain ⟨k, hk⟩ := CZ hi (R.opd i)
      rw [hk]
      exact close (J8 R h (R.opd _))
  · rename_i t y i
    cases hi : CU (opd st i) with
    | none => simp [hi] at h
    | some n =>
      simp only [hi, Option.bind_some] at h
      obtain ⟨k, hk⟩ := CZ hi (R.opd i)
      rw [hk]
      have hy := R.opd y
      unfold K8 at h
      split at h
      · rename_i len e l hu hl
        rw [hl] at hy
        generalize a.eval y = v at *
        split at h
        case isFalse => cases h
        rename_i hb
        cases hz : Ad P e with
        | none => simp [hz] at h
        | some z =>
          simp only [hz, Option.bind_some] at h
          cases hy with | agg hsz hr h1 =>
          obtain ⟨v, h3, h4⟩ := Ig h hsz hr h1 (w := w)
          exact ⟨v, by simp [Instr.index, asIntOf, run_underlying hu, hb, AU hz, h3], h4⟩
      · rename_i s hu hl
        rw [hl] at hy
        generalize a.eval y = v at *
        split at h
        case isFalse => cases h
        rename_i hb
        cases hs : s[n.toNat]? with
        | none => simp [hs] at h
        | some b =>
          simp [hs] at h; subst h
          cases hy with | d hd => cases hd with | str =>
          exact ⟨_, (by simp [Instr.index, asIntOf, run_underlying hu, hb, hs] <;> rfl), .d .int⟩
      · cases h
  · rename_i y i
    have hy := R.opd y
    split at h
    case h_2 => cases h
    rename_i l hl
    rw [hl] at hy
    generalize a.eval y = v at *
    cases hy with | tup hsz hr =>
    rename_i cs
    have hi : i < cs.size := by have := (List.getElem?_eq_some_iff.1 h).1; omega
    exact ⟨cs[i], by simp [Instr.extract, hi], hr i _ _ h (by simp [hi])⟩
  · exact close (EV h (R.opd _) (R.opd _) _ _)
  · rename_i op t y
    have hy := R.opd y
    generalize a.eval y = v at *
    unfold unA at h
    split at h
    · rename_i hl; rw [hl] at hy; cases h; cases hy with | d hd => cases hd with | bool => exact ⟨_, (by simp [Op.unary] <;> rfl), .d .bool⟩
    · rename_i hl; rw [hl] at hy; cases h; cases hy with | d hd => cases hd with | int => exact ⟨_, (by simp [Op.unary, Op.intArith] <;> rfl), .d .int⟩
    · rename_i hl; rw [hl] at hy; simp [Dz] at h; subst h; cases hy with | d hd => cases hd with | int => exact ⟨_, (by simp [Op.unary, Op.intBits] <;> rfl), .d .int⟩
    · cases h
  · rename_i s d y
    have hy := R.opd y
    generalize a.eval y = v at *
    unfold P8 at h
    split at h
    · rename_i hs hd' hl; rw [hl] at hy; cases h; cases hy with | d hd => cases hd with | int => exact ⟨_, (by simp [convert, run_underlying hs, run_underlying hd', Conv.intToInt] <;> rfl), .d .int⟩
    · rename_i hs hd' hl; rw [hl] at hy; cases h; cases hy with | d hd => cases hd with | str => exact ⟨_, (by simp [convert, run_underlying hs, run_underlying hd'] <;> rfl), .d .str⟩
    · rename_i e rows hs hd' hl
      rw [hl] at hy
      split at h
      case h_2 => cases h
      rename_i he
      obtain ⟨l, hu, rfl⟩ := Option.map_eq_some_iff.1 h
      rw [Ik hu] at hy
      cases hy with | d hd => exact ⟨_, (by simp [P7 hs he hd' hd] <;> rfl), .d .str⟩
    · cases h
  · rename_i t parts
    cases hb : Ij P t (parts.toList.map fun (i, x) => (i, opd st x)) with
    | none => rw [hb] at h; cases h
    | some r =>
      rw [hb] at h; cases h
      exact close (K6 (f := opd st) (g := a.eval) R.rwone (fun x => R.opd x) hb)
  · rename_i t y lo hi mx
    cases h1 : Fh (lo.map (opd st)) with
    | none => simp [h1] at h
    | some lo' =>
      cases h2 : Fh (hi.map (opd st)) with
      | none => simp [h1, h2] at h
      | some hi' =>
        cases h3 : Fh (mx.map (opd st)) with
        | none => simp [h1, h2, h3] at h
        | some mx' =>
          simp only [h1, h2, h3, Option.bind_some] at h
          obtain ⟨r, g1, g2⟩ := Ip R (DV R h1) (DV R h2) (DV R h3) h (R.opd _)
          exact close ⟨r, g1 w, g2⟩
  · rename_i c
    obtain ⟨callee, ⟨args⟩, ⟨tys⟩⟩ := c
    unfold Lr at h
    dsimp only at h
    split at h
    · rename_i y t
      cases hn : KC P st t (opd st y) with
      | none => simp [hn] at h
      | some n =>
        simp [hn] at h; subst h
        exact ⟨_, (by simp [resolve, invoke, builtin, Io R hn (R.opd y) w] <;> rfl), .d .int⟩
    · unfold WX at h
      cases hl : args.map (opd st) with
      | nil => simp [hl] at h
      | cons x l =>
        rw [hl] at h
        split at h
        case h_2 => cases h
        rename_i u v hx
        cases h
        cases hx
        have hlen : args.length = 2 := by have := congrArg List.length hl; simpa using this
        match args, hlen, hl with
        | [a1, a2], _, hl =>
          simp only [List.map_cons, List.map_nil, List.cons.injEq, and_true] at hl
          have g1 := R.opd a1
          have g2 := R.opd a2
          rw [hl.1] at g1; rw [hl.2] at g2
          refine ⟨.int .i64 (if v < u then v else u), ?_, .d .int⟩
          simp only [resolve, invoke, builtin, List.map_toArray, List.map_cons, List.map_nil]
          generalize a.eval a1 = v1 at *
          generalize a.eval a2 = v2 at *
          cases g1 with | d g1 => cases g1 with | int => cases g2 with | d g2 => cases g2 with | int =>
          simp [Builtin.min_, Builtin.min2]
    · unfold WY at h
      cases hl : args.map (opd st) with
      | nil => simp [hl] at h
      | cons x l =>
        rw [hl] at h
        split at h
        case h_2 => cases h
        rename_i u v hx
        cases h
        cases hx
        have hlen : args.length = 2 := by have := congrArg List.length hl; simpa using this
        match args, hlen, hl with
        | [a1, a2], _, hl =>
          simp only [List.map_cons, List.map_nil, List.cons.injEq, and_true] at hl
          have g1 := R.opd a1
          have g2 := R.opd a2
          rw [hl.1] at g1; rw [hl.2] at g2
          refine ⟨.int .i64 (if v > u then v else u), ?_, .d .int⟩
          simp only [resolve, invoke, builtin, List.map_toArray, List.map_cons, List.map_nil]
          generalize a.eval a1 = v1 at *
          generalize a.eval a2 = v2 at *
          cases g1 with | d g1 => cases g1 with | int => cases g2 with | d g2 => cases g2 with | int =>
          simp [Builtin.max_, Builtin.max2]
    · cases h
  · rename_i fn first caps
    split at h
    · rename_i f hf
      cases h
      have e : first = #[] := by cases first; simpa using hf
      subst e
      refine ⟨.func (.func f) #[] (caps.map a.eval), by simp [Instr.makeFunc], .fn (by simp) (fun i x v hx hv => ?_)⟩
      simp only [List.getElem?_map, Array.getElem?_toList, Option.map_eq_some_iff] at hx
      simp only [Array.getElem?_map, Option.map_eq_some_iff] at hv
      obtain ⟨q, hq, rfl⟩ := hx
      obtain ⟨q', hq', rfl⟩ := hv
      rw [hq] at hq'; cases hq'
      exact R.opd q
    · cases h
  · cases h

end Go.Vl

namespace Go.Vl
open Go Go.RowKit

structure Evo {P : Program} (K : Ctx P) (w w' : World) (p p' : Pl) (kb kv : Nat → Bool) : Prop where
  size : w.heap.size ≤ w'.heap.size
  os : w'.os = w.os
  tape : w'.tape = w.tape
  output : w'.output = w.output
  old : ∀ b, b < K.w0.heap.size → ¬ K.io b → w'.heap[b]? = w.heap[b]?
  cell : ∀ q : Addr, okc K w p q.block → see w' q = see w q
  ok : ∀ b, okc K w p b → okc K w' p' b
  kb : ∀ n, kb n = true → p.lb n → p'.lb n ∧ p'.bx n = p.bx n
  kv : ∀ n, kv n = true → p.lv n → p'.lv n ∧ p'.rw n = p.rw n
  dr : dr0 w ≤ dr0 w'

section
variable {P : Program} {K : Ctx P} {w w' : World} {p p' : Pl} {kb kv : Nat → Bool}
theorem Evo.ra (E : Evo K w w' p p' kb kv) {x : AV} {v : Value} (h : RA w (okc K w p) p x v) (hx : x.wf kb kv = true) : RA w' (okc K w' p') p' x v :=
  h.less E.cell E.ok E.kb E.kv hx
theorem Evo.rd (E : Evo K w w' p p' kb kv) {x : D} {v : Value} (h : RD w (okc K w p) x v) : RD w' (okc K w' p') x v := h.mono E.cell E.ok

theorem Evo.box (E : Evo K w w' p p' kb kv) {n : Nat} {cs cs' : List AV} (h : P5 K w p n cs) (hn : p'.bx n = p.bx n) (hh : w'.heap[p.bx n]? = w.heap[p.bx n]?) (hl : cs'.length = cs.length)
    (hcs : ∀ (i : Nat) (c : AV), cs'[i]? = some c → c = .undef ∨ (cs[i]? = some c ∧ c.wf kb kv = true)) : P5 K w' p' n cs' := by
  obtain ⟨⟨vs, ty, h1, h2, h3, h4⟩, h5⟩ := h
  refine ⟨⟨vs, ty, by rw [hn, hh, h1], by rw [h2, hl], fun i c v hc hv => ?_, h4⟩, by rw [hn]; exact h5⟩
  rcases hcs i c hc with rfl | ⟨hc', hw⟩
  · exact .undef
  · exact E.ra (h3 i c v hc' hv) hw

theorem Evo.vec (E : Evo K w w' p p' kb kv) {n : Nat} {s : VS} (h : P6 K w p n s) (hn : p'.rw n = p.rw n) (hh : ∀ g, (p.rw n).blk = some g → w'.heap[g]? = w.heap[g]?) : P6 K w' p' n s := by
  obtain ⟨h1, h3, h4⟩ := h
  exact ⟨by rw [hn]; exact h1.mono E.cell E.ok hh, h3, fun g hg => h4 g (by rw [← hn]; exact hg)⟩
end

theorem CF (x : AV) : x.wf (fun _ => true) (fun _ => true) = true := by
  have key : ∀ x : AV, x.wf (fun _ => true) (fun _ => true) = true := by
    intro x
    refine AV.rec (motive_1 := fun x => x.wf (fun _ => true) (fun _ => true) = true) (motive_2 := fun l => AV.wfL (fun _ => true) (fun _ => true) l = true) ?_ ?_ ?_ ?_ ?_ ?_ ?_ ?_ ?_ ?_ ?_ ?_ ?_ ?_ ?_ ?_ x <;> intros <;> simp_all [AV.wf, AV.wfL]
  exact key x

section
variable {P : Program} {K : Ctx P} {st : St} {a : Act} {w : World} {p : Pl}

theorem Rel.lbi (R : Rel K st a w p) (n : Nat) : p.lb n ↔ st.lb n = true := by rw [R.lb]
theorem Rel.lvi (R : Rel K st a w p) (n : Nat) : p.lv n ↔ st.lv n = true := by rw [R.lv]
theorem Rel.blt (R : Rel K st a w p) {n : Nat} (hn : p.lb n) : p.bx n < w.heap.size := by
  obtain ⟨cs, hcs⟩ := Option.isSome_iff_exists.1 ((R.lbi n).1 hn)
  obtain ⟨⟨vs, ty, h1, _⟩, _⟩ := R.box n cs hcs
  exact (Array.getElem?_eq_some_iff.1 h1).1
theorem Rel.vlt (R : Rel K st a w p) {n g : Nat} (hn : p.lv n) (hg : (p.rw n).blk = some g) : (K.w0.heap.size ≤ g ∨ g ∈ K.ivs) ∧ g < w.heap.size := by
  obtain ⟨s, hs⟩ := Option.isSome_iff_exists.1 ((R.lvi n).1 hn)
  obtain ⟨h1, _, h4⟩ := R.vec n s hs
  exact ⟨h4 g hg, h1.lt hg⟩

theorem Rel.put (R : Rel K st a w p) {d : Nat} {x : AV} {v : Value} (hx : RA w (okc K w p) p x v) (hd : d < st.nt) : Rel K (st.put d x) (a.put (some d) v) w p where
  lb := R.lb
  lv := R.lv
  dfr := R.dfr
  nt := by simpa [Act.put, St.put] using R.nt
  ntl := R.ntl
  ion := R.ion
  size := R.size
  os := R.os
  tape := R.tape
  dr := R.dr
  output := R.output
  old := R.old
  env := by
    intro t y h
    simp only [St.put, get] at h
    have hsz : d < a.tmps.size := by rw [R.nt]; exact hd
    split at h
    · rename_i e; subst e; cases h
      simp [Act.put, hsz]; exact hx
    · rename_i e
      have := R.env t y h
      simpa [Act.put, Array.getElem?_setIfInBounds_ne e] using this
  box := R.box
  vec := R.vec
  dbb := R.dbb
  dbv := R.dbv
  dvv := R.dvv

theorem Rel.puto (R : Rel K st a w p) {o : Oper} {x : AV} {v : Value} (hx : RA w (okc K w p) p x v) {st' : St} (h : (match o.dst with | some d => if d < st.nt then some (st.put d x) else none | none => some st) = some st') : Rel K st' (a.put o.dst v) w p := by
  cases hd : o.dst with
  | none => simp [hd] at h; subst h; exact R
  | some d =>
    simp only [hd] at h
    split at h
    · cases h; exact R.put hx ‹_›
    · cases h

theorem Rel.evo (R : Rel K st a w p) {w' : World} (E : Evo K w w' p p (fun _ => true) (fun _ => true)) (hb : ∀ n, p.lb n → w'.heap[p.bx n]? = w.heap[p.bx n]?) (hv : ∀ n g, p.lv n → (p.rw n).blk = some g → w'.heap[g]? = w.heap[g]?) :
    Rel K st a w' p where
  lb := R.lb
  lv := R.lv
  dfr := R.dfr
  nt := R.nt
  ntl := R.ntl
  ion := R.ion
  size := Nat.le_trans R.size E.size
  os := E.os.trans R.os
  tape := E.tape.trans R.tape
  dr := Nat.le_trans R.dr E.dr
  output := E.output.trans R.output
  old := fun b h1 h2 => (E.old b h1 h2).trans (R.old b h1 h2)
  env := fun t x h => E.ra (R.env t x h) (CF x)
  box := fun n cs h => E.box (R.box n cs h) rfl (hb n ((R.lbi n).2 (by simp [St.lb, h]))) rfl (fun i c hc => .inr ⟨hc, CF c⟩)
  vec := fun n s h => E.vec (R.vec n s h) rfl (fun g hg => hv n g ((R.lvi n).2 (by simp [St.lv, h])) hg)
  dbb := R.dbb
  dbv := R.dbv
  dvv := R.dvv

theorem Ls {w' : World} (hs : w.heap.size ≤ w'.heap.size) {b : Nat} (h : okc K w p b) : okc K w' p b := ⟨Nat.lt_of_lt_of_le h.1 hs, h.2⟩

theorem Rel.drew (R : Rel K st a w p) : Rel K st a w.drew p :=
  R.evo ⟨Nat.le_refl _, rfl, rfl, rfl, fun _ _ _ => rfl, fun _ _ => rfl, fun _ h => h, fun _ _ h => ⟨h, rfl⟩, fun _ _ h => ⟨h, rfl⟩, Nat.le_refl _⟩ (fun _ _ => rfl) (fun _ _ _ _ => rfl)

def AV.le (x y : AV) : Prop := y = .undef ∨ x = y ∨ (x = .nilS ∧ y = .d (.slice [])) ∨ ∃ r, x = .full r ∧ y = .d (.slice r)
def Lt (st st' : St) : List (Nat × AV) → Prop
  | [] => True
  | (t, y) :: l => (y = .undef ∨ ((st.look t).le y ∧ y.wf st'.lb st'.lv = true)) ∧ Lt st st' l
def EW (st' : St) : List AV → List AV → Prop
  | [], [] => True
  | x :: l, y :: l' => (y = .undef ∨ (x = y ∧ y.wf st'.lb st'.lv = true)) ∧ EW st' l l'
  | _, _ => False
def Lu (st st' : St) : List (Nat × List AV) → Prop
  | [] => True
  | (n, cs') :: l => (∃ cs, get st.box n = some cs ∧ EW st' cs cs') ∧ Lu st st' l
def Lv (st : St) : List (Nat × VS) → Prop
  | [] => True
  | (n, s) :: l => get st.vec n = some s ∧ Lv st l
structure D1 (st st' : St) : Prop where
  nt : st'.nt = st.nt
  env : Lt st st' st'.env
  box : Lu st st' st'.box
  vec : Lv st st'.vec

theorem HB {st st' : St} : ∀ {l : List (Nat × AV)}, Lt st st' l → ∀ {t : Nat} {y : AV}, get l t = some y → y = .undef ∨ ((st.look t).le y ∧ y.wf st'.lb st'.lv = true)
  | [], _, t, y, h => by simp [get] at h
  | (k, x) :: l, hl, t, y, h => by
    simp only [get] at h
    split at h
    · rename_i e; subst e; cases h; exact hl.1
    · exact HB hl.2 h
theorem Ca {st st' : St} : ∀ {l : List (Nat × List AV)}, Lu st st' l → ∀ {n : Nat} {cs' : List AV}, get l n = some cs' → ∃ cs, get st.box n = some cs ∧ EW st' cs cs'
  | [], _, t, y, h => by simp [get] at h
  | (k, x) :: l, hl, t, y, h => by
    simp only [get] at h
    split at h
    · rename_i e; subst e; cases h; exact hl.1
    · exact Ca hl.2 h
theorem Cb {st : St} : ∀ {l : List (Nat × VS)}, Lv st l → ∀ {n : Nat} {s : VS}, get l n = some s → get st.vec n = some s
  | [], _, t, y, h => by simp [get] at h
  | (k, x) :: l, hl, t, y, h => by
    simp only [get] at h
    split at h
    · rename_i e; subst e; cases h; exact hl.1
    · exact Cb hl.2 h
theorem E4 {st' : St} : ∀ {l l' : List AV}, EW st' l l' → l'.length = l.length ∧ ∀ (i : Nat) (c : AV), l'[i]? = some c → c = .undef ∨ (l[i]? = some c ∧ c.wf st'.lb st'.lv = true)
  | [], [], _ => ⟨rfl, fun i c h => by simp at h⟩
  | x :: l, y :: l', h => by
    obtain ⟨h1, h2⟩ := E4 h.2
    refine ⟨by simp [h1], fun i c hc => ?_⟩
    cases i with
    | zero =>
      simp at hc; subst hc
      rcases h.1 with h0 | ⟨h0, hw⟩
      · exact .inl h0
      · exact .inr ⟨by simp [h0], hw⟩
    | succ i => simpa using h2 i c (by simpa using hc)
  | [], _ :: _, h => h.elim
  | _ :: _, [], h => h.elim

theorem Rel.weak (R : Rel K st a w p) {st' : St} (W : D1 st st') : Rel K st' a w ⟨p.bx, p.rw, fun n => st'.lb n = true, fun n => st'.lv n = true⟩ := by
  have hb : ∀ n, st'.lb n = true → p.lb n := fun n hn => by
    obtain ⟨cs', hcs'⟩ := Option.isSome_iff_exists.1 hn
    obtain ⟨cs, hcs, _⟩ := Ca W.box hcs'
    exact (R.lbi n).2 (by simp [St.lb, hcs])
  have hv : ∀ n, st'.lv n = true → p.lv n := fun n hn => by
    obtain ⟨s, hs⟩ := Option.isSome_iff_exists.1 hn
    exact (R.lvi n).2 (by simp [St.lv, Cb W.vec hs])
  have E : Evo K w w p ⟨p.bx, p.rw, fun n => st'.lb n = true, fun n => st'.lv n = true⟩ st'.lb st'.lv :=
    ⟨Nat.le_refl _, rfl, rfl, rfl, fun _ _ _ => rfl, fun _ _ => rfl, fun b h => ⟨h.1, h.2.1, fun n hn => h.2.2.1 n (hb n hn), fun n hn => h.2.2.2 n (hv n hn)⟩, fun n hn _ => ⟨hn, rfl⟩, fun n hn _ => ⟨hn, rfl⟩, Nat.le_refl _⟩
  exact {
    lb := rfl
    lv := rfl
    dfr := R.dfr
    nt := R.nt.trans W.nt.symm
    ntl := by rw [W.nt]; exact R.ntl
    ion := fun i hi => R.ion i (hb _ hi)
    size := R.size
    os := R.os
    tape := R.tape
    dr := R.dr
    output := R.output
    old := R.old
    env := fun t y h => by
      rcases HB W.env h with rfl | ⟨h1, hw⟩
      · exact .undef
      have hx : RA w (okc K w p) p (st.look t) (a.tmps.getD t undef) := R.opd (.tmp t)
      rcases h1 with rfl | h1 | ⟨h1, rfl⟩ | ⟨r, h1, rfl⟩
      · exact .undef
      · subst h1; exact E.ra hx hw
      · rw [h1] at hx
        generalize a.tmps.getD t undef = v at hx ⊢
        cases hx with | nilS => exact .d .snil
      · rw [h1] at hx
        generalize a.tmps.getD t undef = v at hx ⊢
        cases hx with | full h => exact .d (E.rd h)
    box := fun n cs' h => by
      obtain ⟨cs, hcs, hle⟩ := Ca W.box h
      obtain ⟨h1, h2⟩ := E4 hle
      exact E.box (R.box n cs hcs) rfl rfl h1 h2
    vec := fun n s h => E.vec (R.vec n s (Cb W.vec h)) rfl (fun _ _ => rfl)
    dbb := fun n m hn hm => R.dbb n m (hb n hn) (hb m hm)
    dbv := fun n m hn hm => R.dbv n m (hb n hn) (hv m hm)
    dvv := fun n m hn hm => R.dvv n m (hv n hn) (hv m hm) }

def upd {α : Type} (f : Nat → α) (n : Nat) (x : α) : Nat → α := fun m => if m = n then x else f m
theorem upd_same {α : Type} (f : Nat → α) (n : Nat) (x : α) : upd f n x n = x := if_pos rfl
theorem upd_ne {α : Type} (f : Nat → α) {n m : Nat} (x : α) (h : m ≠ n) : upd f n x m = f m := if_neg h

theorem E5 (w : World) (o : Obj) (q : Addr) (h : q.block < w.heap.size) : see (w.alloc o) q = see w q := Aq (by unfold World.alloc; simp [Array.getElem?_push, Nat.ne_of_lt h])

theorem Rel.newBox (R : Rel K st a w p) {n : Nat} {cs : List AV} {vs : Array Value} {ty : TypeId} (hlt : n < 1000000) (hn : get st.box n = none) (hl : vs.size = cs.length) (hr : ∀ (i : Nat) (c : AV) (v : Value), cs[i]? = some c → vs[i]? = some v → RA w (okc K w p) p c v)
    (h1 : ∀ (i : Nat) (v : Value), vs[i]? = some v → v.oneCell' = true) :
    Rel K { st with box := (n, cs) :: st.box } a (w.alloc (.cells vs ty)) ⟨upd p.bx n w.heap.size, p.rw, fun m => m = n ∨ p.lb m, p.lv⟩ := by
  have hnl : ¬ p.lb n := fun h => by have := (R.lbi n).1 h; simp [St.lb, hn] at this
  have hne : ∀ m, p.lb m → m ≠ n := fun m hm e => hnl (e ▸ hm)
  have E : Evo K w (w.alloc (.cells vs ty)) p ⟨upd p.bx n w.heap.size, p.rw, fun m => m = n ∨ p.lb m, p.lv⟩ (fun _ => true) (fun _ => true) :=
    ⟨by simp, rfl, rfl, rfl, fun b hb _ => Below.heap_alloc w _ b (Nat.lt_of_lt_of_le hb R.size), fun q hq => E5 w _ q hq.1, fun b h => ⟨by have := h.1; simp; omega, h.2.1, fun m hm => by
      dsimp only at hm ⊢
      by_cases e : m = n
      · subst e; rw [upd_same]; have := h.1; omega
      · rw [upd_ne _ _ e]; exact h.2.2.1 m (hm.resolve_left e), h.2.2.2⟩, fun m _ hm => ⟨.inr hm, upd_ne _ _ (hne m hm)⟩, fun m _ hm => ⟨hm, rfl⟩, Nat.le_refl _⟩
  exact {
    lb := by
      funext m
      simp only [St.lb, get, eq_iff_iff]
      have := R.lbi m
      by_cases e : n = m
      · simp [e]
      · simp only [if_neg e, this, St.lb]; constructor
        · rintro (h | h)
          · exact absurd h.symm e
          · exact h
        · exact .inr
    lv := R.lv
    dfr := R.dfr
    nt := R.nt
    ntl := R.ntl
    ion := fun i hi => by
      have e : InO i ≠ n := by unfold InO; omega
      dsimp only at hi ⊢
      rw [upd_ne _ _ e]; exact R.ion i (hi.resolve_left e)
    size := Nat.le_trans R.size E.size
    os := R.os
    tape := R.tape
    dr := R.dr
    output := R.output
    old := fun b hb hi => (E.old b hb hi).trans (R.old b hb hi)
    env := fun t x h => E.ra (R.env t x h) (CF x)
    box := fun m cs' h => by
      simp only [get] at h
      split at h
      · rename_i e; subst e; cases h
        exact ⟨⟨vs, ty, by simp only [upd_same]; exact heap_alloc_new w _, hl, fun i c v hc hv => E.ra (hr i c v hc hv) (CF c), h1⟩, .inl (by simp only [upd_same]; exact R.size)⟩
      · rename_i e
        have hm : p.lb m := (R.lbi m).2 (by simp [St.lb, h])
        exact E.box (R.box m cs' h) (upd_ne _ _ (Ne.symm e)) (Below.heap_alloc w _ _ (R.blt hm)) rfl (fun i c hc => .inr ⟨hc, CF c⟩)
    vec := fun m s h => E.vec (R.vec m s h) rfl (fun g hg => Below.heap_alloc w _ _ (R.vlt ((R.lvi m).2 (by simp [St.lv, h])) hg).2)
    dbb := fun m k hm hk hmk => by
      simp only at hm hk ⊢
      by_cases e : m = n
      · subst e; rw [upd_same, upd_ne _ _ (Ne.symm hmk)]
        have := R.blt (hk.resolve_left (Ne.symm hmk)); omega
      · rw [upd_ne _ _ e]
        by_cases e' : k = n
        · subst e'; rw [upd_same]; have := R.blt (hm.resolve_left e); omega
        · rw [upd_ne _ _ e']; exact R.dbb m k (hm.resolve_left e) (hk.resolve_left e') hmk
    dbv := fun m k hm hk => by
      simp only at hm ⊢
      by_cases e : m = n
      · subst e; rw [upd_same]; intro hg; have := (R.vlt hk hg).2; omega
      · rw [upd_ne _ _ e]; exact R.dbv m k (hm.resolve_left e) hk
    dvv := R.dvv }

end
end Go.Vl

namespace Go.Vl
open Go Go.RowKit

def AV.scrub (n : Nat) (x : AV) : AV := if x.wf (fun _ => true) (fun m => m != n) then x else .undef

section
variable {P : Program} {K : Ctx P} {st : St} {a : Act} {w : World} {p : Pl}

theorem A3 {α β : Type} {f : α → β} {l : List (Nat × α)} {t : Nat} {y : β} (h : get (Bl f l) t = some y) : ∃ x, get l t = some x ∧ y = f x := by
  rw [BF] at h
  cases hx : get l t with
  | none => simp [hx] at h
  | some x => simp [hx] at h; exact ⟨x, rfl, h.symm⟩

theorem Rel.setVecG (R : Rel K st a w p) {n d : Nat} {w' : World} {v' : Value} {s : VS} {row : Option Nat} (hd : get (del st.vec n) d = none) (hg : w.grownBy w' row) (hdr : dr0 w ≤ dr0 w') (hrow : row = none ∨ (p.lv n ∧ row = (p.rw n).blk))
    (hat : ∀ ok' : Nat → Prop, (∀ q : Addr, okc K w p q.block → see w' q = see w q) → (∀ b, okc K w p b → ok' b) → Cm w' ok' s v') (hz : ∀ r ∈ s.rows, r.length = s.z)
    (hblk : v'.blk = none ∨ (p.lv n ∧ v'.blk = (p.rw n).blk) ∨ v'.blk = some w.heap.size) :
    Rel K { nt := st.nt, env := Bl (AV.scrub n) st.env, box := Bl (List.map (AV.scrub n)) st.box, vec := (d, s) :: del st.vec n } a w' ⟨p.bx, upd p.rw d v', p.lb, fun m => m = d ∨ (m ≠ n ∧ p.lv m)⟩ := by
  have hlive : ∀ m, m ≠ n → p.lv m → m ≠ d := fun m hm hl e => by
    subst e
    rw [Av, if_neg (Ne.symm hm)] at hd
    have := (R.lvi m).1 hl
    simp [St.lv, hd] at this
  have hgr : ∀ b, b < w.heap.size → (∀ m, p.lv m → (p.rw m).blk ≠ some b) → w'.heap[b]? = w.heap[b]? := fun b hb hv => hg.block b hb (fun e => by
    rcases hrow with h0 | ⟨h1, h2⟩
    · rw [h0] at e; cases e
    · exact hv n h1 (by rw [← h2]; exact e.symm))
  have hother : ∀ m g, m ≠ n → p.lv m → (p.rw m).blk = some g → w'.heap[g]? = w.heap[g]? := fun m g hm hl hgm => hg.block g (R.vlt hl hgm).2 (fun e => by
    rcases hrow with h0 | ⟨h1, h2⟩
    · rw [h0] at e; cases e
    · rcases R.dvv m n hl h1 hm with h3 | h3
      · rw [h3] at hgm; cases hgm
      · exact h3 (by rw [hgm, ← h2]; exact e))
  have E : Evo K w w' p ⟨p.bx, upd p.rw d v', p.lb, fun m => m = d ∨ (m ≠ n ∧ p.lv m)⟩ (fun _ => true) (fun m => m != n) :=
    ⟨hg.size, hg.os, hg.tape, hg.output, fun b hb hio => hg.block b (Nat.lt_of_lt_of_le hb R.size) (fun e => by
        rcases hrow with h0 | ⟨h1, h2⟩
        · rw [h0] at e; cases e
        · rcases (R.vlt h1 (h2.symm.trans e.symm)).1 with h3 | h3
          · omega
          · exact hio (.inr h3)),
      fun q hq => Aq (hgr q.block hq.1 hq.2.2.2),
      fun b h => ⟨Nat.lt_of_lt_of_le h.1 hg.size, h.2.1, h.2.2.1, fun m hm => by
        dsimp only at hm ⊢
        by_cases e : m = d
        · subst e; rw [upd_same]
          rcases hblk with h0 | ⟨h1, h2⟩ | h0
          · rw [h0]; simp
          · rw [h2]; exact h.2.2.2 n h1
          · rw [h0]; intro e; cases e; exact Nat.lt_irrefl _ h.1
        · rw [upd_ne _ _ e]; exact h.2.2.2 m (hm.resolve_left e).2⟩,
      fun m _ hm => ⟨hm, rfl⟩, fun m hm hl => ⟨.inr ⟨by simpa using hm, hl⟩, upd_ne _ _ (hlive m (by simpa using hm) hl)⟩, hdr⟩
  have hdis : ∀ m g, p.lb m → v'.blk = some g → g ≠ p.bx m := fun m g hm hgv => by
    rcases hblk with h0 | ⟨h1, h2⟩ | h0
    · rw [h0] at hgv; cases hgv
    · intro e; exact R.dbv m n hm h1 (by rw [← h2, hgv, e])
    · rw [h0] at hgv; cases hgv; have := R.blt hm; omega
  have hdv : ∀ m, m ≠ n → p.lv m → v'.blk = none ∨ v'.blk ≠ (p.rw m).blk := fun m hm hl => by
    rcases hblk with h0 | ⟨h1, h2⟩ | h0
    · exact .inl h0
    · rw [h2]; exact R.dvv n m h1 hl (Ne.symm hm)
    · right; rw [h0]; intro e; have := (R.vlt hl e.symm).2; omega
  have hscrub : ∀ x, AV.scrub n x = .undef ∨ (AV.scrub n x = x ∧ x.wf (fun _ => true) (fun m => m != n) = true) := fun x => by
    unfold AV.scrub; split
    · exact .inr ⟨rfl, ‹_›⟩
    · exact .inl rfl
  exact {
    lb := by
      funext m
      simp only [St.lb, BF, Option.isSome_map]
      rw [R.lb]; rfl
    lv := by
      funext m
      simp only [St.lv, get, eq_iff_iff]
      by_cases e : d = m
      · simp [e]
      · rw [if_neg e, Av]
        by_cases e' : n = m
        · simp [e', Ne.symm e]
        · rw [if_neg e']
          have := R.lvi m
          simp only [St.lv] at this
          simp [Ne.symm e, Ne.symm e', this]
    dfr := R.dfr
    nt := R.nt
    ntl := R.ntl
    ion := R.ion
    size := Nat.le_trans R.size E.size
    os := E.os.trans R.os
    tape := E.tape.trans R.tape
    dr := Nat.le_trans R.dr E.dr
    output := E.output.trans R.output
    old := fun b hb hi => (E.old b hb hi).trans (R.old b hb hi)
    env := fun t y h => by
      obtain ⟨x, hx, rfl⟩ := A3 h
      rcases hscrub x with h0 | ⟨h0, hw⟩
      · rw [h0]; exact .undef
      · rw [h0]; exact E.ra (R.env t x hx) hw
    box := fun m cs' h => by
      obtain ⟨cs, hcs, rfl⟩ := A3 h
      have hm : p.lb m := (R.lbi m).2 (by simp [St.lb, hcs])
      refine E.box (R.box m cs hcs) rfl (hg.block _ (R.blt hm) (fun e => ?_)) (by simp) (fun i c hc => ?_)
      · rcases hrow with h0 | ⟨h1, h2⟩
        · rw [h0] at e; cases e
        · exact R.dbv m n hm h1 (by rw [← h2]; exact e.symm)
      · rw [List.getElem?_map] at hc
        cases hq : cs[i]? with
        | none => simp [hq] at hc
        | some q =>
          simp [hq] at hc; subst hc
          rcases hscrub q with h0 | ⟨h0, hw⟩
          · exact .inl h0
          · exact .inr ⟨by rw [h0], by rw [h0]; exact hw⟩
    vec := fun m s' h => by
      simp only [get] at h
      split at h
      · rename_i e; subst e; cases h
        exact ⟨by simp only [upd_same]; exact hat _ E.cell E.ok, hz, fun g hgv => by
          simp only [upd_same] at hgv
          rcases hblk with h0 | ⟨h1, h2⟩ | h0
          · rw [h0] at hgv; cases hgv
          · exact (R.vlt h1 (h2.symm.trans hgv)).1
          · rw [h0] at hgv; cases hgv; exact .inl R.size⟩
      · rename_i e
        rw [Av] at h
        split at h
        · cases h
        · rename_i e'
          have hl : p.lv m := (R.lvi m).2 (by simp [St.lv, h])
          exact E.vec (R.vec m s' h) (upd_ne _ _ (Ne.symm e)) (fun g hgm => hother m g (Ne.symm e') hl hgm)
    dbb := R.dbb
    dbv := fun m k hm hk => by
      dsimp only at hm hk ⊢
      by_cases e : k = d
      · subst e; rw [upd_same]; intro hgv; exact hdis m _ hm hgv rfl
      · rw [upd_ne _ _ e]; exact R.dbv m k hm (hk.resolve_left e).2
    dvv := fun m k hm hk hmk => by
      dsimp only at hm hk ⊢
      by_cases e : m = d
      · subst e
        rw [upd_same, upd_ne _ _ (Ne.symm hmk)]
        have := hk.resolve_left (Ne.symm hmk)
        exact hdv k this.1 this.2
      · by_cases e' : k = d
        · subst e'
          rw [upd_same, upd_ne _ _ e]
          have := hm.resolve_left e
          rcases hdv m this.1 this.2 with h0 | h0
          · by_cases hn : (p.rw m).blk = none
            · exact .inl hn
            · right; rw [h0]; exact hn
          · exact .inr (Ne.symm h0)
        · rw [upd_ne _ _ e, upd_ne _ _ e']; exact R.dvv m k (hm.resolve_left e).2 (hk.resolve_left e').2 hmk }

theorem Rel.setBox (R : Rel K st a w p) {n : Nat} {cs cs' : List AV} {vs vs' : Array Value} {ty : TypeId} (hn : get st.box n = some cs) (hh : w.heap[p.bx n]? = some (.cells vs ty (0, 0))) (hl : vs'.size = cs'.length)
    (hr : ∀ (i : Nat) (c : AV) (v : Value), cs'[i]? = some c → vs'[i]? = some v → RA w (okc K w p) p c v) (h1 : ∀ (i : Nat) (v : Value), vs'[i]? = some v → v.oneCell' = true) :
    Rel K { st with box := (n, cs') :: st.box } a (w.setRow (p.bx n) vs') p := by
  have hnl : p.lb n := (R.lbi n).2 (by simp [St.lb, hn])
  have E : Evo K w (w.setRow (p.bx n) vs') p p (fun _ => true) (fun _ => true) :=
    ⟨by simp, rfl, rfl, rfl, fun b hb hi => setRow_other w _ b _ (fun e => by
        rcases (R.box n cs hn).mine with h0 | h0
        · omega
        · exact hi (e ▸ h0)),
      fun q hq => Ie w _ _ q (hq.2.2.1 n hnl), fun b h => ⟨by simpa using h.1, h.2⟩, fun _ _ h => ⟨h, rfl⟩, fun _ _ h => ⟨h, rfl⟩, Nat.le_refl _⟩
  exact {
    lb := by
      funext m
      simp only [St.lb, get, eq_iff_iff]
      have := R.lbi m
      by_cases e : n = m
      · subst e; simp [hnl]
      · simp only [if_neg e, this, St.lb]
    lv := R.lv
    dfr := R.dfr
    nt := R.nt
    ntl := R.ntl
    ion := R.ion
    size := Nat.le_trans R.size E.size
    os := R.os
    tape := R.tape
    dr := R.dr
    output := R.output
    old := fun b hb hi => (E.old b hb hi).trans (R.old b hb hi)
    env := fun t x h => E.ra (R.env t x h) (CF x)
    box := fun m cs2 h => by
      simp only [get] at h
      split at h
      · rename_i e; subst e; cases h
        exact ⟨⟨vs', ty, setRow_heap w _ vs vs' ty _ hh, hl, fun i c v hc hv => E.ra (hr i c v hc hv) (CF c), h1⟩, (R.box n cs hn).mine⟩
      · rename_i e
        have hm : p.lb m := (R.lbi m).2 (by simp [St.lb, h])
        exact E.box (R.box m cs2 h) rfl (setRow_other w _ _ _ (R.dbb m n hm hnl (Ne.symm e))) rfl (fun i c hc => .inr ⟨hc, CF c⟩)
    vec := fun m s h => E.vec (R.vec m s h) rfl (fun g hg => setRow_other w _ _ _ (fun e => R.dbv n m hnl ((R.lvi m).2 (by simp [St.lv, h])) (by rw [hg, e])))
    dbb := R.dbb
    dbv := R.dbv
    dvv := R.dvv }

theorem Rel.setVec (R : Rel K st a w p) {n d : Nat} {w' : World} {v' : Value} {s : VS} {xs : List Value} {row : Option Nat} (hM : s.isM = false) (hd : get (del st.vec n) d = none) (hg : w.grownBy w' row) (hdr : dr0 w ≤ dr0 w') (hrow : row = none ∨ (p.lv n ∧ row = (p.rw n).blk))
    (hown : w'.ownsRow 0 s.e s.z v' s.rows.length xs) (hz : ∀ r ∈ s.rows, r.length = s.z) (hrd : ∀ (j : Nat) (x : D) (v : Value), s.rows.flatten[j]? = some x → xs[j]? = some v → RD w (okc K w p) x v)
    (hblk : v'.blk = none ∨ (p.lv n ∧ v'.blk = (p.rw n).blk) ∨ v'.blk = some w.heap.size) :
    Rel K { nt := st.nt, env := Bl (AV.scrub n) st.env, box := Bl (List.map (AV.scrub n)) st.box, vec := (d, s) :: del st.vec n } a w' ⟨p.bx, upd p.rw d v', p.lb, fun m => m = d ∨ (m ≠ n ∧ p.lv m)⟩ :=
  R.setVecG hd hg hdr hrow (fun _ h1 h2 => .of hM ⟨xs, hown, fun j x v hx hv => (hrd j x v hx hv).mono h1 h2⟩) hz hblk

theorem Rel.setIn (R : Rel K st a w p) {n : Nat} {s s' : VS} {g : Nat} {w' : World} (hn : get st.vec n = some s) (hgb : (p.rw n).blk = some g) (hg : w.grownBy w' (some g)) (hdr : dr0 w ≤ dr0 w') (hz : ∀ r ∈ s'.rows, r.length = s'.z)
    (hat : ∀ ok' : Nat → Prop, (∀ q : Addr, okc K w p q.block → see w' q = see w q) → (∀ b, okc K w p b → ok' b) → Cm w' ok' s' (p.rw n)) :
    Rel K { st with vec := (n, s') :: st.vec } a w' p := by
  have hnl : p.lv n := (R.lvi n).2 (by simp [St.lv, hn])
  have hother : ∀ b, b < w.heap.size → b ≠ g → w'.heap[b]? = w.heap[b]? := fun b hb e => hg.block b hb (fun e' => e (Option.some.inj e'))
  have E : Evo K w w' p p (fun _ => true) (fun _ => true) :=
    ⟨hg.size, hg.os, hg.tape, hg.output, fun b hb hi => hother b (Nat.lt_of_lt_of_le hb R.size) (fun e => by
        rcases (R.vlt hnl hgb).1 with h3 | h3
        · omega
        · exact hi (.inr (by rw [e]; exact h3))),
      fun q hq => Aq (hother q.block hq.1 (fun e => hq.2.2.2 n hnl (by rw [hgb, e]))), fun b h => ⟨Nat.lt_of_lt_of_le h.1 hg.size, h.2⟩, fun _ _ h => ⟨h, rfl⟩, fun _ _ h => ⟨h, rfl⟩, hdr⟩
  exact {
    lb := R.lb
    lv := by
      funext m
      simp only [St.lv, get, eq_iff_iff]
      have := R.lvi m
      by_cases e : n = m
      · subst e; simp [hnl]
      · simp only [if_neg e, this, St.lv]
    dfr := R.dfr
    nt := R.nt
    ntl := R.ntl
    ion := R.ion
    size := Nat.le_trans R.size E.size
    os := E.os.trans R.os
    tape := E.tape.trans R.tape
    dr := Nat.le_trans R.dr E.dr
    output := E.output.trans R.output
    old := fun b hb hi => (E.old b hb hi).trans (R.old b hb hi)
    env := fun t x h => E.ra (R.env t x h) (CF x)
    box := fun m cs h => by
      have hm : p.lb m := (R.lbi m).2 (by simp [St.lb, h])
      exact E.box (R.box m cs h) rfl (hother _ (R.blt hm) (fun e => R.dbv m n hm hnl (by rw [hgb, e]))) rfl (fun i c hc => .inr ⟨hc, CF c⟩)
    vec := fun m s2 h => by
      simp only [get] at h
      split at h
      · rename_i e; subst e; cases h
        exact ⟨hat _ E.cell E.ok, hz, (R.vec n s hn).mine⟩
      · rename_i e
        have hm : p.lv m := (R.lvi m).2 (by simp [St.lv, h])
        exact E.vec (R.vec m s2 h) rfl (fun g' hg' => hother g' (R.vlt hm hg').2 (fun e' => by
          rcases R.dvv m n hm hnl (Ne.symm e) with h0 | h0
          · rw [h0] at hg'; cases hg'
          · exact h0 (by rw [hg', hgb, e'])))
    dbb := R.dbb
    dbv := R.dbv
    dvv := R.dvv }

theorem Rel.setRows (R : Rel K st a w p) {n : Nat} {s : VS} {rows' : List (List D)} {g c len : Nat} {cur' : Array Value} {xs' : List Value} (hn : get st.vec n = some s) (hv : p.rw n = .slice (some ⟨g, 0, none⟩) len c)
    (hl : rows'.length = s.rows.length) (hz : ∀ r ∈ rows', r.length = s.z) (hown : (w.setRow g cur').ownsRow 0 s.e s.z (p.rw n) s.rows.length xs')
    (hrd : ∀ (j : Nat) (x : D) (v : Value), rows'.flatten[j]? = some x → xs'[j]? = some v → RD w (okc K w p) x v) :
    Rel K { st with vec := (n, { s with rows := rows' }) :: st.vec } a (w.setRow g cur') p := by
  have hnl : p.lv n := (R.lvi n).2 (by simp [St.lv, hn])
  have hgb : (p.rw n).blk = some g := by rw [hv]; rfl
  have E : Evo K w (w.setRow g cur') p p (fun _ => true) (fun _ => true) :=
    ⟨by simp, rfl, rfl, rfl, fun b hb hi => setRow_other w _ b _ (fun e => by
        rcases (R.vlt hnl hgb).1 with h3 | h3
        · omega
        · exact hi (.inr (by rw [e]; exact h3))),
      fun q hq => Ie w _ _ q (fun e => hq.2.2.2 n hnl (by rw [hgb, e])), fun b h => ⟨by simpa using h.1, h.2⟩, fun _ _ h => ⟨h, rfl⟩, fun _ _ h => ⟨h, rfl⟩, Nat.le_refl _⟩
  exact {
    lb := R.lb
    lv := by
      funext m
      simp only [St.lv, get, eq_iff_iff]
      have := R.lvi m
      by_cases e : n = m
      · subst e; simp [hnl]
      · simp only [if_neg e, this, St.lv]
    dfr := R.dfr
    nt := R.nt
    ntl := R.ntl
    ion := R.ion
    size := Nat.le_trans R.size E.size
    os := R.os
    tape := R.tape
    dr := R.dr
    output := R.output
    old := fun b hb hi => (E.old b hb hi).trans (R.old b hb hi)
    env := fun t x h => E.ra (R.env t x h) (CF x)
    box := fun m cs h => E.box (R.box m cs h) rfl (setRow_other w _ _ _ (fun e => R.dbv m n ((R.lbi m).2 (by simp [St.lb, h])) hnl (by rw [hgb, e]))) rfl (fun i c hc => .inr ⟨hc, CF c⟩)
    vec := fun m s2 h => by
      simp only [get] at h
      split at h
      · rename_i e; subst e; cases h
        exact ⟨.of ((R.vec n s hn).at_.sl hv) ⟨xs', by rw [hl]; exact hown, fun j x v hx hv => E.rd (hrd j x v hx hv)⟩, hz, (R.vec n s hn).mine⟩
      · rename_i e
        have hm : p.lv m := (R.lvi m).2 (by simp [St.lv, h])
        exact E.vec (R.vec m s2 h) rfl (fun g' hg' => setRow_other w _ _ _ (fun e' => by
          rcases R.dvv m n hm hnl (Ne.symm e) with h0 | h0
          · rw [h0] at hg'; cases hg'
          · exact h0 (by rw [hg', hgb, e'])))
    dbb := R.dbb
    dbv := R.dbv
    dvv := R.dvv }

end

mutual
def AV.frz (n : Nat) (rows : D) : AV → AV
  | .vec m => if m = n then .d rows else .vec m
  | .vptr m z i o => if m = n then .undef else .vptr m z i o
  | .cut m z lo k => if m = n then .undef else .cut m z lo k
  | .agg l => .agg (AV.frzL n rows l)
  | .tup l => .tup (AV.frzL n rows l)
  | .fn f l => .fn f (AV.frzL n rows l)
  | x => x
def AV.frzL (n : Nat) (rows : D) : List AV → List AV
  | [] => []
  | x :: l => AV.frz n rows x :: AV.frzL n rows l
end
theorem GL (n : Nat) (rows : D) : ∀ l : List AV, AV.frzL n rows l = l.map (AV.frz n rows)
  | [] => rfl
  | x :: l => by simp [AV.frzL, GL n rows l]

theorem WZ {w : World} {ok ok' : Nat → Prop} {base : Nat} {e : TypeId} {z : Nat} {v : Value} {rows : List (List D)} {xs : List Value} (h : w.ownsRow base e z v rows.length xs) (hz : ∀ r ∈ rows, r.length = z)
    (hrd : ∀ (j : Nat) (d : D) (v : Value), rows.flatten[j]? = some d → xs[j]? = some v → RD w ok d v) (hok : ∀ b, ok b → ok' b) (hb : ∀ g, v.blk = some g → ok' g) : RD w ok' (.slice rows) v := by
  rcases h.2 with ⟨rfl, h0⟩ | ⟨g, cap, cur, rfl, _, hg, hn, hm, hs, hx⟩
  · have : rows = [] := List.eq_nil_of_length_eq_zero h0
    subst this; exact .snil
  · obtain ⟨_, hc⟩ := FW h
    have hfl : rows.flatten.length = rows.length * z := A4 hz
    refine .slice z (fun j => xs.getD j undef) hz (hb g rfl) hn (fun j hj => ?_) (fun j d hd => ?_)
    · rw [Ah, Nat.zero_add, (hc j (by omega)).1]
      have : j < xs.length := by rw [h.1]; omega
      simp [List.getD, List.getElem?_eq_getElem this]
    · have hj : j < xs.length := by have := (List.getElem?_eq_some_iff.1 hd).1; rw [h.1]; omega
      exact (hrd j d _ hd (by simp [List.getD, List.getElem?_eq_getElem hj])).mono (fun _ _ => rfl) hok

theorem RA.frz {w : World} {ok ok' : Nat → Prop} {p p' : Pl} {n : Nat} {rows : D} (ho : ∀ b, ok b → ok' b) (hb : ∀ m, p.lb m → p'.lb m ∧ p'.bx m = p.bx m) (hv : ∀ m, m ≠ n → p.lv m → p'.lv m ∧ p'.rw m = p.rw m)
    (hn : RD w ok' rows (p.rw n)) {x : AV} {v : Value} (h : RA w ok p x v) : RA w ok' p' (x.frz n rows) v := by
  induction h with
  | undef => simp only [AV.frz]; exact .undef
  | d h => simp only [AV.frz]; exact .d (h.mono (fun _ _ => rfl) ho)
  | nilS => simp only [AV.frz]; exact .nilS
  | full h => simp only [AV.frz]; exact .full (h.mono (fun _ _ => rfl) ho)
  | agg hl _ h1 ih =>
    simp only [AV.frz, GL]
    refine .agg (by simpa using hl) (fun i a v ha hv' => ?_) h1
    simp only [List.getElem?_map, Option.map_eq_some_iff] at ha
    obtain ⟨q, hq, rfl⟩ := ha
    exact ih i q v hq hv'
  | tup hl _ ih =>
    simp only [AV.frz, GL]
    refine .tup (by simpa using hl) (fun i a v ha hv' => ?_)
    simp only [List.getElem?_map, Option.map_eq_some_iff] at ha
    obtain ⟨q, hq, rfl⟩ := ha
    exact ih i q v hq hv'
  | ptr hm => obtain ⟨h1, h2⟩ := hb _ hm; simp only [AV.frz, ← h2]; exact .ptr h1
  | cptr vs hok hcell h => simp only [AV.frz]; exact .cptr vs (ho _ hok) hcell (fun j x hx => (h j x hx).mono (fun _ _ => rfl) ho)
  | vec hm =>
    simp only [AV.frz]
    split
    · subst_vars; exact .d hn
    · obtain ⟨h1, h2⟩ := hv _ ‹_› hm; rw [← h2]; exact .vec h1
  | vptr hm he =>
    simp only [AV.frz]
    split
    · exact .undef
    · obtain ⟨h1, h2⟩ := hv _ ‹_› hm; exact .vptr h1 (h2.trans he)
  | cut hm he ho hle =>
    simp only [AV.frz]
    split
    · exact .undef
    · obtain ⟨h1, h2⟩ := hv _ ‹_› hm; exact .cut h1 (h2.trans he) ho hle
  | cut0 hm he =>
    simp only [AV.frz]
    split
    · exact .undef
    · obtain ⟨h1, h2⟩ := hv _ ‹_› hm; exact .cut0 h1 (h2.trans he)
  | slen => simp only [AV.frz]; exact .slen
  | iter => simp only [AV.frz]; exact .iter
  | fn hl _ ih =>
    simp only [AV.frz, GL]
    refine .fn (by simpa using hl) (fun i a v ha hv' => ?_)
    simp only [List.getElem?_map, Option.map_eq_some_iff] at ha
    obtain ⟨q, hq, rfl⟩ := ha
    exact ih i q v hq hv'

def VS.dat (s : VS) : D := if s.isM = true then .mp s.e s.z s.rows else .slice s.rows
def St.frz (st : St) (n : Nat) : St :=
  match get st.vec n with
  | some s => { nt := st.nt, env := Bl (AV.frz n s.dat) st.env, box := Bl (List.map (AV.frz n s.dat)) st.box, vec := del st.vec n }
  | none => st

section
variable {P : Program} {K : Ctx P} {st : St} {a : Act} {w : World} {p : Pl}
theorem Rel.frz (R : Rel K st a w p) (n : Nat) : ∃ p', Rel K (st.frz n) a w p' ∧ (∀ b, okc K w p b → okc K w p' b) ∧ p'.bx = p.bx ∧ p'.lb = p.lb ∧ ((∃ s, get st.vec n = some s ∧ s.isM = true) ∨ ∀ g, p.lv n → (p.rw n).blk = some g → okc K w p' g) := by
  unfold St.frz
  cases hs : get st.vec n with
  | none => exact ⟨p, R, fun _ h => h, rfl, rfl, .inr fun g hl _ => by have := (R.lvi n).1 hl; simp [St.lv, hs] at this⟩
  | some s =>
    simp only
    have hnl : p.lv n := (R.lvi n).2 (by simp [St.lv, hs])
    let p' : Pl := ⟨p.bx, p.rw, p.lb, fun m => m ≠ n ∧ p.lv m⟩
    have hok : ∀ b, okc K w p b → okc K w p' b := fun b h => ⟨h.1, h.2.1, h.2.2.1, fun m hm => h.2.2.2 m hm.2⟩
    obtain ⟨hat, hz, hmine⟩ := R.vec n s hs
    have hgk : ∀ g, (p.rw n).blk = some g → okc K w p' g := fun g hg => ⟨(R.vlt hnl hg).2, .inr (R.vlt hnl hg).1, fun m hm e => R.dbv m n hm hnl (by rw [hg, e]), fun m hm e => by
      rcases R.dvv m n hm.2 hnl hm.1 with h0 | h0
      · rw [h0] at e; cases e
      · exact h0 (by rw [e, hg])⟩
    have hd : RD w (okc K w p') s.dat (p.rw n) := by
      unfold VS.dat
      cases hM : s.isM with
      | true =>
        obtain ⟨b, es, clock, hv, hb, hm⟩ := hat.map hM
        rw [if_pos rfl, hv]
        exact RD.ofMap hM hz hb (hgk b (by rw [hv]; rfl)) (hm.mono (fun _ _ => rfl) hok)
      | false =>
        obtain ⟨xs, hown, hrd⟩ := hat.row hM
        rw [if_neg (by decide)]
        exact WZ hown hz hrd hok hgk
    have key : ∀ {x : AV} {v : Value}, RA w (okc K w p) p x v → RA w (okc K w p') p' (x.frz n s.dat) v := fun h => h.frz (p := p) (p' := p') hok (fun m hm => ⟨hm, rfl⟩) (fun m hm hl => ⟨⟨hm, hl⟩, rfl⟩) hd
    refine ⟨p', ?_, hok, rfl, rfl, .inr fun g _ hg => hgk g hg⟩
    exact {
      lb := by funext m; simp only [St.lb, BF, Option.isSome_map]; show p.lb m = _; rw [R.lb]; rfl
      lv := by
        funext m
        simp only [St.lv, Av, eq_iff_iff]
        show (m ≠ n ∧ p.lv m) ↔ _
        by_cases e : n = m
        · simp [e]
        · rw [if_neg e]; have := R.lvi m; simp only [St.lv] at this; simp [Ne.symm e, this]
      dfr := R.dfr
      nt := R.nt
      ntl := R.ntl
      ion := R.ion
      size := R.size
      os := R.os
      tape := R.tape
      dr := R.dr
      output := R.output
      old := R.old
      env := fun t y h => by obtain ⟨x, hx, rfl⟩ := A3 h; exact key (R.env t x hx)
      box := fun m cs' h => by
        obtain ⟨cs, hcs, rfl⟩ := A3 h
        obtain ⟨⟨vs, ty, h1, h2, h3, h4⟩, h5⟩ := R.box m cs hcs
        refine ⟨⟨vs, ty, h1, by simpa using h2, fun i c v hc hv => ?_, h4⟩, h5⟩
        rw [List.getElem?_map] at hc
        cases hq : cs[i]? with
        | none => simp [hq] at hc
        | some q => simp [hq] at hc; subst hc; exact key (h3 i q v hq hv)
      vec := fun m s' h => by
        rw [Av] at h
        split at h
        · cases h
        · obtain ⟨h1, h3, h4⟩ := R.vec m s' h
          exact ⟨h1.mono (fun _ _ => rfl) hok (fun _ _ => rfl), h3, h4⟩
      dbb := R.dbb
      dbv := fun m k hm hk => R.dbv m k hm hk.2
      dvv := fun m k hm hk => R.dvv m k hm.2 hk.2 }
end
end Go.Vl

namespace Go.Vl
open Go Go.RowKit

def AV.toD : AV → Option D
  | .d x => some x
  | .nilS => some (.slice [])
  | .full rows => some (.slice rows)
  | _ => none
def EC : List AV → Option (List D)
  | [] => some []
  | x :: l => x.toD.bind fun d => (EC l).map fun r => d :: r
def E6 (z : Nat) : Nat → List D → List (List D)
  | 0, _ => []
  | n + 1, l => l.take z :: E6 z n (l.drop z)

theorem HC {w : World} {ok : Nat → Prop} {p : Pl} {x : AV} {d : D} (h : x.toD = some d) {v : Value} (hv : RA w ok p x v) : RD w ok d v := by
  cases hv with
  | d hd => simp [AV.toD] at h; subst h; exact hd
  | nilS => simp [AV.toD] at h; subst h; exact .snil
  | full hd => simp [AV.toD] at h; subst h; exact hd
  | _ => simp [AV.toD] at h
theorem ED : ∀ {l : List AV} {r : List D}, EC l = some r → r.length = l.length ∧ ∀ (i : Nat) (d : D), r[i]? = some d → ∃ x, l[i]? = some x ∧ x.toD = some d
  | [], r, h => by simp [EC] at h; subst h; exact ⟨rfl, fun i d hd => by simp at hd⟩
  | x :: l, r, h => by
    simp only [EC] at h
    cases hx : x.toD with
    | none => simp [hx] at h
    | some d =>
      cases hl : EC l with
      | none => simp [hx, hl] at h
      | some r' =>
        simp [hx, hl] at h; subst h
        obtain ⟨h1, h2⟩ := ED hl
        refine ⟨by simp [h1], fun i d' hd => ?_⟩
        cases i with
        | zero => simp at hd; subst hd; exact ⟨x, rfl, hx⟩
        | succ i => simpa using h2 i d' (by simpa using hd)
theorem chunk_ok (z : Nat) : ∀ (n : Nat) (l : List D), l.length = n * z → (E6 z n l).length = n ∧ (E6 z n l).flatten = l ∧ ∀ r ∈ E6 z n l, r.length = z
  | 0, l, h => by have : l = [] := List.eq_nil_of_length_eq_zero (by simpa using h); subst this; simp [E6]
  | n + 1, l, h => by
    rw [Nat.add_mul] at h
    obtain ⟨h1, h2, h3⟩ := chunk_ok z n (l.drop z) (by simp; omega)
    refine ⟨by simp [E6, h1], by simp [E6, h2], fun r hr => ?_⟩
    simp only [E6, List.mem_cons] at hr
    rcases hr with rfl | hr
    · simp; omega
    · exact h3 r hr

theorem RA.names {w : World} {ok : Nat → Prop} {p : Pl} {lb lv : Nat → Bool} (hb : ∀ n, p.lb n → lb n = true) (hv : ∀ n, p.lv n → lv n = true) {x : AV} {v : Value} (h : RA w ok p x v) : x.wf lb lv = true := by
  have hL : ∀ (l : List AV), (∀ (i : Nat) (a : AV), l[i]? = some a → a.wf lb lv = true) → AV.wfL lb lv l = true := by
    intro l
    induction l with
    | nil => intro _; rfl
    | cons x l ih => intro h; simp only [AV.wfL, Bool.and_eq_true]; exact ⟨h 0 x rfl, ih fun i a ha => h (i + 1) a (by simpa using ha)⟩
  induction h with
  | agg hl hh _ ih =>
    simp only [AV.wf]
    refine hL _ fun i a ha => ?_
    exact ih i a _ ha (Array.getElem?_eq_getElem (by have := (List.getElem?_eq_some_iff.1 ha).1; omega))
  | tup hl hh ih =>
    simp only [AV.wf]
    refine hL _ fun i a ha => ?_
    exact ih i a _ ha (Array.getElem?_eq_getElem (by have := (List.getElem?_eq_some_iff.1 ha).1; omega))
  | fn hl hh ih =>
    simp only [AV.wf]
    refine hL _ fun i a ha => ?_
    exact ih i a _ ha (Array.getElem?_eq_getElem (by have := (List.getElem?_eq_some_iff.1 ha).1; omega))
  | ptr hn => simp only [AV.wf]; exact hb _ hn
  | vec hn => simp only [AV.wf]; exact hv _ hn
  | vptr hn _ => simp only [AV.wf]; exact hv _ hn
  | cut hn _ _ _ => simp only [AV.wf]; exact hv _ hn
  | cut0 hn _ => simp only [AV.wf]; exact hv _ hn
  | slen => simp [AV.wf]
  | iter => simp [AV.wf]
  | _ => simp only [AV.wf]

section
variable {P : Program} {K : Ctx P} {st : St} {a : Act} {w : World} {p : Pl}

theorem Rel.newVecG (R : Rel K st a w p) {d : Nat} {w' : World} {v' : Value} {s : VS} (hd : get st.vec d = none) (hg : w.grownBy w' none) (hdr : dr0 w ≤ dr0 w')
    (hat : ∀ ok' : Nat → Prop, (∀ q : Addr, okc K w p q.block → see w' q = see w q) → (∀ b, okc K w p b → ok' b) → Cm w' ok' s v') (hz : ∀ r ∈ s.rows, r.length = s.z)
    (hblk : v'.blk = none ∨ v'.blk = some w.heap.size) :
    Rel K { st with vec := (d, s) :: st.vec } a w' ⟨p.bx, upd p.rw d v', p.lb, fun m => m = d ∨ (m ≠ d ∧ p.lv m)⟩ := by
  have hnl : ¬ p.lv d := fun h => by have := (R.lvi d).1 h; simp [St.lv, hd] at this
  have H := R.setVecG (n := d) (d := d) (row := none) (by rw [Av, if_pos rfl]) hg hdr (.inl rfl) hat hz (by rcases hblk with h | h; exact .inl h; exact .inr (.inr h))
  have hsc : ∀ {x : AV} {v : Value}, RA w (okc K w p) p x v → AV.scrub d x = x := fun h => by
    unfold AV.scrub
    rw [if_pos (h.names (lb := fun _ => true) (fun _ _ => rfl) (fun n hn => by simp; intro e; exact hnl (e ▸ hn)))]
  have hdel : ∀ m, get ((d, s) :: del st.vec d) m = get ((d, s) :: st.vec) m := fun m => by
    simp only [get]
    split
    · rfl
    · rename_i e; rw [Av, if_neg e]
  exact {
    lb := by rw [H.lb]; funext m; simp only [St.lb, BF, Option.isSome_map]
    lv := by rw [H.lv]; funext m; simp only [St.lv, hdel]
    dfr := H.dfr
    nt := H.nt
    ntl := H.ntl
    ion := H.ion
    size := H.size
    os := H.os
    tape := H.tape
    dr := H.dr
    output := H.output
    old := H.old
    env := fun t x h => H.env t x (by rw [BF, h]; simp [hsc (R.env t x h)])
    box := fun m cs h => H.box m cs (by
      rw [BF, h]
      simp only [Option.map_some]
      congr 1
      obtain ⟨⟨vs, ty, _, h2, h3, _⟩, _⟩ := R.box m cs h
      apply List.ext_getElem?
      intro i
      rw [List.getElem?_map]
      cases hc : cs[i]? with
      | none => rfl
      | some c =>
        have hi : i < vs.size := by have := (List.getElem?_eq_some_iff.1 hc).1; omega
        simp [hsc (h3 i c vs[i] hc (by simp [hi]))])
    vec := fun m s' h => H.vec m s' (by rw [hdel]; exact h)
    dbb := H.dbb
    dbv := H.dbv
    dvv := H.dvv }

theorem Rel.newVec (R : Rel K st a w p) {d : Nat} {w' : World} {v' : Value} {s : VS} {xs : List Value} (hM : s.isM = false) (hd : get st.vec d = none) (hg : w.grownBy w' none) (hdr : dr0 w ≤ dr0 w')
    (hown : w'.ownsRow 0 s.e s.z v' s.rows.length xs) (hz : ∀ r ∈ s.rows, r.length = s.z) (hrd : ∀ (j : Nat) (x : D) (v : Value), s.rows.flatten[j]? = some x → xs[j]? = some v → RD w (okc K w p) x v)
    (hblk : v'.blk = none ∨ v'.blk = some w.heap.size) :
    Rel K { st with vec := (d, s) :: st.vec } a w' ⟨p.bx, upd p.rw d v', p.lb, fun m => m = d ∨ (m ≠ d ∧ p.lv m)⟩ :=
  R.newVecG hd hg hdr (fun _ h1 h2 => .of hM ⟨xs, hown, fun j x v hx hv => (hrd j x v hx hv).mono h1 h2⟩) hz hblk

theorem EE (R : Rel K st a w p) {x : AV} {rows : List (List D)} (h : rowsOf st x = some rows) {v : Value} (hv : RA w (okc K w p) p x v) : ∃ b c, v = .slice b rows.length c ∧
    (rows = [] ∨ ∃ (ad : Addr) (z : Nat) (news : List Value), b = some ad ∧ news.length = rows.length * z ∧ (∀ r ∈ rows, r.length = z) ∧ (∀ (j : Nat) (u : Value), news[j]? = some u → w.cell? (ad.add j) = some u) ∧
      (∀ u ∈ news, u.oneCell' = true) ∧ ∀ (j : Nat) (d : D) (u : Value), rows.flatten[j]? = some d → news[j]? = some u → RD w (okc K w p) d u) := by
  have key : ∀ {v : Value} {b : Option Addr} {n c : Nat}, n = rows.length → RD w (okc K w p) (.slice rows) (.slice b n c) → (rows = [] ∨ ∃ (ad : Addr) (z : Nat) (news : List Value), b = some ad ∧ news.length = rows.length * z ∧ (∀ r ∈ rows, r.length = z) ∧ (∀ (j : Nat) (u : Value), news[j]? = some u → w.cell? (ad.add j) = some u) ∧
      (∀ u ∈ news, u.oneCell' = true) ∧ ∀ (j : Nat) (d : D) (u : Value), rows.flatten[j]? = some d → news[j]? = some u → RD w (okc K w p) d u) := by
    intro v b n c hn hd
    cases hd with
    | snil => exact .inl rfl
    | slice z vs hz hok hc hcell hdd =>
      rename_i ad
      have hfl := A4 hz
      have hget : ∀ (j : Nat) (u : Value), ((List.range (rows.length * z)).map vs)[j]? = some u → j < rows.length * z ∧ u = vs j := fun j u hj => by
        rw [List.getElem?_map] at hj
        by_cases h0 : j < rows.length * z
        · rw [List.getElem?_range h0] at hj; simp at hj; exact ⟨h0, hj.symm⟩
        · rw [List.getElem?_eq_none (by simpa using h0)] at hj; simp at hj
      refine .inr ⟨ad, z, (List.range (rows.length * z)).map vs, rfl, by simp, hz, fun j u hj => ?_, fun u hu => ?_, fun j d u hd hj => ?_⟩
      · obtain ⟨h0, rfl⟩ := hget j u hj; exact hcell j (by omega)
      · obtain ⟨j, hj, rfl⟩ := List.mem_map.1 hu
        have hj' : j < rows.flatten.length := by rw [hfl]; simpa using hj
        exact (hdd j _ (List.getElem?_eq_getElem hj')).one
      · obtain ⟨h0, rfl⟩ := hget j u hj; exact hdd j d hd
  cases hv with
  | d hd =>
    rename_i x
    cases x <;> simp [rowsOf] at h
    subst h
    cases hd with
    | snil => exact ⟨_, _, rfl, .inl rfl⟩
    | slice z vs hz hok hc hcell hdd => exact ⟨_, _, rfl, key (v := .nilFunc) rfl (.slice z vs hz hok hc hcell hdd)⟩
  | nilS => simp [rowsOf] at h; subst h; exact ⟨_, _, rfl, .inl rfl⟩
  | full hd => simp [rowsOf] at h; subst h; exact ⟨_, _, rfl, key (v := .nilFunc) rfl hd⟩
  | vec hn =>
    rename_i n
    simp only [rowsOf] at h
    cases hs : get st.vec n with
    | none => simp [hs] at h
    | some s =>
      simp only [hs, Option.bind_some] at h
      split at h
      · cases h
      rename_i hM
      cases h
      obtain ⟨hat, hz, hmine⟩ := R.vec n s hs
      obtain ⟨xs, hown, hrd⟩ := hat.row (by simpa using hM)
      rcases hown.2 with ⟨h0, h1⟩ | ⟨g, cap, cur, h0, _, _, _, _, _, _⟩
      · exact ⟨none, 0, by rw [h0, h1], .inl (List.eq_nil_of_length_eq_zero h1)⟩
      · refine ⟨_, _, h0, .inr ⟨⟨g, 0, none⟩, s.z, xs, rfl, hown.1, hz, fun j u hu => ?_, fun u hu => ?_, hrd⟩⟩
        · rw [h0] at hown
          have hj : j < s.rows.length * s.z := by have := (List.getElem?_eq_some_iff.1 hu).1; rw [hown.1] at this; exact this
          rw [Ah, Nat.zero_add, ((FW hown).2 j hj).1]; exact hu
        · obtain ⟨j, hj, rfl⟩ := List.getElem_of_mem hu
          have hj' : j < s.rows.flatten.length := by rw [A4 hz, ← hown.1]; exact hj
          exact (hrd j _ _ (List.getElem?_eq_getElem hj') (List.getElem?_eq_getElem hj)).one
  | cut hn hv ho hle =>
    rename_i n z lo k o g c len
    simp only [rowsOf] at h
    cases hs : get st.vec n with
    | none => simp [hs] at h
    | some s =>
      simp only [hs, Option.bind_some] at h
      split at h
      · cases h
      rename_i hM
      split at h
      case isFalse => cases h
      rename_i hh
      obtain ⟨hlk, rfl⟩ := hh
      cases h
      obtain ⟨hat, hz, hmine⟩ := R.vec n s hs
      obtain ⟨xs, hown, hrd⟩ := hat.row (by simpa using hM)
      have hlen : ((s.rows.drop lo).take k).length = k := by rw [List.length_take, List.length_drop, Nat.min_eq_left (by omega)]
      rw [hlen]
      refine ⟨_, _, rfl, ?_⟩
      by_cases hk : k = 0
      · left; subst hk; simp
      right
      have ho' := ho.1.resolve_left hk
      subst ho'
      have hfl : ((s.rows.drop lo).take k).flatten = (s.rows.flatten.drop (lo * s.z)).take (k * s.z) := by rw [EB (fun r hr => hz r (List.mem_of_mem_drop hr)), FV hz]
      rw [hv] at hown
      have hmul : (lo + k) * s.z ≤ s.rows.length * s.z := Nat.mul_le_mul_right _ hlk
      rw [Nat.add_mul] at hmul
      have hxl : xs.length = s.rows.length * s.z := hown.1
      refine ⟨⟨g, lo * s.z, none⟩, s.z, (xs.drop (lo * s.z)).take (k * s.z), rfl, by simp; omega, fun r hr => hz r (List.mem_of_mem_drop (List.mem_of_mem_take hr)), fun j u hu => ?_, fun u hu => ?_, fun j d u hd hu => ?_⟩
      · rw [List.getElem?_take] at hu
        split at hu
        case isFalse => cases hu
        rename_i hj
        rw [List.getElem?_drop] at hu
        rw [Ah, ((FW hown).2 (lo * s.z + j) (by omega)).1]; exact hu
      · have hu' := List.mem_of_mem_drop (List.mem_of_mem_take hu)
        obtain ⟨j, hj, rfl⟩ := List.getElem_of_mem hu'
        have hj' : j < s.rows.flatten.length := by rw [A4 hz, ← hown.1]; exact hj
        exact (hrd j _ _ (List.getElem?_eq_getElem hj') (List.getElem?_eq_getElem hj)).one
      · rw [hfl, List.getElem?_take] at hd
        rw [List.getElem?_take] at hu
        split at hd
        case isFalse => cases hd
        rename_i hj
        rw [if_pos hj, List.getElem?_drop] at hu
        rw [List.getElem?_drop] at hd
        exact hrd _ d u hd hu
  | cut0 hn hv =>
    rename_i n z
    simp only [rowsOf] at h
    cases hs : get st.vec n with
    | none => simp [hs] at h
    | some s =>
      simp only [hs, Option.bind_some] at h
      split at h
      · cases h
      split at h
      case isFalse => cases h
      cases h
      exact ⟨none, 0, by simp, .inl (by simp)⟩
  | _ => simp [rowsOf] at h

theorem Hl {P : Program} {t ty e : TypeId} {z : Nat} (ht : P.underlying t = some (.slice e)) (hz : Ad P e = some z) (b0 b : Option Addr) (n0 c0 c : Nat) (h : n0 ≤ c0) (w : World) :
    (Builtin.append_ #[t, t] ty #[.slice b0 n0 c0, .slice b 0 c]).run P w = .ok (.slice b0 n0 c0) w := by
  have hi : ∃ i, P.info? e = some i := by
    unfold Ad at hz
    cases hi : P.info? e with
    | none => simp [hi] at hz
    | some i => exact ⟨i, rfl⟩
  obtain ⟨i, hi⟩ := hi
  cases b <;> cases b0 <;> simp [Builtin.append_, run_underlying ht, sizeOf, typeInfo, hi, Builtin.lenOf, Builtin.firstCells, h, loadCells, loadCellsFrom, storeCells]
end

def EX (P : Program) (e : TypeId) : Bool := match P.info? e with | some i => i.bytes ≤ 65536 | none => false
def EY (P : Program) (st : St) (o : Oper) : Option St :=
  (vstep P st o).bind fun x => match o.dst with | some d => if d < st.nt then some (st.put d x) else none | none => some st
def Da (P : Program) (st : St) (d : Nat) (cs : List AV) : Option St :=
  match get st.box d with
  | some _ => none
  | none => if d < st.nt then some (St.put { st with box := (d, cs) :: st.box } d (.ptr d 0)) else none
def Bf (P : Program) (st : St) (d : Nat) (t : TypeId) (n : Nat) (parts : List (Nat × AV)) : Option St :=
  match P.underlying t with
  | some (.slice e) => (Aw P e).bind fun zs => let z := zs.length
    if n * z ≤ 16777216 ∧ n ≤ 16777216 ∧ d < st.nt ∧ e < 1000000 then
      (DZ (fun i => some (i * z, z)) (List.replicate (n * z) .undef) parts).bind fun r => (EC r).bind fun ds =>
        match get st.vec d with
        | none => some (St.put { st with vec := (d, ⟨e, z, E6 z n ds⟩) :: st.vec } d (.vec d))
        | some _ => none
    else none
  | _ => none
def Lw (cs l : List AV) (o : Nat) : List AV := cs.take o ++ (l ++ cs.drop (o + l.length))
def Iq (P : Program) (st : St) (t : TypeId) (x y : AV) : Option St :=
  (An y).bind fun l => if Ad P t = some l.length then match x with
    | .ptr n o => (get st.box n).bind fun cs => if o + l.length ≤ cs.length then some { st with box := (n, Lw cs l o) :: st.box } else none
    | .vptr n z i o => (get st.vec n).bind fun s => (s.rows[i]?).bind fun row => (EC l).bind fun ds =>
        if z = s.z ∧ o + ds.length ≤ row.length then some { st with vec := (n, { s with rows := s.rows.set i (row.take o ++ (ds ++ row.drop (o + ds.length))) }) :: st.vec } else none
    | _ => none else none
def Fi (P : Program) (st : St) (d : Nat) (t t' : TypeId) (x y : AV) : Option St :=
  if t = t' ∧ d < st.nt then match P.underlying t with
    | some (.slice e) => (Aw P e).bind fun zs => let z := zs.length
      (rowsOf st y).bind fun ys => if 0 < z ∧ EX P e = true ∧ e < 1000000 ∧ ∀ r ∈ ys, r.length = z then
        match x with
        | .nilS => if ys.length ≤ 268435456 then (match get st.vec d with
          | none => some (St.put { st with vec := (d, ⟨e, z, ys⟩) :: st.vec } d (.vec d))
          | some _ => none) else none
        | .cut n z' lo k => if lo = 0 ∧ z' = z then (get st.vec n).bind fun s => if s.e = e ∧ s.z = z ∧ k ≤ s.rows.length ∧ k + ys.length ≤ 268435456 ∧ (d = n ∨ (get st.vec d).isNone = true) then
            some (St.put { nt := st.nt, env := Bl (AV.scrub n) st.env, box := Bl (List.map (AV.scrub n)) st.box, vec := (d, { s with rows := s.rows.take k ++ ys }) :: del st.vec n } d (.vec d)) else none else none
        | .vec n => (get st.vec n).bind fun s => if s.e = e ∧ s.z = z ∧ s.rows.length + ys.length ≤ 268435456 ∧ (d = n ∨ (get st.vec d).isNone = true) then
            some (St.put { nt := st.nt, env := Bl (AV.scrub n) st.env, box := Bl (List.map (AV.scrub n)) st.box, vec := (d, { s with rows := s.rows ++ ys }) :: del st.vec n } d (.vec d)) else none
        | .full xs => if xs.length + ys.length ≤ 268435456 ∧ 0 < ys.length ∧ ∀ r ∈ xs, r.length = z then (match get st.vec d with
          | none => some (St.put { st with vec := (d, ⟨e, z, xs ++ ys⟩) :: st.vec } d (.vec d))
          | some _ => none) else none
        | _ => none
      else none
    | _ => none
  else none
/- what a constant is as data -/
mutual
def AV.fin0 : AV → AV
  | .nilS => .d (.slice [])
  | .agg l => .agg (AV.fin0L l)
  | x => x
def AV.fin0L : List AV → List AV
  | [] => []
  | x :: l => AV.fin0 x :: AV.fin0L l
end
theorem Lx : ∀ l : List AV, AV.fin0L l = l.map AV.fin0
  | [] => rfl
  | x :: l => by simp [AV.fin0L, Lx l]
theorem RA.fin0 {w : World} {ok : Nat → Prop} {p : Pl} {x : AV} {v : Value} (h : RA w ok p x v) : RA w ok p x.fin0 v := by
  induction h with
  | undef => simp only [AV.fin0]; exact .undef
  | d h => simp only [AV.fin0]; exact .d h
  | nilS => simp only [AV.fin0]; exact .d .snil
  | full h => simp only [AV.fin0]; exact .full h
  | agg hl _ h1 ih =>
    simp only [AV.fin0, Lx]
    refine .agg (by simpa using hl) (fun i a v ha hv' => ?_) h1
    simp only [List.getElem?_map, Option.map_eq_some_iff] at ha
    obtain ⟨q, hq, rfl⟩ := ha
    exact ih i q v hq hv'
  | tup hl h => simp only [AV.fin0]; exact .tup hl h
  | ptr hm => simp only [AV.fin0]; exact .ptr hm
  | cptr vs h1 h2 h3 => simp only [AV.fin0]; exact .cptr vs h1 h2 h3
  | vec hm => simp only [AV.fin0]; exact .vec hm
  | vptr h1 h2 => simp only [AV.fin0]; exact .vptr h1 h2
  | cut h1 h2 h3 h4 => simp only [AV.fin0]; exact .cut h1 h2 h3 h4
  | cut0 h1 h2 => simp only [AV.fin0]; exact .cut0 h1 h2
  | slen => simp only [AV.fin0]; exact .slen
  | iter => simp only [AV.fin0]; exact .iter
  | fn hl h => simp only [AV.fin0]; exact .fn hl h
def IG (P : Program) (kt : TypeId) (ka : Bool) (k : AV) (ds : List D) : Option Bool :=
  if ka = true then (match k with | .agg l => eqA P kt l (ds.map .d) | _ => none)
  else match ds with | [d] => Ba P kt k (.d d) | _ => none
def Ir : AV → Bool
  | .d (.int _ _) => true
  | _ => false
def Fj (P : Program) (kt : TypeId) (ka : Bool) (k : AV) : Bool :=
  if ka = true then (match P.underlying kt, k with
    | some (.array n e), .agg l => decide (l.length = n) && decide (Ad P e = some 1) && (match P.underlying e with | some (.int _) => true | _ => false) && l.all Ir
    | _, _ => false)
  else match P.underlying kt, k with
    | some (.int _), .d (.int _ _) => true
    | some .string, .d (.str _) => true
    | some .bool, .d (.bool _) => true
    | _, _ => false
def B5 (P : Program) (kt : TypeId) (ka : Bool) (kz : Nat) (k : AV) : List (List D) → Option (Option (Nat × List D))
  | [] => some none
  | r :: rs => (IG P kt ka k (r.take kz)).bind fun b => if b = true then some (some (0, r.drop kz)) else (B5 P kt ka kz k rs).map fun o => o.map fun q => (q.1 + 1, q.2)
def E7 (ag : Bool) (ds : List D) : Option AV := if ag = true then some (.agg (ds.map .d)) else match ds with | [d] => some (.d d) | _ => none
def C3 (ag : Bool) (x : AV) : Option (List D) := if ag = true then (match x with | .agg l => EC l | _ => none) else match x with | .agg _ | .tup _ => none | x => x.toD.map fun d => [d]
def zeroV (P : Program) (t : TypeId) : Option AV := ((P.info? t).bind (·.zero)).map fun z => AV.fin0 (AV.ofConst z)
def Ly (P : Program) (et : TypeId) (va ok : Bool) (o : Option (Nat × List D)) : Option AV :=
  (match o with | some q => E7 va q.2 | none => zeroV P et).map fun v => if ok = true then .tup [v, .d (.bool o.isSome)] else v
def O6 (rows : List (List D)) (row : List D) : Option (Nat × List D) → List (List D)
  | some q => rows.set q.1 row
  | none => rows ++ [row]
def QA (rows : List (List D)) : Option (Nat × List D) → List (List D)
  | some q => rows.eraseIdx q.1
  | none => rows
def En (P : Program) (st : St) (t : TypeId) (x k : AV) (ok : Bool) : Option AV :=
  match P.underlying t, x with
  | some (.map kt et), .vec n => (get st.vec n).bind fun s => if s.isM = true ∧ Fj P kt s.ka k = true then (B5 P kt s.ka s.kz k s.rows).bind fun o =>
      Ly P et s.va ok o else none
  | some (.map kt et), .d (.mp e z rows) => if Fj P kt (VS.mk e z rows).ka k = true then (B5 P kt (VS.mk e z rows).ka (VS.mk e z rows).kz k rows).bind fun o => Ly P et (VS.mk e z rows).va ok o else none
  | _, _ => none
def QB (P : Program) (st : St) (t : TypeId) (x k v : AV) : Option St :=
  match P.underlying t, x with
  | some (.map kt _), .vec n => (get st.vec n).bind fun s => if s.isM = true ∧ Fj P kt s.ka k = true then (C3 s.ka k).bind fun kd => (C3 s.va v).bind fun vd =>
      if kd.length = s.kz ∧ s.kz + vd.length = s.z then (B5 P kt s.ka s.kz k s.rows).bind fun o =>
        some { st with vec := (n, { s with rows := O6 s.rows (kd ++ vd) o }) :: st.vec } else none else none
  | _, _ => none
def QC (P : Program) (st : St) (t : TypeId) (x k : AV) : Option St :=
  match P.underlying t, x with
  | some (.map kt _), .vec n => (get st.vec n).bind fun s => if s.isM = true ∧ Fj P kt s.ka k = true then (B5 P kt s.ka s.kz k s.rows).bind fun o =>
        some { st with vec := (n, { s with rows := QA s.rows o }) :: st.vec } else none
  | _, _ => none
def Sw (P : Program) (st : St) (t : TypeId) (x : AV) : Option Int :=
  match P.underlying t, x with
  | some (.map _ _), .vec n => (get st.vec n).bind fun s => if s.isM = true then some (s.rows.length : Int) else none
  | some (.map _ _), .d (.mp _ _ rows) => some (rows.length : Int)
  | _, _ => none
def WK : Option AV → Bool
  | none => true
  | some x => (CU x).isSome
def Sx (P : Program) (st : St) (d : Nat) (t : TypeId) (r : Option AV) : Option St :=
  match P.underlying t with
  | some (.map kt et) => (Ad P kt).bind fun kz => (Ad P et).bind fun vz =>
    if kz < 64 ∧ d < st.nt ∧ WK r = true then
      match get st.vec d with
      | none => some (St.put { st with vec := (d, ⟨ES t kz (Ao P kt) (Ao P et), kz + vz, []⟩) :: st.vec } d (.vec d))
      | some _ => none
    else none
  | _ => none
def Is (st : St) (dst : Option Nat) (x : AV) : Option St := match dst with | some d => if d < st.nt then some (st.put d x) else none | none => some st
def Sy (P : Program) (st : St) (d : Nat) (t : TypeId) (l c : AV) : Option St :=
  match P.underlying t with
  | some (.slice e) => (CU l).bind fun l => (CU c).bind fun c => (Aw P e).bind fun zs => (EC zs).bind fun ds =>
    if 0 ≤ l ∧ l = c ∧ c ≤ 268435456 ∧ 0 < zs.length ∧ EX P e = true ∧ e < 1000000 ∧ d < st.nt then
      match get st.vec d with
      | none => some (St.put { st with vec := (d, ⟨e, zs.length, List.replicate l.toNat ds⟩) :: st.vec } d (.vec d))
      | some _ => none
    else none
  | _ => none
def Sz (st : St) : AV → Option (Nat × Nat × Nat)
  | .vec n => (get st.vec n).map fun s => (n, 0, s.rows.length)
  | .cut n z lo k => (get st.vec n).bind fun s => if z = s.z then some (n, lo, k) else none
  | _ => none
def cpA (P : Program) (st : St) (dst : Option Nat) (t : TypeId) (x y : AV) : Option St :=
  match P.underlying t with
  | some (.slice e) => (Sz st x).bind fun q => (get st.vec q.1).bind fun s => (rowsOf st y).bind fun ys =>
    if s.isM = true then none else if Ad P e = some s.z ∧ 0 < s.z ∧ q.2.1 + q.2.2 ≤ s.rows.length ∧ ∀ r ∈ ys, r.length = s.z then
      let m := min q.2.2 ys.length
      let st1 := { st with vec := (q.1, { s with rows := s.rows.take q.2.1 ++ (ys.take m ++ s.rows.drop (q.2.1 + m)) }) :: st.vec }
      match dst with
      | some d => if d < st.nt then some (St.put st1 d (.d (.int .i64 m))) else none
      | none => some st1
    else none
  | _ => none
def step (P : Program) (st : St) (o : Oper) : Option St :=
  match o.op with
  | .alloc t => o.dst.bind fun d => (Aw P t).bind fun z => Da P st d z
  | .box _ x => o.dst.bind fun d => (An (opd st x)).bind fun l => Da P st d l
  | .buildSlice t n parts => o.dst.bind fun d => Bf P st d t n (parts.toList.map fun (i, x) => (i, opd st x))
  | .store t x y => match o.dst with | none => Iq P st t (opd st x) (opd st y) | some _ => none
  | .call c => match c.callee, c.args.toList, c.argTypes.toList with
    | .builtin .append, [x, y], [t, t'] => o.dst.bind fun d => Fi P st d t t' (opd st x) (opd st y)
    | .builtin .copy, [x, y], [t, _] => cpA P st o.dst t (opd st x) (opd st y)
    | .builtin .delete, [x, y], [t, _] => (QC P st t (opd st x) (opd st y)).bind fun st => Is st o.dst (.tup [])
    | .builtin .len, [x], [t] => match Sw P st t (opd st x) with | some n => Is st o.dst (.d (.int .i64 n)) | none => EY P st o
    | _, _, _ => EY P st o
  | .makeSlice t l c => o.dst.bind fun d => Sy P st d t (opd st l) (opd st c)
  | .makeMap t r => o.dst.bind fun d => Sx P st d t (r.map (opd st))
  | .lookup t x k ok => (En P st t (opd st x) (opd st k) ok).bind fun v => Is st o.dst v
  | .mapUpdate t x k v => match o.dst with | none => QB P st t (opd st x) (opd st k) (opd st v) | some _ => none
  | .insert t x k v => match o.dst with | none => QB P st t (opd st x) (opd st k) (opd st v) | some _ => none
  | _ => EY P st o

section
variable {P : Program} {K : Ctx P} {st : St} {a : Act} {w : World} {p : Pl}

def Stepped (P : Program) (K : Ctx P) (st' : St) (o : Oper) (a : Act) (w : World) : Prop :=
  ∃ w' p', (∃ v, (execOp a.eval o).run P w = .ok (.value v) w' ∧ Rel K st' (a.put o.dst v) w' p') ∨ ((execOp a.eval o).run P w = .ok .skip w' ∧ Rel K st' (a.put o.dst undef) w' p')

theorem F2 (R : Rel K st a w p) {o : Oper} {st' : St} (h : EY P st o = some st') : Stepped P K st' o a w := by
  unfold EY at h
  cases hv : vstep P st o with
  | none => simp [hv] at h
  | some x =>
    simp only [hv, Option.bind_some] at h
    obtain ⟨v, h1, h2⟩ := Dr R hv
    exact ⟨w, p, .inl ⟨v, h1, R.puto h2 h⟩⟩

theorem QD (R : Rel K st a w p) {d : Nat} {cs : List AV} {vs : Array Value} {ty : TypeId} {st' : St} (h : Da P st d cs = some st') (hl : vs.size = cs.length) (hr : ∀ (i : Nat) (c : AV) (v : Value), cs[i]? = some c → vs[i]? = some v → RA w (okc K w p) p c v)
    (h1 : ∀ (i : Nat) (v : Value), vs[i]? = some v → v.oneCell' = true) : ∃ p', Rel K st' (a.put (some d) (.pointer (some ⟨w.heap.size, 0, none⟩))) (w.alloc (.cells vs ty)) p' := by
  unfold Da at h
  cases hb : get st.box d with
  | some _ => simp [hb] at h
  | none =>
    simp only [hb] at h
    split at h
    case isFalse => cases h
    rename_i hd
    cases h
    have R' := R.newBox (ty := ty) (Nat.lt_of_lt_of_le hd R.ntl) hb hl hr h1
    exact ⟨_, R'.put (RA.ptr_at (Or.inl rfl) (upd_same _ _ _)) hd⟩

theorem QE {cs l : List AV} {o : Nat} (hle : o + l.length ≤ cs.length) (i : Nat) : (Lw cs l o)[i]? = if i < o then cs[i]? else if i < o + l.length then l[i - o]? else cs[i]? := by
  simp only [Lw, List.getElem?_append, List.length_take, List.getElem?_take, List.getElem?_drop]
  by_cases h1 : i < o
  · rw [if_pos (by omega), if_pos h1, if_pos h1]
  · rw [if_neg (by omega), if_neg h1]
    have e1 : i - min o cs.length = i - o := by omega
    rw [e1]
    by_cases h2 : i < o + l.length
    · rw [if_pos (by omega), if_pos h2]
    · rw [if_neg (by omega), if_neg h2]; congr 1; omega

end
end Go.Vl

namespace Go.Vl
open Go
theorem eb {ε α β : Type} {x : Except ε α} {f : α → Except ε β} {r : β} (h : (x >>= f) = .ok r) : ∃ a, x = .ok a ∧ f a = .ok r := by
  cases x with
  | error e => cases h
  | ok a => exact ⟨a, rfl, h⟩
end Go.Vl

namespace Go.Vl
open Go Go.RowKit

section
variable {P : Program} {K : Ctx P} {st : St} {a : Act} {w : World} {p : Pl}

theorem D2 (R : Rel K st a w p) {o : Oper} {t : TypeId} (ho : o.op = .alloc t) {d : Nat} (hd : o.dst = some d) {z : List AV} (hz : Aw P t = some z) {st' : St} (h : Da P st d z = some st') : Stepped P K st' o a w := by
  obtain ⟨i, v, hi, hv, hsz, rfl, h1⟩ := CS hz
  obtain ⟨p', R'⟩ := QD (ty := t) R h (vs := v.cells) (by simp) (fun i c u hc hu => K5 v.cells i c u hc hu) h1
  refine ⟨_, p', .inl ⟨_, ?_, by rw [hd]; exact R'⟩⟩
  simp [execOp, ho, Instr.alloc, zeroValue, typeInfo, hi, hv, newVar, newRow]

theorem E8 (R : Rel K st a w p) {o : Oper} {t : TypeId} {x : Operand} (ho : o.op = .box t x) {d : Nat} (hd : o.dst = some d) {l : List AV} (hl : An (opd st x) = some l) {st' : St} (h : Da P st d l = some st') : Stepped P K st' o a w := by
  obtain ⟨g1, g2, g3⟩ := (R.opd x).one hl R.rwone
  obtain ⟨p', R'⟩ := QD (ty := t) R h (vs := (a.eval x).cells) g1 g2 g3
  refine ⟨_, p', .inl ⟨_, ?_, by rw [hd]; exact R'⟩⟩
  simp [execOp, ho, Instr.box, newVar, newRow]

theorem CK {e z : Nat} {rows : List (List D)} (h : e < 1000000) : VS.isM ⟨e, z, rows⟩ = false := by
  unfold VS.isM
  exact decide_eq_false (Nat.not_le.2 h)
theorem N8 {α : Type} {l : List (Nat × α)} {n : Nat} {s : α} (h : get l n = some s) (m : Nat) : get ((n, s) :: l) m = get l m := by
  simp only [get]
  split
  · rename_i e; subst e; exact h.symm
  · rfl
theorem Rel.eqv' {st' : St} (R : Rel K st a w p) (he : ∀ t, get st'.env t = get st.env t) (hb : ∀ n, get st'.box n = get st.box n) (hv : ∀ n, get st'.vec n = get st.vec n) (hn : st'.nt = st.nt := by rfl) : Rel K st' a w p where
  lb := by rw [R.lb]; funext n; simp [St.lb, hb]
  lv := by rw [R.lv]; funext n; simp [St.lv, hv]
  dfr := R.dfr
  nt := by rw [R.nt, hn]
  ntl := by rw [hn]; exact R.ntl
  ion := R.ion
  size := R.size
  os := R.os
  tape := R.tape
  dr := R.dr
  output := R.output
  old := R.old
  env := fun t x h => R.env t x (by rw [← he, h])
  box := fun n cs h => R.box n cs (by rw [← hb, h])
  vec := fun n s h => R.vec n s (by rw [← hv, h])
  dbb := R.dbb
  dbv := R.dbv
  dvv := R.dvv
theorem DN (R : Rel K st a w p) {o : Oper} {t : TypeId} {n : Nat} {parts : Array (Nat × Operand)} (ho : o.op = .buildSlice t n parts) {d : Nat} (hd : o.dst = some d) {st' : St}
    (h : Bf P st d t n (parts.toList.map fun (i, x) => (i, opd st x)) = some st') : Stepped P K st' o a w := by
  unfold Bf at h
  split at h
  case h_2 => cases h
  rename_i e hu
  cases hz : Aw P e with
  | none => simp [hz] at h
  | some zs =>
    simp only [hz, Option.bind_some] at h
    split at h
    case isFalse => cases h
    rename_i hb
    obtain ⟨hb1, hb0, hb2, he6⟩ := hb
    obtain ⟨i, v, hi, hv, hsz, hzs, h1⟩ := CS hz
    have hzl : zs.length = i.size := by rw [hzs]; simp [hsz]
    cases hf : DZ (fun i => some (i * zs.length, zs.length)) (List.replicate (n * zs.length) .undef) (parts.toList.map fun (i, x) => (i, opd st x)) with
    | none => rw [hf] at h; simp at h
    | some r =>
      rw [hf] at h
      simp only [Option.bind_some] at h
      cases hds : EC r with
      | none => simp [hds] at h
      | some ds =>
        simp only [hds, Option.bind_some] at h
        cases hvd : get st.vec d with
        | some _ => simp [hvd] at h
        | none =>
          simp only [hvd] at h
          cases h
          -- the cells before they are filled
          have hparts : ∀ (j : Nat) (i k : Nat) (x : AV) (v : Value), (parts.toList.map fun (i, x) => (i, opd st x))[j]? = some (i, x) → (parts.map fun (i, x) => (i, a.eval x)).toList[j]? = some (k, v) → i = k ∧ RA w (okc K w p) p x v := by
            intro j i k x v hj hk
            rw [Array.toList_map, List.getElem?_map] at hk
            rw [List.getElem?_map] at hj
            cases hq : parts.toList[j]? with
            | none => simp [hq] at hj
            | some q =>
              obtain ⟨q1, q2⟩ := q
              simp [hq] at hj hk
              obtain ⟨rfl, rfl⟩ := hj
              obtain ⟨rfl, rfl⟩ := hk
              exact ⟨rfl, R.opd _⟩
          let z0 : Array Value := if n * i.size = 0 then #[] else v.cells
          have hz1 : ∀ (j : Nat) (u : Value), ((Array.range (n * i.size)).map (fun x => z0[x % z0.size]!))[j]? = some u → u.oneCell' = true := by
            intro j u hj
            rw [Array.getElem?_map] at hj
            by_cases h0 : j < n * i.size
            · simp only [Array.getElem?_range, h0, if_true, Option.map_some] at hj
              cases hj
              have hne : ¬ (n * i.size = 0) := by omega
              have hpos : 0 < i.size := Nat.pos_of_ne_zero (fun e => hne (by rw [e, Nat.mul_zero]))
              have hz0 : z0 = v.cells := if_neg hne
              rw [hz0]
              have hlt : j % v.cells.size < v.cells.size := Nat.mod_lt _ (by omega)
              rw [getElem!_pos v.cells _ hlt]
              exact h1 _ _ (Array.getElem?_eq_getElem hlt)
            · simp only [Array.getElem?_range, h0, if_false, Option.map_none] at hj; cases hj
          obtain ⟨cs', c1, c2, c3, c4⟩ := E3 (w := w) (ok := okc K w p) (p := p) R.rwone (cs := (Array.range (n * i.size)).map (fun x => z0[x % z0.size]!)) hf (vals := (parts.map fun (i, x) => (i, a.eval x)).toList) (by simp) hparts (by simp [hzl])
            (fun j a u ha hu => by
              rw [List.getElem?_replicate] at ha
              split at ha
              · cases ha; exact .undef
              · cases ha) hz1
          obtain ⟨t1, t2⟩ := ED hds
          have hrl : r.length = n * zs.length := by
            have hfl : ∀ (pts : List (Nat × AV)) (cells r : List AV), DZ (fun i => some (i * zs.length, zs.length)) cells pts = some r → r.length = cells.length := by
              intro pts
              induction pts with
              | nil => intro cells r h; simp [DZ] at h; rw [h]
              | cons q pts ih =>
                intro cells r h
                obtain ⟨q1, q2⟩ := q
                simp only [DZ] at h
                cases hc : An q2 with
                | none => simp [hc] at h
                | some l =>
                  simp only [hc, Option.bind_some] at h
                  split at h
                  · rename_i hh
                    have := ih _ _ h
                    rw [this]; simp; omega
                  · cases h
            have := hfl _ _ _ hf
            simpa using this
          obtain ⟨k1, k2, k3⟩ := chunk_ok zs.length n ds (by rw [t1, hrl])
          have hlen : cs'.size = n * zs.length := by rw [c2, hrl]
          have hown : (w.alloc (.cells cs' e)).ownsRow 0 e zs.length (.slice (some ⟨w.heap.size, 0, none⟩) n n) n cs'.toList :=
            World.ownsRow_lit w cs' n (Nat.zero_le _) (by simp only [maxLen]; omega) hlen
          have R' := R.newVec (d := d) (s := ⟨e, zs.length, E6 zs.length n ds⟩) (xs := cs'.toList) (CK he6) hvd (World.grownBy_alloc w _ none) (Nat.le_refl 0) (by rw [k1]; exact hown) k3 (fun j x u hx hu => by
            rw [k2] at hx
            obtain ⟨y, hy, hyd⟩ := t2 j x hx
            exact HC hyd (c3 j y u hy (by rw [← Array.getElem?_toList]; exact hu))) (.inr rfl)
          refine ⟨_, _, .inl ⟨.slice (some ⟨w.heap.size, 0, none⟩) n n, ?_, by rw [hd]; exact R'.put (RA.vec_at (Or.inl rfl) (upd_same _ _ _)) hb2⟩⟩
          have hnle : ¬ (n * i.size > 2 ^ 24) := by rw [← hzl]; omega
          have hc1 : Instr.fill (fun i_1 => some (i_1 * i.size, i.size)) ((Array.range (n * i.size)).map (fun x => z0[x % z0.size]!)) (parts.map fun (i, x) => (i, a.eval x)).toList = some cs' := by rw [← hzl] at c1 ⊢; exact c1
          by_cases h0 : n * i.size = 0
          · have hz0 : z0 = #[] := if_pos h0
            rw [hz0] at hc1
            simp only [execOp, ho, Instr.buildSlice, Sem.run_bind, run_underlying hu, Result.andThen_ok, AU (show Ad P e = some i.size by simp [Ad, hi]), Sem.run_ite, if_neg hnle, if_pos h0, Sem.run_pure, hc1, newRow, run_newObj, World.alloc_eq]
          · have hz0 : z0 = v.cells := if_neg h0
            rw [hz0] at hc1
            simp only [execOp, ho, Instr.buildSlice, Sem.run_bind, run_underlying hu, Result.andThen_ok, AU (show Ad P e = some i.size by simp [Ad, hi]), Sem.run_ite, if_neg hnle, if_neg h0, Sem.run_pure, zeroValue, typeInfo, run_program, hi, hv, hc1, newRow, run_newObj, World.alloc_eq]

theorem B6 {α : Type} (l m : List α) {o : Nat} (h : o + m.length ≤ l.length) (j : Nat) : (l.take o ++ m ++ l.drop (o + m.length))[j]? = if j < o then l[j]? else if j < o + m.length then m[j - o]? else l[j]? := by
  rw [List.append_assoc]
  simp only [List.getElem?_append, List.length_take, List.getElem?_take, List.getElem?_drop]
  by_cases h1 : j < o
  · rw [if_pos (by omega), if_pos h1, if_pos h1]
  · rw [if_neg (by omega), if_neg h1]
    have e1 : j - min o l.length = j - o := by omega
    rw [e1]
    by_cases h2 : j < o + m.length
    · rw [if_pos (by omega), if_pos h2]
    · rw [if_neg (by omega), if_neg h2]; congr 1; omega

theorem E9 (R : Rel K st a w p) {o : Oper} {t : TypeId} {x y : Operand} (ho : o.op = .store t x y) (hd : o.dst = none) {st' : St} (h : Iq P st t (opd st x) (opd st y) = some st') : Stepped P K st' o a w := by
  unfold Iq at h
  cases hl : An (opd st y) with
  | none => simp [hl] at h
  | some l =>
    simp only [hl, Option.bind_some] at h
    split at h
    case isFalse => cases h
    rename_i hsz
    obtain ⟨g1, g2, g3⟩ := (R.opd y).one hl R.rwone
    have hx := R.opd x
    generalize hay : a.eval y = vy at *
    have hone : ∀ v ∈ vy.cells.toList, v.oneCell' = true := fun v hv => by
      obtain ⟨j, hj, rfl⟩ := List.getElem_of_mem hv
      exact g3 j _ (by simp at hj; simp [hj])
    split at h
    · rename_i n q hq
      rw [hq] at hx
      cases hb : get st.box n with
      | none => simp [hb] at h
      | some cs =>
        simp only [hb, Option.bind_some] at h
        split at h
        case isFalse => cases h
        rename_i hle
        cases h
        obtain ⟨⟨vs, ty, h1, h2, h3, h4⟩, h5⟩ := R.box n cs hb
        generalize hax : a.eval x = ax at *
        cases hx with | ptr hn =>
        have hst := run_storeCells_at P (p.bx n) q ty vy.cells.toList 0 vs w h1 (by simp; omega) hone
        simp only [Nat.add_zero] at hst
        have hget : ∀ i, (vs.toList.take q ++ vy.cells.toList ++ vs.toList.drop (q + vy.cells.toList.length))[i]? = if i < q then vs[i]? else if i < q + l.length then vy.cells[i - q]? else vs[i]? := fun i => by
          rw [B6 _ _ (by simp; omega)]; simp [g1]
        have R' := R.setBox (cs' := Lw cs l q) (vs' := (vs.toList.take q ++ vy.cells.toList ++ vs.toList.drop (q + vy.cells.toList.length)).toArray) hb h1 (by simp [Lw]; omega) (fun i c v hc hv => by
          rw [List.getElem?_toArray, hget] at hv
          rw [QE hle] at hc
          split at hc
          · rw [if_pos ‹_›] at hv; exact h3 i c v hc hv
          · rw [if_neg ‹_›] at hv
            split at hc
            · rw [if_pos ‹_›] at hv; exact g2 _ c v hc hv
            · rw [if_neg ‹_›] at hv; exact h3 i c v hc hv) (fun i v hv => by
          rw [List.getElem?_toArray, hget] at hv
          split at hv
          · exact h4 i v hv
          · split at hv
            · exact g3 _ v hv
            · exact h4 i v hv)
        refine ⟨_, p, .inr ⟨?_, by rw [hd]; exact R'⟩⟩
        simp only [execOp, ho, hax, hay, Instr.storeAt, Instr.sureAddr, Sem.run_bind, Sem.run_pure, Result.andThen_ok, storeVar, AU hsz, g1, ne_eq, not_true_eq_false, if_false, Sem.run_ite, hst]
    · rename_i n z i q hq
      rw [hq] at hx
      cases hb : get st.vec n with
      | none => simp [hb] at h
      | some s =>
        simp only [hb, Option.bind_some] at h
        cases hrow : s.rows[i]? with
        | none => simp [hrow] at h
        | some row =>
          simp only [hrow, Option.bind_some] at h
          cases hds : EC l with
          | none => simp [hds] at h
          | some ds =>
            simp only [hds, Option.bind_some] at h
            split at h
            case isFalse => cases h
            rename_i hh
            obtain ⟨rfl, hle⟩ := hh
            cases h
            obtain ⟨t1, t2⟩ := ED hds
            obtain ⟨hat, hz, hmine⟩ := R.vec n s hb
            generalize hax : a.eval x = ax at *
            cases hx with | vptr hn hv =>
            obtain ⟨xs, hown, hrd⟩ := hat.row (hat.sl hv)
            rename_i g c len
            have hrl : row.length = s.z := hz row (List.mem_of_getElem? hrow)
            have hi : i < s.rows.length := (List.getElem?_eq_some_iff.1 hrow).1
            rcases hown.2 with ⟨h0, _⟩ | ⟨g', cap, cur, h0, hb1, hg, hb2, hb3, hb4, hb5⟩
            · rw [hv] at h0; cases h0
            rw [hv] at h0
            injection h0 with h01 h02 h03
            injection h01 with h01
            injection h01 with h01
            subst h01; subst h02; subst h03
            have hbd : i * s.z + s.z ≤ s.rows.length * s.z := by
              have : (i + 1) * s.z ≤ s.rows.length * s.z := Nat.mul_le_mul_right _ hi
              rw [Nat.add_mul] at this; omega
            have hcap : s.rows.length * s.z ≤ c * s.z := Nat.mul_le_mul_right _ hb2
            have hfit : i * s.z + q + vy.cells.size ≤ s.rows.length * s.z := by omega
            have hst := run_storeCells_at P g (i * s.z + q) s.e vy.cells.toList 0 cur w hg (by simp; omega) hone
            simp only [Nat.add_zero] at hst
            let xs' := xs.take (i * s.z + q) ++ vy.cells.toList ++ xs.drop (i * s.z + q + vy.cells.toList.length)
            have hxl : xs.length = s.rows.length * s.z := hown.1
            have hget : ∀ j, xs'[j]? = if j < i * s.z + q then xs[j]? else if j < i * s.z + q + l.length then vy.cells[j - (i * s.z + q)]? else xs[j]? := fun j => by
              simp only [xs']
              rw [B6 _ _ (by simp; omega)]; simp [g1]
            have hz' : ∀ r ∈ s.rows.set i (row.take q ++ (ds ++ row.drop (q + ds.length))), r.length = s.z := fun r hr => by
              rcases List.mem_or_eq_of_mem_set hr with hr | rfl
              · exact hz r hr
              · simp; omega
            have hown' : (w.setRow g (cur.toList.take (i * s.z + q) ++ vy.cells.toList ++ cur.toList.drop (i * s.z + q + vy.cells.toList.length)).toArray).ownsRow 0 s.e s.z (p.rw n) s.rows.length xs' := by
              refine ⟨by simp [xs']; omega, .inr ⟨g, c, _, hv, hb1, setRow_heap w g cur _ s.e _ hg, hb2, hb3, by simp; omega, ?_⟩⟩
              apply List.ext_getElem?
              intro j
              rw [hget, List.getElem?_take, B6 _ _ (by simp; omega), ← hb5]
              simp only [Array.length_toList, g1, List.getElem?_take, Array.getElem?_toList]
              by_cases hj : j < s.rows.length * s.z
              · simp only [hj, if_true]
              · rw [if_neg hj, if_neg (by omega), if_neg (by omega), if_neg hj]
            have R' := R.setRows (rows' := s.rows.set i (row.take q ++ (ds ++ row.drop (q + ds.length)))) (xs' := xs') hb hv (by simp) hz' hown' (fun j x v hx hv => by
              rw [hget] at hv
              -- which row
              have hj : j < s.rows.length * s.z := by
                have := (List.getElem?_eq_some_iff.1 hx).1
                rw [A4 hz'] at this; simpa using this
              have hsz0 : 0 < s.z := Nat.pos_of_ne_zero (fun e => by rw [e, Nat.mul_zero] at hj; omega)
              have hdm : j = (j / s.z) * s.z + j % s.z := by rw [Nat.mul_comm]; exact (Nat.div_add_mod j s.z).symm
              have hmod : j % s.z < s.z := Nat.mod_lt _ hsz0
              have hdv : j / s.z < s.rows.length := Nat.div_lt_of_lt_mul (by rw [Nat.mul_comm]; exact hj)
              by_cases hij : j / s.z = i
              · have hrs : (s.rows.set i (row.take q ++ (ds ++ row.drop (q + ds.length))))[i]? = some (row.take q ++ (ds ++ row.drop (q + ds.length))) := by simp [hi]
                rw [hdm, hij, flat_get hz' hrs hmod] at hx
                rw [hij] at hdm
                simp only [List.getElem?_append, List.length_take, List.getElem?_take, List.getElem?_drop] at hx
                by_cases h1 : j % s.z < q
                · rw [if_pos (by omega), if_pos h1] at hx
                  rw [if_pos (by omega)] at hv
                  exact hrd j x v (by rw [hdm, flat_get hz hrow hmod]; exact hx) hv
                · rw [if_neg (by omega)] at hx
                  rw [if_neg (by omega)] at hv
                  have e1 : j % s.z - min q row.length = j % s.z - q := by omega
                  rw [e1] at hx
                  by_cases h2 : j % s.z - q < ds.length
                  · rw [if_pos h2] at hx
                    rw [if_pos (by omega)] at hv
                    obtain ⟨y', hy', hyd⟩ := t2 _ _ hx
                    exact HC hyd (g2 _ y' v hy' (by rw [show j % s.z - q = j - (i * s.z + q) by omega]; exact hv))
                  · rw [if_neg h2] at hx
                    rw [if_neg (by omega)] at hv
                    exact hrd j x v (by rw [hdm, flat_get hz hrow hmod, ← hx]; congr 1; omega) hv
              · have hrs : (s.rows.set i (row.take q ++ (ds ++ row.drop (q + ds.length))))[j / s.z]? = some s.rows[j / s.z] := by
                  rw [List.getElem?_set_ne (Ne.symm hij)]; exact List.getElem?_eq_getElem hdv
                rw [hdm, flat_get hz' hrs hmod, ← flat_get hz (List.getElem?_eq_getElem hdv) hmod, ← hdm] at hx
                have hne : ¬ (i * s.z ≤ j ∧ j < i * s.z + s.z) := fun ⟨h1, h2⟩ => hij (by
                  apply Nat.div_eq_of_lt_le
                  · exact h1
                  · rw [Nat.add_mul]; omega)
                by_cases h1 : j < i * s.z + q
                · rw [if_pos h1] at hv; exact hrd j x v hx hv
                · rw [if_neg h1, if_neg (by omega)] at hv; exact hrd j x v hx hv)
            refine ⟨_, p, .inr ⟨?_, by rw [hd]; exact R'⟩⟩
            simp only [execOp, ho, hax, hay, Instr.storeAt, Instr.sureAddr, Sem.run_bind, Sem.run_pure, Result.andThen_ok, storeVar, AU hsz, g1, ne_eq, not_true_eq_false, if_false, Sem.run_ite, hst]
    · cases h


theorem HD (R : Rel K st a w p) {o : Oper} {t : TypeId} {l c : Operand} (ho : o.op = .makeSlice t l c) {d : Nat} (hd : o.dst = some d) {st' : St} (h : Sy P st d t (opd st l) (opd st c) = some st') : Stepped P K st' o a w := by
  unfold Sy at h
  split at h
  case h_2 => cases h
  rename_i e hu
  cases hl : CU (opd st l) with
  | none => simp [hl] at h
  | some n =>
    cases hc : CU (opd st c) with
    | none => simp [hl, hc] at h
    | some m =>
      cases hz : Aw P e with
      | none => simp [hl, hc, hz] at h
      | some zs =>
        cases hds : EC zs with
        | none => simp [hl, hc, hz, hds] at h
        | some ds =>
          simp only [hl, hc, hz, hds, Option.bind_some] at h
          split at h
          case isFalse => cases h
          rename_i hh
          obtain ⟨h0, rfl, hb, hpos, hby, he6, hdn⟩ := hh
          cases hvd : get st.vec d with
          | some _ => simp [hvd] at h
          | none =>
            simp only [hvd] at h
            cases h
            obtain ⟨kl, hl'⟩ := CZ hl (R.opd l)
            obtain ⟨kc, hc'⟩ := CZ hc (R.opd c)
            obtain ⟨i, zv, hi, hv, hsz, hzs, h1⟩ := CS hz
            have hzl : zs.length = i.size := by rw [hzs]; simp [hsz]
            have hbytes : i.bytes ≤ 65536 := by simpa [EX, hi] using hby
            obtain ⟨k, rfl⟩ : ∃ k : Nat, n = (k : Int) := ⟨n.toNat, by omega⟩
            have hk : k ≤ 268435456 := by omega
            have hmul : i.bytes * k ≤ 65536 * 268435456 := Nat.mul_le_mul hbytes hk
            have hrun := run_make_full (P := P) w 0 t e i zv i.size hu hi hv rfl kl kc k (by omega) (by simp only [maxLen]; omega) (Nat.zero_le _)
            obtain ⟨w', g1, g2, g3⟩ := hrun
            obtain ⟨t1, t2⟩ := ED hds
            have hdl : ds.length = zs.length := t1
            have hrow : ∀ r ∈ List.replicate k ds, r.length = zs.length := fun r hr => by rw [(List.mem_replicate.1 hr).2]; exact hdl
            have hfl : ∀ (k j : Nat) (x : D), (List.replicate k ds).flatten[j]? = some x → j < k * zs.length ∧ ds[j % zs.length]? = some x := fun k => by
              induction k with
              | zero => intro j x hx; simp at hx
              | succ k ih =>
                intro j x hx
                rw [List.replicate_succ, List.flatten_cons, List.getElem?_append] at hx
                split at hx
                · rename_i hj
                  rw [hdl] at hj
                  rw [Nat.mod_eq_of_lt hj, Nat.add_mul]
                  exact ⟨by omega, hx⟩
                · rename_i hj
                  rw [hdl] at hj hx
                  obtain ⟨a1, a2⟩ := ih _ _ hx
                  rw [Nat.add_mul]
                  refine ⟨by omega, ?_⟩
                  have : j % zs.length = (j - zs.length) % zs.length := by rw [Nat.mod_eq_sub_mod (by omega)]
                  rw [this]; exact a2
            have R' := R.newVec (d := d) (s := ⟨e, zs.length, List.replicate k ds⟩) (CK he6) hvd g3 (Nat.zero_le _) (by rw [List.length_replicate]; show w'.ownsRow 0 e zs.length _ k _; rw [hzl]; exact g2) hrow (fun j x u hx hu => by
              obtain ⟨a1, a2⟩ := hfl k j x hx
              obtain ⟨y, hy1, hy2⟩ := t2 _ _ a2
              rw [hzl] at a1 hy1
              rw [Array.getElem?_toList] at hu
              unfold madeCells at hu
              rw [Array.getElem?_map, Array.getElem?_range, if_pos a1] at hu
              simp only [Option.map_some, Option.some.injEq] at hu
              have hlt : j % i.size < zv.cells.size := by rw [hsz]; exact Nat.mod_lt _ (by omega)
              subst hu
              rw [hsz, getElem!_pos zv.cells (j % i.size) hlt]
              exact HC hy2 (K5 (p := p) zv.cells (j % i.size) y _ (by rw [← hzs]; exact hy1) (Array.getElem?_eq_getElem hlt))) (.inr rfl)
            refine ⟨w', _, .inl ⟨_, ?_, by rw [hd]; exact R'.put (RA.vec_at (Or.inl rfl) (upd_same _ _ _)) hdn⟩⟩
            simp [execOp, ho, hl', hc', g1]

theorem F3 (R : Rel K st a w p) {o : Oper} {x y : Operand} {t t' : TypeId} (ho : o.op = .call { callee := .builtin .copy, args := #[x, y], argTypes := #[t, t'] }) {st' : St}
    (h : cpA P st o.dst t (opd st x) (opd st y) = some st') : Stepped P K st' o a w := by
  unfold cpA at h
  split at h
  case h_2 => cases h
  rename_i e hu
  cases hq : Sz st (opd st x) with
  | none => simp [hq] at h
  | some q =>
    obtain ⟨n, lo, k⟩ := q
    simp only [hq, Option.bind_some] at h
    cases hs : get st.vec n with
    | none => simp [hs] at h
    | some s =>
      simp only [hs, Option.bind_some] at h
      cases hy : rowsOf st (opd st y) with
      | none => simp [hy] at h
      | some ys =>
        simp only [hy, Option.bind_some] at h
        split at h
        · cases h
        rename_i hM
        have hM : s.isM = false := by simpa using hM
        split at h
        case isFalse => cases h
        rename_i hh
        obtain ⟨hsz, hz0, hlk, hyz⟩ := hh
        obtain ⟨hat, hz, hmine⟩ := R.vec n s hs
        obtain ⟨xs, hown, hrd⟩ := hat.row hM
        have hxl : xs.length = s.rows.length * s.z := hown.1
        obtain ⟨b, c, hyv, hsrc⟩ := EE R hy (R.opd y)
        have hinfo : ∃ i, P.info? e = some i ∧ i.size = s.z := by
          unfold Ad at hsz
          cases hi : P.info? e with
          | none => simp [hi] at hsz
          | some i => simp [hi] at hsz; exact ⟨i, rfl, hsz⟩
        obtain ⟨ie, hie, hiz⟩ := hinfo
        -- the source's first cells
        have hnews : ∃ (news : List Value), news.length = min k ys.length * s.z ∧ ((loadCells ((b.getD ⟨0, 0, none⟩)) (min k ys.length * s.z)).run P w = .ok news.toArray w ∨ min k ys.length = 0) ∧ (min k ys.length = 0 ∨ ∃ ad, b = some ad) ∧
            (∀ u ∈ news, u.oneCell' = true) ∧ ∀ (j : Nat) (d : D) (u : Value), ys.flatten[j]? = some d → news[j]? = some u → RD w (okc K w p) d u := by
          rcases hsrc with rfl | ⟨ad, z', nw, rfl, hl, hz', hcell, hone, hrdn⟩
          · exact ⟨[], by simp, .inr (by simp), .inl (by simp), fun u hu => by simp at hu, fun j d u hd => by simp at hd⟩
          · by_cases h0 : min k ys.length = 0
            · exact ⟨[], by simp [h0], .inr h0, .inl h0, fun u hu => by simp at hu, fun j d u hd hu => by simp at hu⟩
            · have hne : ys ≠ [] := fun e => by subst e; simp at h0
              obtain ⟨r, hr⟩ := List.exists_mem_of_ne_nil _ hne
              have : z' = s.z := (hz' r hr).symm.trans (hyz r hr)
              subst this
              have hle : min k ys.length * s.z ≤ ys.length * s.z := Nat.mul_le_mul_right _ (Nat.min_le_right _ _)
              have hlen : (nw.take (min k ys.length * s.z)).length = min k ys.length * s.z := by simp; omega
              have hld := run_loadCells_list (P := P) w ad (nw.take (min k ys.length * s.z)) (fun j u hj => by
                rw [List.getElem?_take] at hj
                split at hj
                · exact hcell j u hj
                · cases hj)
              rw [hlen] at hld
              refine ⟨nw.take (min k ys.length * s.z), hlen, .inl hld, .inr ⟨ad, rfl⟩, fun u hu => hone u (List.mem_of_mem_take hu), fun j d u hd hj => ?_⟩
              rw [List.getElem?_take] at hj
              split at hj
              · exact hrdn j d u hd hj
              · cases hj
        obtain ⟨news, hnl, hld, hbb, hone, hnrd⟩ := hnews
        -- where it goes
        have hto : (∃ (g len c o : Nat), p.rw n = .slice (some ⟨g, 0, none⟩) len c ∧ a.eval x = .slice (some ⟨g, o, none⟩) k (c - lo) ∧ (k = 0 ∨ o = lo * s.z) ∧ p.lv n) ∨ (p.rw n = .slice none 0 0 ∧ a.eval x = .slice none 0 0 ∧ k = 0 ∧ p.lv n) := by
          have hxv := R.opd x
          generalize opd st x = xx at hxv hq
          generalize a.eval x = ax at hxv ⊢
          unfold Sz at hq
          split at hq
          · rename_i n'
            rw [Option.map_eq_some_iff] at hq
            obtain ⟨s', hs', e1⟩ := hq
            cases e1
            rw [hs] at hs'; cases hs'
            cases hxv with | vec hn =>
            rcases hown.2 with ⟨h0, h1⟩ | ⟨g, cap, cur, h0, _⟩
            · exact .inr ⟨h0, by rw [h0], h1, hn⟩
            · exact .inl ⟨g, _, cap, 0, h0, by rw [h0]; simp, .inr (by simp), hn⟩
          · rename_i n' z' lo' k'
            cases hs' : get st.vec n' with
            | none => simp [hs'] at hq
            | some s' =>
              simp only [hs', Option.bind_some] at hq
              split at hq
              case isFalse => cases hq
              rename_i hzz
              cases hq
              rw [hs] at hs'; cases hs'
              subst hzz
              cases hxv with
              | cut hn hv ho hle => exact .inl ⟨_, _, _, _, hv, rfl, ho.1, hn⟩
              | cut0 hn hv => exact .inr ⟨hv, rfl, rfl, hn⟩
          · cases hq
        have hm1 : min k ys.length ≤ k := Nat.min_le_left _ _
        have hm2 : min k ys.length ≤ ys.length := Nat.min_le_right _ _
        have finish : ∀ {w' : World}, (Builtin.copy_ #[t, t'] o.type #[a.eval x, a.eval y]).run P w = .ok (goInt ((min k ys.length : Nat) : Int)) w' →
            Rel K { st with vec := (n, { s with rows := s.rows.take lo ++ (ys.take (min k ys.length) ++ s.rows.drop (lo + min k ys.length)) }) :: st.vec } a w' p → Stepped P K st' o a w := fun {w'} hrun R' => by
          refine ⟨w', p, .inl ⟨goInt ((min k ys.length : Nat) : Int), by simp [execOp, ho, resolve, invoke, builtin, hrun], ?_⟩⟩
          cases hdst : o.dst with
          | none => simp only [hdst] at h; cases h; exact R'
          | some d =>
            simp only [hdst] at h
            split at h
            case isFalse => cases h
            rename_i hdn
            cases h
            exact R'.put (.d .int) hdn
        have hz' : ∀ r ∈ s.rows.take lo ++ (ys.take (min k ys.length) ++ s.rows.drop (lo + min k ys.length)), r.length = s.z := fun r hr => by
          rcases List.mem_append.1 hr with hr | hr
          · exact hz r (List.mem_of_mem_take hr)
          · rcases List.mem_append.1 hr with hr | hr
            · exact hyz r (List.mem_of_mem_take hr)
            · exact hz r (List.mem_of_mem_drop hr)
        rcases hto with ⟨g, len, c', o', hrw, hax, ho', hn⟩ | ⟨hrw, hax, rfl, hn⟩
        · rw [hrw] at hown
          rcases hown.2 with ⟨h0, _⟩ | ⟨g', cap, cur, h0, hb1, hg, hb2, hb3, hb4, hb5⟩
          · cases h0
          injection h0 with h01 h02 h03
          injection h01 with h01
          injection h01 with h01
          subst h01; subst h02; subst h03
          have hmulk : (lo + k) * s.z ≤ s.rows.length * s.z := Nat.mul_le_mul_right _ hlk
          rw [Nat.add_mul] at hmulk
          have hmulm : min k ys.length * s.z ≤ k * s.z := Nat.mul_le_mul_right _ hm1
          have hcap : s.rows.length * s.z ≤ c' * s.z := Nat.mul_le_mul_right _ hb2
          by_cases hm0 : min k ys.length = 0
          · have hrows : s.rows.take lo ++ (ys.take (min k ys.length) ++ s.rows.drop (lo + min k ys.length)) = s.rows := by rw [hm0]; simp
            rw [hrows] at finish
            refine finish (w' := w) ?_ ?_
            · rw [hax, hyv, hm0]
              have hm0' : Nat.min ys.length k = 0 := (Nat.min_comm ys.length k).trans hm0
              cases b with
              | none => simp [Builtin.copy_, run_underlying hu, Builtin.lenOf, sizeOf, typeInfo, hie, hm0', Builtin.firstCells, storeCells]
              | some ad => simp [Builtin.copy_, run_underlying hu, Builtin.lenOf, sizeOf, typeInfo, hie, hm0', Builtin.firstCells, storeCells, loadCells, loadCellsFrom]
            · exact R.eqv' (fun _ => rfl) (fun _ => rfl) (N8 hs)
          · obtain ⟨ad, rfl⟩ := hbb.resolve_left hm0
            have hld := hld.resolve_right hm0
            have hk0 : k ≠ 0 := by omega
            have ho' := ho'.resolve_left hk0
            subst ho'
            have hst := run_storeCells_at P g (lo * s.z) s.e news 0 cur w hg (by omega) hone
            simp only [Nat.add_zero] at hst
            have hm' : Nat.min ys.length k = min k ys.length := Nat.min_comm ys.length k
            let xs' := xs.take (lo * s.z) ++ news ++ xs.drop (lo * s.z + news.length)
            have hfl : (s.rows.take lo ++ (ys.take (min k ys.length) ++ s.rows.drop (lo + min k ys.length))).flatten = s.rows.flatten.take (lo * s.z) ++ (ys.flatten.take (min k ys.length * s.z) ++ s.rows.flatten.drop ((lo + min k ys.length) * s.z)) := by
              rw [List.flatten_append, List.flatten_append, EB hz, EB hyz, FV hz]
            have hsf : s.rows.flatten.length = s.rows.length * s.z := A4 hz
            have hyf : ys.flatten.length = ys.length * s.z := A4 hyz
            have hmuly : min k ys.length * s.z ≤ ys.length * s.z := Nat.mul_le_mul_right _ hm2
            refine finish (w' := w.setRow g (cur.toList.take (lo * s.z) ++ news ++ cur.toList.drop (lo * s.z + news.length)).toArray) ?_ (R.setRows (xs' := xs') hs hrw ?_ hz' ?_ ?_)
            · rw [hax, hyv]
              simp only [Option.getD_some] at hld
              simp only [Builtin.copy_, run_underlying hu, Builtin.lenOf, sizeOf, typeInfo, hie, hiz, hm', Builtin.firstCells, Sem.run_bind, Sem.run_pure, Result.andThen_ok, List.getElem?_toArray, List.getElem?_cons_zero, List.getElem?_cons_succ, hld, hst, run_program]
            · simp only [List.length_append, List.length_take, List.length_drop]; omega
            · refine ⟨?_, .inr ⟨g, c', _, hrw, hb1, setRow_heap w g cur _ s.e _ hg, hb2, hb3, ?_, ?_⟩⟩
              · simp only [xs', List.length_append, List.length_take, List.length_drop]; omega
              · simp; omega
              · simp only [xs']
                apply List.ext_getElem?
                intro j
                rw [List.getElem?_take, B6 _ _ (by simp; omega), B6 _ _ (by omega), ← hb5]
                simp only [List.getElem?_take]
                by_cases hj : j < s.rows.length * s.z
                · simp [hj]
                · have h1 : ¬ j < lo * s.z := by omega
                  have h2 : ¬ j < lo * s.z + news.length := by omega
                  simp [hj, h1, h2]
            · intro j d u hdj hu
              rw [hfl] at hdj
              simp only [xs'] at hu
              rw [B6 _ _ (by omega)] at hu
              rw [List.getElem?_append, List.length_take, Nat.min_eq_left (by omega)] at hdj
              split at hdj
              · rename_i hj
                rw [if_pos hj] at hu
                rw [List.getElem?_take, if_pos hj] at hdj
                exact hrd j d u hdj hu
              · rename_i hj
                rw [if_neg hj] at hu
                rw [List.getElem?_append, List.length_take, Nat.min_eq_left (by omega)] at hdj
                split at hdj
                · rename_i hj2
                  rw [if_pos (by omega)] at hu
                  rw [List.getElem?_take, if_pos hj2] at hdj
                  exact hnrd _ d u hdj hu
                · rename_i hj2
                  rw [if_neg (by omega)] at hu
                  rw [List.getElem?_drop, Nat.add_mul] at hdj
                  have e1 : lo * s.z + min k ys.length * s.z + (j - lo * s.z - min k ys.length * s.z) = j := by omega
                  rw [e1] at hdj
                  exact hrd j d u hdj hu
        · have hm0 : min 0 ys.length = 0 := by simp
          have hrows : s.rows.take lo ++ (ys.take (min 0 ys.length) ++ s.rows.drop (lo + min 0 ys.length)) = s.rows := by rw [hm0]; simp
          rw [hrows] at finish
          refine finish (w' := w) ?_ ?_
          · rw [hax, hyv]
            have hm0' : Nat.min ys.length 0 = 0 := Nat.min_zero _
            cases b with
            | none => simp [Builtin.copy_, run_underlying hu, Builtin.lenOf, sizeOf, typeInfo, hie, hm0', Builtin.firstCells, storeCells]
            | some ad => simp [Builtin.copy_, run_underlying hu, Builtin.lenOf, sizeOf, typeInfo, hie, hm0', Builtin.firstCells, storeCells, loadCells, loadCellsFrom]
          · exact R.eqv' (fun _ => rfl) (fun _ => rfl) (N8 hs)
end
end Go.Vl
