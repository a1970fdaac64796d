/- The value logic, part 6: how the relation is carried over a step: put, draw, forget, new boxes, stores. Conditions: none. -/
import Derived.Test.YtnnipdjbiblekaaVmE
set_option linter.unusedSimpArgs false
set_option linter.unusedVariables false
namespace Go.Vl
open Go Go.RowKit

structure Evo (K : Ctx) (w w' : World) (p p' : Pl) (kb kv : Nat → Bool) : Prop where
  size : w.heap.size ≤ w'.heap.size
  os : w'.os = w.os
  tape : w'.tape = w.tape
  output : w'.output = w.output
  old : ∀ b, b < K.w0.heap.size → ¬ K.io b → w'.heap[b]? = w.heap[b]?
  cell : ∀ q : Addr, okc K w p q.block → w'.cell? q = w.cell? q
  ok : ∀ b, okc K w p b → okc K w' p' b
  kb : ∀ n, kb n = true → p.lb n → p'.lb n ∧ p'.bx n = p.bx n
  kv : ∀ n, kv n = true → p.lv n → p'.lv n ∧ p'.rw n = p.rw n

section
variable {K : Ctx} {w w' : World} {p p' : Pl} {kb kv : Nat → Bool}
theorem Evo.ra (E : Evo K w w' p p' kb kv) {x : AV} {v : Value} (h : RA w (okc K w p) p x v) (hx : x.wf kb kv = true) : RA w' (okc K w' p') p' x v :=
  h.less E.cell E.ok E.kb E.kv hx
theorem Evo.rd (E : Evo K w w' p p' kb kv) {x : D} {v : Value} (h : RD w (okc K w p) x v) : RD w' (okc K w' p') x v := h.mono E.cell E.ok

theorem Evo.box (E : Evo K w w' p p' kb kv) {n : Nat} {cs cs' : List AV} (h : BoxAt K w p n cs) (hn : p'.bx n = p.bx n) (hh : w'.heap[p.bx n]? = w.heap[p.bx n]?) (hl : cs'.length = cs.length)
    (hcs : ∀ (i : Nat) (c : AV), cs'[i]? = some c → c = .undef ∨ (cs[i]? = some c ∧ c.wf kb kv = true)) : BoxAt K w' p' n cs' := by
  obtain ⟨⟨vs, ty, h1, h2, h3, h4⟩, h5⟩ := h
  refine ⟨⟨vs, ty, by rw [hn, hh, h1], by rw [h2, hl], fun i c v hc hv => ?_, h4⟩, by rw [hn]; exact h5⟩
  rcases hcs i c hc with rfl | ⟨hc', hw⟩
  · exact .undef
  · exact E.ra (h3 i c v hc' hv) hw

theorem Evo.vec (E : Evo K w w' p p' kb kv) {n : Nat} {s : VS} (h : VecAt K w p n s) (hn : p'.rw n = p.rw n) (hh : ∀ g, (p.rw n).blk = some g → w'.heap[g]? = w.heap[g]?) : VecAt K w' p' n s := by
  obtain ⟨h1, h3, h4⟩ := h
  exact ⟨by rw [hn]; exact h1.mono E.cell E.ok hh, h3, fun g hg => h4 g (by rw [← hn]; exact hg)⟩
end

theorem wf_true (x : AV) : x.wf (fun _ => true) (fun _ => true) = true := by
  have key : ∀ x : AV, x.wf (fun _ => true) (fun _ => true) = true := by
    intro x
    refine AV.rec (motive_1 := fun x => x.wf (fun _ => true) (fun _ => true) = true) (motive_2 := fun l => AV.wfL (fun _ => true) (fun _ => true) l = true) ?_ ?_ ?_ ?_ ?_ ?_ ?_ ?_ ?_ ?_ ?_ ?_ ?_ ?_ ?_ x <;> intros <;> simp_all [AV.wf, AV.wfL]
  exact key x

section
variable {K : Ctx} {st : St} {a : Act} {w : World} {p : Pl}

theorem Rel.lbi (R : Rel K st a w p) (n : Nat) : p.lb n ↔ st.lb n = true := by rw [R.lb]
theorem Rel.lvi (R : Rel K st a w p) (n : Nat) : p.lv n ↔ st.lv n = true := by rw [R.lv]
theorem Rel.blt (R : Rel K st a w p) {n : Nat} (hn : p.lb n) : p.bx n < w.heap.size := by
  obtain ⟨cs, hcs⟩ := Option.isSome_iff_exists.1 ((R.lbi n).1 hn)
  obtain ⟨⟨vs, ty, h1, _⟩, _⟩ := R.box n cs hcs
  exact (Array.getElem?_eq_some_iff.1 h1).1
theorem Rel.vlt (R : Rel K st a w p) {n g : Nat} (hn : p.lv n) (hg : (p.rw n).blk = some g) : (K.w0.heap.size ≤ g ∨ g ∈ K.ivs) ∧ g < w.heap.size := by
  obtain ⟨s, hs⟩ := Option.isSome_iff_exists.1 ((R.lvi n).1 hn)
  obtain ⟨h1, _, h4⟩ := R.vec n s hs
  exact ⟨h4 g hg, h1.lt hg⟩

/-- a slot is written -/
theorem Rel.put (R : Rel K st a w p) {d : Nat} {x : AV} {v : Value} (hx : RA w (okc K w p) p x v) (hd : d < st.nt) : Rel K (st.put d x) (a.put (some d) v) w p where
  lb := R.lb
  lv := R.lv
  dfr := R.dfr
  nt := by simpa [Act.put, St.put] using R.nt
  ntl := R.ntl
  ion := R.ion
  size := R.size
  os := R.os
  tape := R.tape
  output := R.output
  old := R.old
  env := by
    intro t y h
    simp only [St.put, get] at h
    have hsz : d < a.tmps.size := by rw [R.nt]; exact hd
    split at h
    · rename_i e; subst e; cases h
      simp [Act.put, hsz]; exact hx
    · rename_i e
      have := R.env t y h
      simpa [Act.put, Array.getElem?_setIfInBounds_ne e] using this
  box := R.box
  vec := R.vec
  dbb := R.dbb
  dbv := R.dbv
  dvv := R.dvv

theorem Rel.puto (R : Rel K st a w p) {o : Oper} {x : AV} {v : Value} (hx : RA w (okc K w p) p x v) {st' : St} (h : (match o.dst with | some d => if d < st.nt then some (st.put d x) else none | none => some st) = some st') : Rel K st' (a.put o.dst v) w p := by
  cases hd : o.dst with
  | none => simp [hd] at h; subst h; exact R
  | some d =>
    simp only [hd] at h
    split at h
    · cases h; exact R.put hx ‹_›
    · cases h

/-- the world moves, the names stay -/
theorem Rel.evo (R : Rel K st a w p) {w' : World} (E : Evo K w w' p p (fun _ => true) (fun _ => true)) (hb : ∀ n, p.lb n → w'.heap[p.bx n]? = w.heap[p.bx n]?) (hv : ∀ n g, p.lv n → (p.rw n).blk = some g → w'.heap[g]? = w.heap[g]?) :
    Rel K st a w' p where
  lb := R.lb
  lv := R.lv
  dfr := R.dfr
  nt := R.nt
  ntl := R.ntl
  ion := R.ion
  size := Nat.le_trans R.size E.size
  os := E.os.trans R.os
  tape := E.tape.trans R.tape
  output := E.output.trans R.output
  old := fun b h1 h2 => (E.old b h1 h2).trans (R.old b h1 h2)
  env := fun t x h => E.ra (R.env t x h) (wf_true x)
  box := fun n cs h => E.box (R.box n cs h) rfl (hb n ((R.lbi n).2 (by simp [St.lb, h]))) rfl (fun i c hc => .inr ⟨hc, wf_true c⟩)
  vec := fun n s h => E.vec (R.vec n s h) rfl (fun g hg => hv n g ((R.lvi n).2 (by simp [St.lv, h])) hg)
  dbb := R.dbb
  dbv := R.dbv
  dvv := R.dvv

theorem okc_grow {w' : World} (hs : w.heap.size ≤ w'.heap.size) {b : Nat} (h : okc K w p b) : okc K w' p b := ⟨Nat.lt_of_lt_of_le h.1 hs, h.2⟩

theorem Rel.drew (R : Rel K st a w p) : Rel K st a w.drew p :=
  R.evo ⟨Nat.le_refl _, rfl, rfl, rfl, fun _ _ _ => rfl, fun _ _ => rfl, fun _ h => h, fun _ _ h => ⟨h, rfl⟩, fun _ _ h => ⟨h, rfl⟩⟩ (fun _ _ => rfl) (fun _ _ _ _ => rfl)

/-! Forgetting -/
/-- y says less than x -/
def AV.le (x y : AV) : Prop := y = .undef ∨ x = y ∨ (x = .nilS ∧ y = .d (.slice [])) ∨ ∃ r, x = .full r ∧ y = .d (.slice r)
def leEnv (st st' : St) : List (Nat × AV) → Prop
  | [] => True
  | (t, y) :: l => (y = .undef ∨ ((st.look t).le y ∧ y.wf st'.lb st'.lv = true)) ∧ leEnv st st' l
def leCells (st' : St) : List AV → List AV → Prop
  | [], [] => True
  | x :: l, y :: l' => (y = .undef ∨ (x = y ∧ y.wf st'.lb st'.lv = true)) ∧ leCells st' l l'
  | _, _ => False
def leBox (st st' : St) : List (Nat × List AV) → Prop
  | [] => True
  | (n, cs') :: l => (∃ cs, get st.box n = some cs ∧ leCells st' cs cs') ∧ leBox st st' l
def leVec (st : St) : List (Nat × VS) → Prop
  | [] => True
  | (n, s) :: l => get st.vec n = some s ∧ leVec st l
structure Weak (st st' : St) : Prop where
  nt : st'.nt = st.nt
  env : leEnv st st' st'.env
  box : leBox st st' st'.box
  vec : leVec st st'.vec

theorem leEnv_get {st st' : St} : ∀ {l : List (Nat × AV)}, leEnv st st' l → ∀ {t : Nat} {y : AV}, get l t = some y → y = .undef ∨ ((st.look t).le y ∧ y.wf st'.lb st'.lv = true)
  | [], _, t, y, h => by simp [get] at h
  | (k, x) :: l, hl, t, y, h => by
    simp only [get] at h
    split at h
    · rename_i e; subst e; cases h; exact hl.1
    · exact leEnv_get hl.2 h
theorem leBox_get {st st' : St} : ∀ {l : List (Nat × List AV)}, leBox st st' l → ∀ {n : Nat} {cs' : List AV}, get l n = some cs' → ∃ cs, get st.box n = some cs ∧ leCells st' cs cs'
  | [], _, t, y, h => by simp [get] at h
  | (k, x) :: l, hl, t, y, h => by
    simp only [get] at h
    split at h
    · rename_i e; subst e; cases h; exact hl.1
    · exact leBox_get hl.2 h
theorem leVec_get {st : St} : ∀ {l : List (Nat × VS)}, leVec st l → ∀ {n : Nat} {s : VS}, get l n = some s → get st.vec n = some s
  | [], _, t, y, h => by simp [get] at h
  | (k, x) :: l, hl, t, y, h => by
    simp only [get] at h
    split at h
    · rename_i e; subst e; cases h; exact hl.1
    · exact leVec_get hl.2 h
theorem leCells_get {st' : St} : ∀ {l l' : List AV}, leCells st' l l' → l'.length = l.length ∧ ∀ (i : Nat) (c : AV), l'[i]? = some c → c = .undef ∨ (l[i]? = some c ∧ c.wf st'.lb st'.lv = true)
  | [], [], _ => ⟨rfl, fun i c h => by simp at h⟩
  | x :: l, y :: l', h => by
    obtain ⟨h1, h2⟩ := leCells_get h.2
    refine ⟨by simp [h1], fun i c hc => ?_⟩
    cases i with
    | zero =>
      simp at hc; subst hc
      rcases h.1 with h0 | ⟨h0, hw⟩
      · exact .inl h0
      · exact .inr ⟨by simp [h0], hw⟩
    | succ i => simpa using h2 i c (by simpa using hc)
  | [], _ :: _, h => h.elim
  | _ :: _, [], h => h.elim

theorem Rel.weak (R : Rel K st a w p) {st' : St} (W : Weak st st') : Rel K st' a w ⟨p.bx, p.rw, fun n => st'.lb n = true, fun n => st'.lv n = true⟩ := by
  have hb : ∀ n, st'.lb n = true → p.lb n := fun n hn => by
    obtain ⟨cs', hcs'⟩ := Option.isSome_iff_exists.1 hn
    obtain ⟨cs, hcs, _⟩ := leBox_get W.box hcs'
    exact (R.lbi n).2 (by simp [St.lb, hcs])
  have hv : ∀ n, st'.lv n = true → p.lv n := fun n hn => by
    obtain ⟨s, hs⟩ := Option.isSome_iff_exists.1 hn
    exact (R.lvi n).2 (by simp [St.lv, leVec_get W.vec hs])
  have E : Evo K w w p ⟨p.bx, p.rw, fun n => st'.lb n = true, fun n => st'.lv n = true⟩ st'.lb st'.lv :=
    ⟨Nat.le_refl _, rfl, rfl, rfl, fun _ _ _ => rfl, fun _ _ => rfl, fun b h => ⟨h.1, h.2.1, fun n hn => h.2.2.1 n (hb n hn), fun n hn => h.2.2.2 n (hv n hn)⟩, fun n hn _ => ⟨hn, rfl⟩, fun n hn _ => ⟨hn, rfl⟩⟩
  exact {
    lb := rfl
    lv := rfl
    dfr := R.dfr
    nt := R.nt.trans W.nt.symm
    ntl := by rw [W.nt]; exact R.ntl
    ion := fun i hi => R.ion i (hb _ hi)
    size := R.size
    os := R.os
    tape := R.tape
    output := R.output
    old := R.old
    env := fun t y h => by
      rcases leEnv_get W.env h with rfl | ⟨h1, hw⟩
      · exact .undef
      have hx : RA w (okc K w p) p (st.look t) (a.tmps.getD t undef) := R.opd (.tmp t)
      rcases h1 with rfl | h1 | ⟨h1, rfl⟩ | ⟨r, h1, rfl⟩
      · exact .undef
      · subst h1; exact E.ra hx hw
      · rw [h1] at hx
        generalize a.tmps.getD t undef = v at hx ⊢
        cases hx with | nilS => exact .d .snil
      · rw [h1] at hx
        generalize a.tmps.getD t undef = v at hx ⊢
        cases hx with | full h => exact .d (E.rd h)
    box := fun n cs' h => by
      obtain ⟨cs, hcs, hle⟩ := leBox_get W.box h
      obtain ⟨h1, h2⟩ := leCells_get hle
      exact E.box (R.box n cs hcs) rfl rfl h1 h2
    vec := fun n s h => E.vec (R.vec n s (leVec_get W.vec h)) rfl (fun _ _ => rfl)
    dbb := fun n m hn hm => R.dbb n m (hb n hn) (hb m hm)
    dbv := fun n m hn hm => R.dbv n m (hb n hn) (hv m hm)
    dvv := fun n m hn hm => R.dvv n m (hv n hn) (hv m hm) }

/-! A new box -/
def upd {α : Type} (f : Nat → α) (n : Nat) (x : α) : Nat → α := fun m => if m = n then x else f m
theorem upd_same {α : Type} (f : Nat → α) (n : Nat) (x : α) : upd f n x n = x := if_pos rfl
theorem upd_ne {α : Type} (f : Nat → α) {n m : Nat} (x : α) (h : m ≠ n) : upd f n x m = f m := if_neg h

theorem alloc_cell_old (w : World) (o : Obj) (q : Addr) (h : q.block < w.heap.size) : (w.alloc o).cell? q = w.cell? q := World.cell?_alloc_lt w o q h

theorem Rel.newBox (R : Rel K st a w p) {n : Nat} {cs : List AV} {vs : Array Value} {ty : TypeId} (hlt : n < 1000000) (hn : get st.box n = none) (hl : vs.size = cs.length) (hr : ∀ (i : Nat) (c : AV) (v : Value), cs[i]? = some c → vs[i]? = some v → RA w (okc K w p) p c v)
    (h1 : ∀ (i : Nat) (v : Value), vs[i]? = some v → v.oneCell' = true) :
    Rel K { st with box := (n, cs) :: st.box } a (w.alloc (.cells vs ty)) ⟨upd p.bx n w.heap.size, p.rw, fun m => m = n ∨ p.lb m, p.lv⟩ := by
  have hnl : ¬ p.lb n := fun h => by have := (R.lbi n).1 h; simp [St.lb, hn] at this
  have hne : ∀ m, p.lb m → m ≠ n := fun m hm e => hnl (e ▸ hm)
  have E : Evo K w (w.alloc (.cells vs ty)) p ⟨upd p.bx n w.heap.size, p.rw, fun m => m = n ∨ p.lb m, p.lv⟩ (fun _ => true) (fun _ => true) :=
    ⟨by simp, rfl, rfl, rfl, fun b hb _ => Below.heap_alloc w _ b (Nat.lt_of_lt_of_le hb R.size), fun q hq => alloc_cell_old w _ q hq.1, fun b h => ⟨by have := h.1; simp; omega, h.2.1, fun m hm => by
      dsimp only at hm ⊢
      by_cases e : m = n
      · subst e; rw [upd_same]; have := h.1; omega
      · rw [upd_ne _ _ e]; exact h.2.2.1 m (hm.resolve_left e), h.2.2.2⟩, fun m _ hm => ⟨.inr hm, upd_ne _ _ (hne m hm)⟩, fun m _ hm => ⟨hm, rfl⟩⟩
  exact {
    lb := by
      funext m
      simp only [St.lb, get, eq_iff_iff]
      have := R.lbi m
      by_cases e : n = m
      · simp [e]
      · simp only [if_neg e, this, St.lb]; constructor
        · rintro (h | h)
          · exact absurd h.symm e
          · exact h
        · exact .inr
    lv := R.lv
    dfr := R.dfr
    nt := R.nt
    ntl := R.ntl
    ion := fun i hi => by
      have e : InO i ≠ n := by unfold InO; omega
      dsimp only at hi ⊢
      rw [upd_ne _ _ e]; exact R.ion i (hi.resolve_left e)
    size := Nat.le_trans R.size E.size
    os := R.os
    tape := R.tape
    output := R.output
    old := fun b hb hi => (E.old b hb hi).trans (R.old b hb hi)
    env := fun t x h => E.ra (R.env t x h) (wf_true x)
    box := fun m cs' h => by
      simp only [get] at h
      split at h
      · rename_i e; subst e; cases h
        exact ⟨⟨vs, ty, by simp only [upd_same]; exact heap_alloc_new w _, hl, fun i c v hc hv => E.ra (hr i c v hc hv) (wf_true c), h1⟩, .inl (by simp only [upd_same]; exact R.size)⟩
      · rename_i e
        have hm : p.lb m := (R.lbi m).2 (by simp [St.lb, h])
        exact E.box (R.box m cs' h) (upd_ne _ _ (Ne.symm e)) (Below.heap_alloc w _ _ (R.blt hm)) rfl (fun i c hc => .inr ⟨hc, wf_true c⟩)
    vec := fun m s h => E.vec (R.vec m s h) rfl (fun g hg => Below.heap_alloc w _ _ (R.vlt ((R.lvi m).2 (by simp [St.lv, h])) hg).2)
    dbb := fun m k hm hk hmk => by
      simp only at hm hk ⊢
      by_cases e : m = n
      · subst e; rw [upd_same, upd_ne _ _ (Ne.symm hmk)]
        have := R.blt (hk.resolve_left (Ne.symm hmk)); omega
      · rw [upd_ne _ _ e]
        by_cases e' : k = n
        · subst e'; rw [upd_same]; have := R.blt (hm.resolve_left e); omega
        · rw [upd_ne _ _ e']; exact R.dbb m k (hm.resolve_left e) (hk.resolve_left e') hmk
    dbv := fun m k hm hk => by
      simp only at hm ⊢
      by_cases e : m = n
      · subst e; rw [upd_same]; intro hg; have := (R.vlt hk hg).2; omega
      · rw [upd_ne _ _ e]; exact R.dbv m k (hm.resolve_left e) hk
    dvv := R.dvv }

end
end Go.Vl
