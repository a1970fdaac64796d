/- The value logic, a bytes-to-bytes conversion of an owned row: the row is read only from then on. Conditions: none. -/
import Derived.Test.YtjnflahicimmlaaDoorVmN
set_option linter.unusedSimpArgs false
set_option linter.unusedVariables false
namespace Go.Vl
open Go Go.RowKit

/-! arrays of integers -/
def ics (c : List Int) : List AV := c.map fun n => .d (.int .i64 n)
@[simp] theorem ics_length (c : List Int) : (ics c).length = c.length := by simp [ics]
theorem ics_get {c : List Int} {i : Nat} {x : Int} (h : c[i]? = some x) : (ics c)[i]? = some (.d (.int .i64 x)) := by simp [ics, h]
@[simp] theorem ics_fin : ∀ c : List Int, AV.finL (ics c) = ics c
  | [] => rfl
  | x :: c => by show AV.finL (.d (.int .i64 x) :: ics c) = _; simp only [AV.finL, AV.fin, ics_fin c]; rfl
@[simp] theorem ics_wf (lb lv : Nat → Bool) : ∀ c : List Int, AV.wfL lb lv (ics c) = true
  | [] => rfl
  | x :: c => by show AV.wfL lb lv (.d (.int .i64 x) :: ics c) = _; simp [AV.wfL, AV.wf, ics_wf lb lv c]
@[simp] theorem ics_refl (st : St) : ∀ c : List Int, leCells st (ics c) (ics c)
  | [] => trivial
  | x :: c => ⟨.inr ⟨rfl, rfl⟩, ics_refl st c⟩
theorem ics_set (c : List Int) (i : Nat) (x : Int) : (ics c).set i (.d (.int .i64 x)) = ics (c.set i x) := by simp [ics, List.map_set]
def zs256 : List Int := List.replicate 256 0
@[simp] theorem zs256_length : zs256.length = 256 := by unfold zs256; exact List.length_replicate
theorem zs256_get (j : Nat) : (zs256[j]?).getD 0 = 0 := by unfold zs256; rw [List.getElem?_replicate]; split <;> rfl

section
variable {P : Program} {K : Ctx P} {st : St} {a : Act} {w : World} {p : Pl} {ops : Array Oper} {Q : Exit → St → Prop}

/-- A block that no live name holds is turned, its cells are not. -/
theorem Rel.touch (R : Rel K st a w p) (hv : st.vec = []) {b : Nat} (hb : K.w0.heap.size ≤ b ∨ b ∈ K.ivs) (hbx : ∀ n, p.lb n → p.bx n ≠ b) {w' : World} (hs : w'.heap.size = w.heap.size) (hos : w'.os = w.os) (htp : w'.tape = w.tape)
    (hou : w'.output = w.output) (hblk : ∀ k, k ≠ b → w'.heap[k]? = w.heap[k]?) (hcell : ∀ q : Addr, see w' q = see w q) (hdr : dr0 w ≤ dr0 w') : Rel K st a w' p := by
  have hok : ∀ c, okc K w p c → okc K w' p c := fun c h => ⟨by rw [hs]; exact h.1, h.2⟩
  have key : ∀ {x : AV} {v : Value}, RA w (okc K w p) p x v → RA w' (okc K w' p) p x v := fun h => h.mono (fun q _ => hcell q) hok (fun n h => ⟨h, rfl⟩) (fun n h => ⟨h, rfl⟩)
  exact {
    lb := R.lb
    lv := R.lv
    dfr := R.dfr
    nt := R.nt
    ntl := R.ntl
    ion := R.ion
    size := by rw [hs]; exact R.size
    os := by rw [hos]; exact R.os
    tape := by rw [htp]; exact R.tape
    dr := Nat.le_trans R.dr hdr
    output := by rw [hou]; exact R.output
    old := fun c h1 h2 => by rw [hblk c (fun e => hb.elim (fun h => by omega) (fun h => h2 (.inr (e ▸ h))))]; exact R.old c h1 h2
    env := fun t x h => key (R.env t x h)
    box := fun n cs h => by
      obtain ⟨⟨vs, ty, h1, h2, h3, h4⟩, h5⟩ := R.box n cs h
      have hl : p.lb n := by rw [R.lb]; simp [St.lb, h]
      exact ⟨⟨vs, ty, by rw [hblk _ (hbx n hl)]; exact h1, h2, fun i c v hc hv => key (h3 i c v hc hv), h4⟩, h5⟩
    vec := fun n s h => by rw [hv] at h; simp [get] at h
    dbb := R.dbb
    dbv := R.dbv
    dvv := R.dvv }

theorem convert_run {t e : TypeId} (hu : P.underlying t = some (.slice e)) (he : P.underlying e = some (.int .u8)) {g len cap : Nat} {cur : Array Value} {ty : TypeId} (hw : w.heap[g]? = some (.cells cur ty (0, 0))) :
    (convert t t (.slice (some ⟨g, 0, none⟩) len cap)).run P w = .ok (.slice (some ⟨g, 0, none⟩) len cap) (w.freeze ⟨g, cur.size, none⟩ 1) := by
  have hsh : w.shape? g = some (ty, cur.size) := by unfold World.shape?; rw [hw]
  simp [convert, run_underlying hu, run_underlying he, markStringish, hsh]
theorem freeze_facts {g k : Nat} {cur : Array Value} {ty : TypeId} (hw : w.heap[g]? = some (.cells cur ty (0, 0))) :
    (w.freeze ⟨g, k, none⟩ 1).heap.size = w.heap.size ∧ (w.freeze ⟨g, k, none⟩ 1).os = w.os ∧ (w.freeze ⟨g, k, none⟩ 1).tape = w.tape ∧ (w.freeze ⟨g, k, none⟩ 1).output = w.output ∧
    (∀ j, j ≠ g → (w.freeze ⟨g, k, none⟩ 1).heap[j]? = w.heap[j]?) ∧ ∀ q : Addr, see (w.freeze ⟨g, k, none⟩ 1) q = see w q := by
  have hb : ∀ j, j ≠ g → (w.freeze ⟨g, k, none⟩ 1).heap[j]? = w.heap[j]? := fun j hj => by
    simp [World.freeze, Array.getElem?_modify, Ne.symm hj]
  have hg : (w.freeze ⟨g, k, none⟩ 1).heap[g]? = some (.cells cur ty (k, k + 1)) := by
    simp [World.freeze, Array.getElem?_modify, hw]
  refine ⟨by simp [World.freeze], by simp [World.freeze], by simp [World.freeze], by simp [World.freeze], hb, fun q => ?_⟩
  by_cases h : q.block = g
  · simp only [see, mapO, World.cell?, h, hg, hw]
  · exact see_of_block (hb _ h)

/-- An owned row of bytes converted to its own type: read only from then on. -/
theorem tops_mark {l : List Oper} {o : Oper} {t e : TypeId} {x : Operand} {n d : Nat} {s : VS} (hg : gdA ops st o = some true) (ho : o.op = .convert t t x) (hd : o.dst = some d) (hdn : d < st.nt) (hx : opd st x = .vec n)
    (hs : get st.vec n = some s) (hv : del st.vec n = []) (hne : 0 < s.rows.length) (hu : P.underlying t = some (.slice e)) (he : P.underlying e = some (.int .u8))
    (h : TOps P K ops l ((st.frz n).put d (.d (.slice s.rows))) Q) (hM : s.isM = false := by rfl) : TOps P K ops (o :: l) st Q := by
  intro a w p R
  have hxv := R.opd x
  rw [hx] at hxv
  generalize hva : a.eval x = v at hxv
  have hvv : v = p.rw n := by cases hxv; rfl
  have hnl : p.lv n := (R.lvi n).2 (by simp [St.lv, hs])
  obtain ⟨hat, hz, hmine⟩ := R.vec n s hs
  obtain ⟨xs, hown, hrd⟩ := hat.row hM
  rcases hown.2 with ⟨_, h0⟩ | ⟨g, cap, cur, hgv, hgb, hgw, hn1, hn2, hn3, hn4⟩
  · omega
  unfold wpList
  rw [gd_sound R hg, if_pos rfl]
  refine .inl ?_
  unfold Oper.wp
  have hrun : (execOp a.eval o).run P w = .ok (.value (p.rw n)) (w.freeze ⟨g, cur.size, none⟩ 1) := by
    have := convert_run (P := P) hu he (len := s.rows.length) (cap := cap) hgw
    simp only [execOp, ho]
    rw [hva, hvv, hgv]
    simp [this]
  rw [hrun]
  obtain ⟨f1, f2, f3, f4, f5, f6⟩ := freeze_facts (k := cur.size) hgw
  obtain ⟨p', R', hok, hbx, hlb, hgo⟩ := R.frz n
  have hgo : ∀ g, p.lv n → (p.rw n).blk = some g → okc K w p' g := hgo.resolve_left (fun ⟨s', h1, h2⟩ => by rw [hs] at h1; cases h1; rw [hM] at h2; cases h2)
  have hvec : (st.frz n).vec = [] := by unfold St.frz; rw [hs]; exact hv
  have R2 : Rel K (st.frz n) a (w.freeze ⟨g, cur.size, none⟩ 1) p' := R'.touch hvec (hmine g (by rw [hgv]; rfl)) (fun m hm => by
    rw [hbx]; intro e1; exact R.dbv m n (by rw [← hlb]; exact hm) hnl (by rw [hgv, e1]; rfl)) f1 f2 f3 f4 f5 f6 (Nat.le_of_eq (by unfold World.freeze; split <;> rfl))
  have hrd2 : RA (w.freeze ⟨g, cur.size, none⟩ 1) (okc K (w.freeze ⟨g, cur.size, none⟩ 1) p') p' (.d (.slice s.rows)) (p.rw n) :=
    .d ((own_rd hown hz hrd hok (fun g' hg' => hgo g' hnl hg')).mono (fun q _ => f6 q) (fun b hb => ⟨by rw [f1]; exact hb.1, hb.2⟩))
  show wpList P ops (Pst K Q) l (a.put o.dst (p.rw n)) _
  rw [hd]
  exact h _ _ _ (R2.put hrd2 (by unfold St.frz; rw [hs]; exact hdn))
end
end Go.Vl
