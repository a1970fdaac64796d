/- The value logic, part 7: owned rows: made, appended to, stored into, frozen; stores into boxes. Conditions: none. -/
import Derived.Test.YtnnipdjbiblekaaVmF
set_option linter.unusedSimpArgs false
set_option linter.unusedVariables false
namespace Go.Vl
open Go Go.RowKit

def AV.scrub (n : Nat) (x : AV) : AV := if x.wf (fun _ => true) (fun m => m != n) then x else .undef

section
variable {K : Ctx} {st : St} {a : Act} {w : World} {p : Pl}

theorem get_map_some {α β : Type} {f : α → β} {l : List (Nat × α)} {t : Nat} {y : β} (h : get (mapv f l) t = some y) : ∃ x, get l t = some x ∧ y = f x := by
  rw [get_mapv] at h
  cases hx : get l t with
  | none => simp [hx] at h
  | some x => simp [hx] at h; exact ⟨x, rfl, h.symm⟩

/-- An owned row is laid at the name d; the name n is consumed. -/
theorem Rel.setVecG (R : Rel K st a w p) {n d : Nat} {w' : World} {v' : Value} {s : VS} {row : Option Nat} (hd : get (del st.vec n) d = none) (hg : w.grownBy w' row) (hrow : row = none ∨ (p.lv n ∧ row = (p.rw n).blk))
    (hat : ∀ ok' : Nat → Prop, (∀ q : Addr, okc K w p q.block → w'.cell? q = w.cell? q) → (∀ b, okc K w p b → ok' b) → VRow w' ok' s v') (hz : ∀ r ∈ s.rows, r.length = s.z)
    (hblk : v'.blk = none ∨ (p.lv n ∧ v'.blk = (p.rw n).blk) ∨ v'.blk = some w.heap.size) :
    Rel K { nt := st.nt, env := mapv (AV.scrub n) st.env, box := mapv (List.map (AV.scrub n)) st.box, vec := (d, s) :: del st.vec n } a w' ⟨p.bx, upd p.rw d v', p.lb, fun m => m = d ∨ (m ≠ n ∧ p.lv m)⟩ := by
  have hlive : ∀ m, m ≠ n → p.lv m → m ≠ d := fun m hm hl e => by
    subst e
    rw [get_del, if_neg (Ne.symm hm)] at hd
    have := (R.lvi m).1 hl
    simp [St.lv, hd] at this
  have hgr : ∀ b, b < w.heap.size → (∀ m, p.lv m → (p.rw m).blk ≠ some b) → w'.heap[b]? = w.heap[b]? := fun b hb hv => hg.block b hb (fun e => by
    rcases hrow with h0 | ⟨h1, h2⟩
    · rw [h0] at e; cases e
    · exact hv n h1 (by rw [← h2]; exact e.symm))
  have hother : ∀ m g, m ≠ n → p.lv m → (p.rw m).blk = some g → w'.heap[g]? = w.heap[g]? := fun m g hm hl hgm => hg.block g (R.vlt hl hgm).2 (fun e => by
    rcases hrow with h0 | ⟨h1, h2⟩
    · rw [h0] at e; cases e
    · rcases R.dvv m n hl h1 hm with h3 | h3
      · rw [h3] at hgm; cases hgm
      · exact h3 (by rw [hgm, ← h2]; exact e))
  have E : Evo K w w' p ⟨p.bx, upd p.rw d v', p.lb, fun m => m = d ∨ (m ≠ n ∧ p.lv m)⟩ (fun _ => true) (fun m => m != n) :=
    ⟨hg.size, hg.os, hg.tape, hg.output, fun b hb hio => hg.block b (Nat.lt_of_lt_of_le hb R.size) (fun e => by
        rcases hrow with h0 | ⟨h1, h2⟩
        · rw [h0] at e; cases e
        · rcases (R.vlt h1 (h2.symm.trans e.symm)).1 with h3 | h3
          · omega
          · exact hio (.inr h3)),
      fun q hq => World.cell?_of_block (hgr q.block hq.1 hq.2.2.2),
      fun b h => ⟨Nat.lt_of_lt_of_le h.1 hg.size, h.2.1, h.2.2.1, fun m hm => by
        dsimp only at hm ⊢
        by_cases e : m = d
        · subst e; rw [upd_same]
          rcases hblk with h0 | ⟨h1, h2⟩ | h0
          · rw [h0]; simp
          · rw [h2]; exact h.2.2.2 n h1
          · rw [h0]; intro e; cases e; exact Nat.lt_irrefl _ h.1
        · rw [upd_ne _ _ e]; exact h.2.2.2 m (hm.resolve_left e).2⟩,
      fun m _ hm => ⟨hm, rfl⟩, fun m hm hl => ⟨.inr ⟨by simpa using hm, hl⟩, upd_ne _ _ (hlive m (by simpa using hm) hl)⟩⟩
  have hdis : ∀ m g, p.lb m → v'.blk = some g → g ≠ p.bx m := fun m g hm hgv => by
    rcases hblk with h0 | ⟨h1, h2⟩ | h0
    · rw [h0] at hgv; cases hgv
    · intro e; exact R.dbv m n hm h1 (by rw [← h2, hgv, e])
    · rw [h0] at hgv; cases hgv; have := R.blt hm; omega
  have hdv : ∀ m, m ≠ n → p.lv m → v'.blk = none ∨ v'.blk ≠ (p.rw m).blk := fun m hm hl => by
    rcases hblk with h0 | ⟨h1, h2⟩ | h0
    · exact .inl h0
    · rw [h2]; exact R.dvv n m h1 hl (Ne.symm hm)
    · right; rw [h0]; intro e; have := (R.vlt hl e.symm).2; omega
  have hscrub : ∀ x, AV.scrub n x = .undef ∨ (AV.scrub n x = x ∧ x.wf (fun _ => true) (fun m => m != n) = true) := fun x => by
    unfold AV.scrub; split
    · exact .inr ⟨rfl, ‹_›⟩
    · exact .inl rfl
  exact {
    lb := by
      funext m
      simp only [St.lb, get_mapv, Option.isSome_map]
      rw [R.lb]; rfl
    lv := by
      funext m
      simp only [St.lv, get, eq_iff_iff]
      by_cases e : d = m
      · simp [e]
      · rw [if_neg e, get_del]
        by_cases e' : n = m
        · simp [e', Ne.symm e]
        · rw [if_neg e']
          have := R.lvi m
          simp only [St.lv] at this
          simp [Ne.symm e, Ne.symm e', this]
    dfr := R.dfr
    nt := R.nt
    ntl := R.ntl
    ion := R.ion
    size := Nat.le_trans R.size E.size
    os := E.os.trans R.os
    tape := E.tape.trans R.tape
    output := E.output.trans R.output
    old := fun b hb hi => (E.old b hb hi).trans (R.old b hb hi)
    env := fun t y h => by
      obtain ⟨x, hx, rfl⟩ := get_map_some h
      rcases hscrub x with h0 | ⟨h0, hw⟩
      · rw [h0]; exact .undef
      · rw [h0]; exact E.ra (R.env t x hx) hw
    box := fun m cs' h => by
      obtain ⟨cs, hcs, rfl⟩ := get_map_some h
      have hm : p.lb m := (R.lbi m).2 (by simp [St.lb, hcs])
      refine E.box (R.box m cs hcs) rfl (hg.block _ (R.blt hm) (fun e => ?_)) (by simp) (fun i c hc => ?_)
      · rcases hrow with h0 | ⟨h1, h2⟩
        · rw [h0] at e; cases e
        · exact R.dbv m n hm h1 (by rw [← h2]; exact e.symm)
      · rw [List.getElem?_map] at hc
        cases hq : cs[i]? with
        | none => simp [hq] at hc
        | some q =>
          simp [hq] at hc; subst hc
          rcases hscrub q with h0 | ⟨h0, hw⟩
          · exact .inl h0
          · exact .inr ⟨by rw [h0], by rw [h0]; exact hw⟩
    vec := fun m s' h => by
      simp only [get] at h
      split at h
      · rename_i e; subst e; cases h
        exact ⟨by simp only [upd_same]; exact hat _ E.cell E.ok, hz, fun g hgv => by
          simp only [upd_same] at hgv
          rcases hblk with h0 | ⟨h1, h2⟩ | h0
          · rw [h0] at hgv; cases hgv
          · exact (R.vlt h1 (h2.symm.trans hgv)).1
          · rw [h0] at hgv; cases hgv; exact .inl R.size⟩
      · rename_i e
        rw [get_del] at h
        split at h
        · cases h
        · rename_i e'
          have hl : p.lv m := (R.lvi m).2 (by simp [St.lv, h])
          exact E.vec (R.vec m s' h) (upd_ne _ _ (Ne.symm e)) (fun g hgm => hother m g (Ne.symm e') hl hgm)
    dbb := R.dbb
    dbv := fun m k hm hk => by
      dsimp only at hm hk ⊢
      by_cases e : k = d
      · subst e; rw [upd_same]; intro hgv; exact hdis m _ hm hgv rfl
      · rw [upd_ne _ _ e]; exact R.dbv m k hm (hk.resolve_left e).2
    dvv := fun m k hm hk hmk => by
      dsimp only at hm hk ⊢
      by_cases e : m = d
      · subst e
        rw [upd_same, upd_ne _ _ (Ne.symm hmk)]
        have := hk.resolve_left (Ne.symm hmk)
        exact hdv k this.1 this.2
      · by_cases e' : k = d
        · subst e'
          rw [upd_same, upd_ne _ _ e]
          have := hm.resolve_left e
          rcases hdv m this.1 this.2 with h0 | h0
          · by_cases hn : (p.rw m).blk = none
            · exact .inl hn
            · right; rw [h0]; exact hn
          · exact .inr (Ne.symm h0)
        · rw [upd_ne _ _ e, upd_ne _ _ e']; exact R.dvv m k (hm.resolve_left e).2 (hk.resolve_left e').2 hmk }

/-- A box's cells are written. -/
theorem Rel.setBox (R : Rel K st a w p) {n : Nat} {cs cs' : List AV} {vs vs' : Array Value} {ty : TypeId} (hn : get st.box n = some cs) (hh : w.heap[p.bx n]? = some (.cells vs ty (0, 0))) (hl : vs'.size = cs'.length)
    (hr : ∀ (i : Nat) (c : AV) (v : Value), cs'[i]? = some c → vs'[i]? = some v → RA w (okc K w p) p c v) (h1 : ∀ (i : Nat) (v : Value), vs'[i]? = some v → v.oneCell' = true) :
    Rel K { st with box := (n, cs') :: st.box } a (w.setRow (p.bx n) vs') p := by
  have hnl : p.lb n := (R.lbi n).2 (by simp [St.lb, hn])
  have E : Evo K w (w.setRow (p.bx n) vs') p p (fun _ => true) (fun _ => true) :=
    ⟨by simp, rfl, rfl, rfl, fun b hb hi => setRow_other w _ b _ (fun e => by
        rcases (R.box n cs hn).mine with h0 | h0
        · omega
        · exact hi (e ▸ h0)),
      fun q hq => cell_setRow_other w _ _ q (hq.2.2.1 n hnl), fun b h => ⟨by simpa using h.1, h.2⟩, fun _ _ h => ⟨h, rfl⟩, fun _ _ h => ⟨h, rfl⟩⟩
  exact {
    lb := by
      funext m
      simp only [St.lb, get, eq_iff_iff]
      have := R.lbi m
      by_cases e : n = m
      · subst e; simp [hnl]
      · simp only [if_neg e, this, St.lb]
    lv := R.lv
    dfr := R.dfr
    nt := R.nt
    ntl := R.ntl
    ion := R.ion
    size := Nat.le_trans R.size E.size
    os := R.os
    tape := R.tape
    output := R.output
    old := fun b hb hi => (E.old b hb hi).trans (R.old b hb hi)
    env := fun t x h => E.ra (R.env t x h) (wf_true x)
    box := fun m cs2 h => by
      simp only [get] at h
      split at h
      · rename_i e; subst e; cases h
        exact ⟨⟨vs', ty, setRow_heap w _ vs vs' ty _ hh, hl, fun i c v hc hv => E.ra (hr i c v hc hv) (wf_true c), h1⟩, (R.box n cs hn).mine⟩
      · rename_i e
        have hm : p.lb m := (R.lbi m).2 (by simp [St.lb, h])
        exact E.box (R.box m cs2 h) rfl (setRow_other w _ _ _ (R.dbb m n hm hnl (Ne.symm e))) rfl (fun i c hc => .inr ⟨hc, wf_true c⟩)
    vec := fun m s h => E.vec (R.vec m s h) rfl (fun g hg => setRow_other w _ _ _ (fun e => R.dbv n m hnl ((R.lvi m).2 (by simp [St.lv, h])) (by rw [hg, e])))
    dbb := R.dbb
    dbv := R.dbv
    dvv := R.dvv }

theorem Rel.setVec (R : Rel K st a w p) {n d : Nat} {w' : World} {v' : Value} {s : VS} {xs : List Value} {row : Option Nat} (hM : s.isM = false) (hd : get (del st.vec n) d = none) (hg : w.grownBy w' row) (hrow : row = none ∨ (p.lv n ∧ row = (p.rw n).blk))
    (hown : w'.ownsRow 0 s.e s.z v' s.rows.length xs) (hz : ∀ r ∈ s.rows, r.length = s.z) (hrd : ∀ (j : Nat) (x : D) (v : Value), s.rows.flatten[j]? = some x → xs[j]? = some v → RD w (okc K w p) x v)
    (hblk : v'.blk = none ∨ (p.lv n ∧ v'.blk = (p.rw n).blk) ∨ v'.blk = some w.heap.size) :
    Rel K { nt := st.nt, env := mapv (AV.scrub n) st.env, box := mapv (List.map (AV.scrub n)) st.box, vec := (d, s) :: del st.vec n } a w' ⟨p.bx, upd p.rw d v', p.lb, fun m => m = d ∨ (m ≠ n ∧ p.lv m)⟩ :=
  R.setVecG hd hg hrow (fun _ h1 h2 => .of hM ⟨xs, hown, fun j x v hx hv => (hrd j x v hx hv).mono h1 h2⟩) hz hblk

/-- What lies at a name is turned in its place. -/
theorem Rel.setIn (R : Rel K st a w p) {n : Nat} {s s' : VS} {g : Nat} {w' : World} (hn : get st.vec n = some s) (hgb : (p.rw n).blk = some g) (hg : w.grownBy w' (some g)) (hz : ∀ r ∈ s'.rows, r.length = s'.z)
    (hat : ∀ ok' : Nat → Prop, (∀ q : Addr, okc K w p q.block → w'.cell? q = w.cell? q) → (∀ b, okc K w p b → ok' b) → VRow w' ok' s' (p.rw n)) :
    Rel K { st with vec := (n, s') :: st.vec } a w' p := by
  have hnl : p.lv n := (R.lvi n).2 (by simp [St.lv, hn])
  have hother : ∀ b, b < w.heap.size → b ≠ g → w'.heap[b]? = w.heap[b]? := fun b hb e => hg.block b hb (fun e' => e (Option.some.inj e'))
  have E : Evo K w w' p p (fun _ => true) (fun _ => true) :=
    ⟨hg.size, hg.os, hg.tape, hg.output, fun b hb hi => hother b (Nat.lt_of_lt_of_le hb R.size) (fun e => by
        rcases (R.vlt hnl hgb).1 with h3 | h3
        · omega
        · exact hi (.inr (by rw [e]; exact h3))),
      fun q hq => World.cell?_of_block (hother q.block hq.1 (fun e => hq.2.2.2 n hnl (by rw [hgb, e]))), fun b h => ⟨Nat.lt_of_lt_of_le h.1 hg.size, h.2⟩, fun _ _ h => ⟨h, rfl⟩, fun _ _ h => ⟨h, rfl⟩⟩
  exact {
    lb := R.lb
    lv := by
      funext m
      simp only [St.lv, get, eq_iff_iff]
      have := R.lvi m
      by_cases e : n = m
      · subst e; simp [hnl]
      · simp only [if_neg e, this, St.lv]
    dfr := R.dfr
    nt := R.nt
    ntl := R.ntl
    ion := R.ion
    size := Nat.le_trans R.size E.size
    os := E.os.trans R.os
    tape := E.tape.trans R.tape
    output := E.output.trans R.output
    old := fun b hb hi => (E.old b hb hi).trans (R.old b hb hi)
    env := fun t x h => E.ra (R.env t x h) (wf_true x)
    box := fun m cs h => by
      have hm : p.lb m := (R.lbi m).2 (by simp [St.lb, h])
      exact E.box (R.box m cs h) rfl (hother _ (R.blt hm) (fun e => R.dbv m n hm hnl (by rw [hgb, e]))) rfl (fun i c hc => .inr ⟨hc, wf_true c⟩)
    vec := fun m s2 h => by
      simp only [get] at h
      split at h
      · rename_i e; subst e; cases h
        exact ⟨hat _ E.cell E.ok, hz, (R.vec n s hn).mine⟩
      · rename_i e
        have hm : p.lv m := (R.lvi m).2 (by simp [St.lv, h])
        exact E.vec (R.vec m s2 h) rfl (fun g' hg' => hother g' (R.vlt hm hg').2 (fun e' => by
          rcases R.dvv m n hm hnl (Ne.symm e) with h0 | h0
          · rw [h0] at hg'; cases hg'
          · exact h0 (by rw [hg', hgb, e'])))
    dbb := R.dbb
    dbv := R.dbv
    dvv := R.dvv }

/-- An owned row's elements are written. -/
theorem Rel.setRows (R : Rel K st a w p) {n : Nat} {s : VS} {rows' : List (List D)} {g c len : Nat} {cur' : Array Value} {xs' : List Value} (hn : get st.vec n = some s) (hv : p.rw n = .slice (some ⟨g, 0, none⟩) len c)
    (hl : rows'.length = s.rows.length) (hz : ∀ r ∈ rows', r.length = s.z) (hown : (w.setRow g cur').ownsRow 0 s.e s.z (p.rw n) s.rows.length xs')
    (hrd : ∀ (j : Nat) (x : D) (v : Value), rows'.flatten[j]? = some x → xs'[j]? = some v → RD w (okc K w p) x v) :
    Rel K { st with vec := (n, { s with rows := rows' }) :: st.vec } a (w.setRow g cur') p := by
  have hnl : p.lv n := (R.lvi n).2 (by simp [St.lv, hn])
  have hgb : (p.rw n).blk = some g := by rw [hv]; rfl
  have E : Evo K w (w.setRow g cur') p p (fun _ => true) (fun _ => true) :=
    ⟨by simp, rfl, rfl, rfl, fun b hb hi => setRow_other w _ b _ (fun e => by
        rcases (R.vlt hnl hgb).1 with h3 | h3
        · omega
        · exact hi (.inr (by rw [e]; exact h3))),
      fun q hq => cell_setRow_other w _ _ q (fun e => hq.2.2.2 n hnl (by rw [hgb, e])), fun b h => ⟨by simpa using h.1, h.2⟩, fun _ _ h => ⟨h, rfl⟩, fun _ _ h => ⟨h, rfl⟩⟩
  exact {
    lb := R.lb
    lv := by
      funext m
      simp only [St.lv, get, eq_iff_iff]
      have := R.lvi m
      by_cases e : n = m
      · subst e; simp [hnl]
      · simp only [if_neg e, this, St.lv]
    dfr := R.dfr
    nt := R.nt
    ntl := R.ntl
    ion := R.ion
    size := Nat.le_trans R.size E.size
    os := R.os
    tape := R.tape
    output := R.output
    old := fun b hb hi => (E.old b hb hi).trans (R.old b hb hi)
    env := fun t x h => E.ra (R.env t x h) (wf_true x)
    box := fun m cs h => E.box (R.box m cs h) rfl (setRow_other w _ _ _ (fun e => R.dbv m n ((R.lbi m).2 (by simp [St.lb, h])) hnl (by rw [hgb, e]))) rfl (fun i c hc => .inr ⟨hc, wf_true c⟩)
    vec := fun m s2 h => by
      simp only [get] at h
      split at h
      · rename_i e; subst e; cases h
        exact ⟨.of ((R.vec n s hn).at_.sl hv) ⟨xs', by rw [hl]; exact hown, fun j x v hx hv => E.rd (hrd j x v hx hv)⟩, hz, (R.vec n s hn).mine⟩
      · rename_i e
        have hm : p.lv m := (R.lvi m).2 (by simp [St.lv, h])
        exact E.vec (R.vec m s2 h) rfl (fun g' hg' => setRow_other w _ _ _ (fun e' => by
          rcases R.dvv m n hm hnl (Ne.symm e) with h0 | h0
          · rw [h0] at hg'; cases hg'
          · exact h0 (by rw [hg', hgb, e'])))
    dbb := R.dbb
    dbv := R.dbv
    dvv := R.dvv }

end

/-! Freezing -/
mutual
def AV.frz (n : Nat) (rows : List (List D)) : AV → AV
  | .vec m => if m = n then .d (.slice rows) else .vec m
  | .vptr m z i o => if m = n then .undef else .vptr m z i o
  | .cut m z lo k => if m = n then .undef else .cut m z lo k
  | .agg l => .agg (AV.frzL n rows l)
  | .tup l => .tup (AV.frzL n rows l)
  | .fn f l => .fn f (AV.frzL n rows l)
  | x => x
def AV.frzL (n : Nat) (rows : List (List D)) : List AV → List AV
  | [] => []
  | x :: l => AV.frz n rows x :: AV.frzL n rows l
end
theorem frzL_eq (n : Nat) (rows : List (List D)) : ∀ l : List AV, AV.frzL n rows l = l.map (AV.frz n rows)
  | [] => rfl
  | x :: l => by simp [AV.frzL, frzL_eq n rows l]

theorem own_rd {w : World} {ok ok' : Nat → Prop} {base : Nat} {e : TypeId} {z : Nat} {v : Value} {rows : List (List D)} {xs : List Value} (h : w.ownsRow base e z v rows.length xs) (hz : ∀ r ∈ rows, r.length = z)
    (hrd : ∀ (j : Nat) (d : D) (v : Value), rows.flatten[j]? = some d → xs[j]? = some v → RD w ok d v) (hok : ∀ b, ok b → ok' b) (hb : ∀ g, v.blk = some g → ok' g) : RD w ok' (.slice rows) v := by
  rcases h.2 with ⟨rfl, h0⟩ | ⟨g, cap, cur, rfl, _, hg, hn, hm, hs, hx⟩
  · have : rows = [] := List.eq_nil_of_length_eq_zero h0
    subst this; exact .snil
  · obtain ⟨_, hc⟩ := own_cells h
    have hfl : rows.flatten.length = rows.length * z := flat_len hz
    refine .slice z (fun j => xs.getD j undef) hz (hb g rfl) hn (fun j hj => ?_) (fun j d hd => ?_)
    · rw [add_blk, Nat.zero_add, (hc j (by omega)).1]
      have : j < xs.length := by rw [h.1]; omega
      simp [List.getD, List.getElem?_eq_getElem this]
    · have hj : j < xs.length := by have := (List.getElem?_eq_some_iff.1 hd).1; rw [h.1]; omega
      exact (hrd j d _ hd (by simp [List.getD, List.getElem?_eq_getElem hj])).mono (fun _ _ => rfl) hok

theorem RA.frz {w : World} {ok ok' : Nat → Prop} {p p' : Pl} {n : Nat} {rows : List (List D)} (ho : ∀ b, ok b → ok' b) (hb : ∀ m, p.lb m → p'.lb m ∧ p'.bx m = p.bx m) (hv : ∀ m, m ≠ n → p.lv m → p'.lv m ∧ p'.rw m = p.rw m)
    (hn : RD w ok' (.slice rows) (p.rw n)) {x : AV} {v : Value} (h : RA w ok p x v) : RA w ok' p' (x.frz n rows) v := by
  induction h with
  | undef => simp only [AV.frz]; exact .undef
  | d h => simp only [AV.frz]; exact .d (h.mono (fun _ _ => rfl) ho)
  | nilS => simp only [AV.frz]; exact .nilS
  | full h => simp only [AV.frz]; exact .full (h.mono (fun _ _ => rfl) ho)
  | agg hl _ h1 ih =>
    simp only [AV.frz, frzL_eq]
    refine .agg (by simpa using hl) (fun i a v ha hv' => ?_) h1
    simp only [List.getElem?_map, Option.map_eq_some_iff] at ha
    obtain ⟨q, hq, rfl⟩ := ha
    exact ih i q v hq hv'
  | tup hl _ ih =>
    simp only [AV.frz, frzL_eq]
    refine .tup (by simpa using hl) (fun i a v ha hv' => ?_)
    simp only [List.getElem?_map, Option.map_eq_some_iff] at ha
    obtain ⟨q, hq, rfl⟩ := ha
    exact ih i q v hq hv'
  | ptr hm => obtain ⟨h1, h2⟩ := hb _ hm; simp only [AV.frz, ← h2]; exact .ptr h1
  | cptr vs hok hcell h => simp only [AV.frz]; exact .cptr vs (ho _ hok) hcell (fun j x hx => (h j x hx).mono (fun _ _ => rfl) ho)
  | vec hm =>
    simp only [AV.frz]
    split
    · subst_vars; exact .d hn
    · obtain ⟨h1, h2⟩ := hv _ ‹_› hm; rw [← h2]; exact .vec h1
  | vptr hm he =>
    simp only [AV.frz]
    split
    · exact .undef
    · obtain ⟨h1, h2⟩ := hv _ ‹_› hm; exact .vptr h1 (h2.trans he)
  | cut hm he ho hle =>
    simp only [AV.frz]
    split
    · exact .undef
    · obtain ⟨h1, h2⟩ := hv _ ‹_› hm; exact .cut h1 (h2.trans he) ho hle
  | cut0 hm he =>
    simp only [AV.frz]
    split
    · exact .undef
    · obtain ⟨h1, h2⟩ := hv _ ‹_› hm; exact .cut0 h1 (h2.trans he)
  | slen => simp only [AV.frz]; exact .slen
  | fn hl _ ih =>
    simp only [AV.frz, frzL_eq]
    refine .fn (by simpa using hl) (fun i a v ha hv' => ?_)
    simp only [List.getElem?_map, Option.map_eq_some_iff] at ha
    obtain ⟨q, hq, rfl⟩ := ha
    exact ih i q v hq hv'

def St.frz (st : St) (n : Nat) : St :=
  match get st.vec n with
  | some s => if s.isM = true then st else { nt := st.nt, env := mapv (AV.frz n s.rows) st.env, box := mapv (List.map (AV.frz n s.rows)) st.box, vec := del st.vec n }
  | none => st

section
variable {K : Ctx} {st : St} {a : Act} {w : World} {p : Pl}
theorem Rel.frz (R : Rel K st a w p) (n : Nat) : ∃ p', Rel K (st.frz n) a w p' ∧ (∀ b, okc K w p b → okc K w p' b) ∧ p'.bx = p.bx ∧ p'.lb = p.lb ∧ ((∃ s, get st.vec n = some s ∧ s.isM = true) ∨ ∀ g, p.lv n → (p.rw n).blk = some g → okc K w p' g) := by
  unfold St.frz
  cases hs : get st.vec n with
  | none => exact ⟨p, R, fun _ h => h, rfl, rfl, .inr fun g hl _ => by have := (R.lvi n).1 hl; simp [St.lv, hs] at this⟩
  | some s =>
    cases hM : s.isM with
    | true => exact ⟨p, by simpa [hM] using R, fun _ h => h, rfl, rfl, .inl ⟨s, rfl, hM⟩⟩
    | false =>
    simp only [hM, Bool.false_eq_true, if_false]
    have hnl : p.lv n := (R.lvi n).2 (by simp [St.lv, hs])
    let p' : Pl := ⟨p.bx, p.rw, p.lb, fun m => m ≠ n ∧ p.lv m⟩
    have hok : ∀ b, okc K w p b → okc K w p' b := fun b h => ⟨h.1, h.2.1, h.2.2.1, fun m hm => h.2.2.2 m hm.2⟩
    obtain ⟨hat, hz, hmine⟩ := R.vec n s hs
    obtain ⟨xs, hown, hrd⟩ := hat.row hM
    have hgk : ∀ g, (p.rw n).blk = some g → okc K w p' g := fun g hg => ⟨(R.vlt hnl hg).2, .inr (R.vlt hnl hg).1, fun m hm e => R.dbv m n hm hnl (by rw [hg, e]), fun m hm e => by
      rcases R.dvv m n hm.2 hnl hm.1 with h0 | h0
      · rw [h0] at e; cases e
      · exact h0 (by rw [e, hg])⟩
    have hd : RD w (okc K w p') (.slice s.rows) (p.rw n) := own_rd hown hz hrd hok hgk
    have key : ∀ {x : AV} {v : Value}, RA w (okc K w p) p x v → RA w (okc K w p') p' (x.frz n s.rows) v := fun h => h.frz (p := p) (p' := p') hok (fun m hm => ⟨hm, rfl⟩) (fun m hm hl => ⟨⟨hm, hl⟩, rfl⟩) hd
    refine ⟨p', ?_, hok, rfl, rfl, .inr fun g _ hg => hgk g hg⟩
    exact {
      lb := by funext m; simp only [St.lb, get_mapv, Option.isSome_map]; show p.lb m = _; rw [R.lb]; rfl
      lv := by
        funext m
        simp only [St.lv, get_del, eq_iff_iff]
        show (m ≠ n ∧ p.lv m) ↔ _
        by_cases e : n = m
        · simp [e]
        · rw [if_neg e]; have := R.lvi m; simp only [St.lv] at this; simp [Ne.symm e, this]
      dfr := R.dfr
      nt := R.nt
      ntl := R.ntl
      ion := R.ion
      size := R.size
      os := R.os
      tape := R.tape
      output := R.output
      old := R.old
      env := fun t y h => by obtain ⟨x, hx, rfl⟩ := get_map_some h; exact key (R.env t x hx)
      box := fun m cs' h => by
        obtain ⟨cs, hcs, rfl⟩ := get_map_some h
        obtain ⟨⟨vs, ty, h1, h2, h3, h4⟩, h5⟩ := R.box m cs hcs
        refine ⟨⟨vs, ty, h1, by simpa using h2, fun i c v hc hv => ?_, h4⟩, h5⟩
        rw [List.getElem?_map] at hc
        cases hq : cs[i]? with
        | none => simp [hq] at hc
        | some q => simp [hq] at hc; subst hc; exact key (h3 i q v hq hv)
      vec := fun m s' h => by
        rw [get_del] at h
        split at h
        · cases h
        · obtain ⟨h1, h3, h4⟩ := R.vec m s' h
          exact ⟨h1.mono (fun _ _ => rfl) hok (fun _ _ => rfl), h3, h4⟩
      dbb := R.dbb
      dbv := fun m k hm hk => R.dbv m k hm hk.2
      dvv := fun m k hm hk => R.dvv m k hm.2 hk.2 }
end
end Go.Vl
