/- The value logic: the context laid anew at a region's start, so that what stays is known; regions whose orders are listed. Conditions: none. -/
import Derived.Test.YtclmnpkhopioiaaVlY
import Derived.Test.YtclmnpkhopioiaaVlQ
set_option linter.unusedSimpArgs false
set_option linter.unusedVariables false
namespace Go.Vl
open Go Go.RowKit
section
variable {P : Program} {K : Ctx} {st st' : St} {a : Act} {w : World} {p : Pl} {ops : Array Oper} {Q : Exit → St → Prop}

open Classical in
noncomputable def iosHere (K : Ctx) (w : World) (p : Pl) : List Nat := K.ios.map fun b => if ∃ n, p.lb n ∧ p.bx n = b then b else w.heap.size
/-- the context that begins here -/
noncomputable def Ctx.here (K : Ctx) (st : St) (w : World) (p : Pl) : Ctx :=
  ⟨w, okc K w p, iosHere K w p, (st.box.map fun q => p.bx q.1).filter (fun b => !(iosHere K w p).contains b) ++ st.vec.filterMap fun q => (p.rw q.1).ownBlock⟩

theorem get_mem {α : Type} : ∀ {l : List (Nat × α)} {n : Nat} {x : α}, get l n = some x → ∃ q ∈ l, q.1 = n
  | [], _, _, h => by simp [get] at h
  | (m, y) :: l, n, x, h => by
    simp only [get] at h
    split at h
    · rename_i e; exact ⟨(m, y), by simp, e⟩
    · obtain ⟨q, hq, e⟩ := get_mem h; exact ⟨q, by simp [hq], e⟩
theorem mem_get {α : Type} : ∀ {l : List (Nat × α)} {q : Nat × α}, q ∈ l → (get l q.1).isSome = true
  | (m, y) :: l, q, h => by
    simp only [get]
    split
    · rfl
    · rcases List.mem_cons.1 h with rfl | h
      · rename_i e; exact absurd rfl e
      · exact mem_get h

theorem okc_here {b : Nat} (h : okc K w p b) : okc (K.here st w p) w p b := ⟨h.1, .inl h, h.2.2.1, h.2.2.2⟩

theorem Rel.here (R : Rel K st a w p) : Rel (K.here st w p) st a w p := {
  lb := R.lb
  lv := R.lv
  dfr := R.dfr
  nt := R.nt
  ntl := R.ntl
  ion := fun i hi => by
    have h1 := R.ion i hi
    have hs : ∃ n, p.lb n ∧ p.bx n = p.bx (InO i) := ⟨_, hi, rfl⟩
    simp only [Ctx.here, iosHere, List.getElem?_map, h1, Option.map_some, if_pos hs]
  size := Nat.le_refl _
  os := rfl
  tape := rfl
  output := rfl
  old := fun _ _ _ => rfl
  env := fun t x h => (R.env t x h).mono (fun _ _ => rfl) (fun _ h => okc_here h) (fun _ h => ⟨h, rfl⟩) (fun _ h => ⟨h, rfl⟩)
  box := fun n cs h => by
    obtain ⟨⟨vs, ty, h1, h2, h3, h4⟩, h5⟩ := R.box n cs h
    refine ⟨⟨vs, ty, h1, h2, fun i c v hc hv => (h3 i c v hc hv).mono (fun _ _ => rfl) (fun _ h => okc_here h) (fun _ h => ⟨h, rfl⟩) (fun _ h => ⟨h, rfl⟩), h4⟩, .inr ?_⟩
    by_cases hi : p.bx n ∈ iosHere K w p
    · exact .inl hi
    · refine .inr ?_
      obtain ⟨q, hq, e⟩ := get_mem h
      simp only [Ctx.here, List.mem_append, List.mem_filter, List.mem_map]
      exact .inl ⟨⟨q, hq, by rw [e]⟩, by simpa using hi⟩
  vec := fun n s h => by
    obtain ⟨⟨xs, h1, h2⟩, h3, h4⟩ := R.vec n s h
    refine ⟨⟨xs, h1, fun j d v hd hv => (h2 j d v hd hv).mono (fun _ _ => rfl) (fun _ h => okc_here h)⟩, h3, fun g hg => .inr ?_⟩
    obtain ⟨q, hq, e⟩ := get_mem h
    simp only [Ctx.here, List.mem_append, List.mem_filterMap]
    exact .inr ⟨q, hq, by rw [e]; exact hg⟩
  dbb := R.dbb
  dbv := R.dbv
  dvv := R.dvv }

/-- what may be written from here on is what lives here -/
theorem here_io (R : Rel K st a w p) {b : Nat} (hb : b < w.heap.size) (h : (K.here st w p).io b) : (∃ n, p.lb n ∧ p.bx n = b) ∨ ∃ n, p.lv n ∧ (p.rw n).ownBlock = some b := by
  rcases h with h | h
  · simp only [Ctx.here, iosHere, List.mem_map] at h
    obtain ⟨i, _, e⟩ := h
    split at e
    · rename_i hx; subst e; exact .inl hx
    · omega
  · simp only [Ctx.here, List.mem_append, List.mem_filter, List.mem_map, List.mem_filterMap] at h
    rcases h with ⟨⟨q, hq, e⟩, _⟩ | ⟨q, hq, e⟩
    · exact .inl ⟨q.1, (R.lbi _).2 (mem_get hq), e⟩
    · exact .inr ⟨q.1, (R.lvi _).2 (mem_get hq), e⟩

theorem here_agree (R : Rel K st a w p) {st2 : St} {a2 : Act} {w2 : World} {p2 : Pl} (R2 : Rel (K.here st w p) st2 a2 w2 p2) : Agree K p w w2 := fun q hq => by
  refine World.cell?_of_block (R2.old q.block hq.1 fun h => ?_)
  rcases here_io R hq.1 h with ⟨n, h1, h2⟩ | ⟨n, h1, h2⟩
  · exact hq.2.2.1 n h1 h2.symm
  · exact hq.2.2.2 n h1 h2

/-- back to the old context -/
theorem here_back (R : Rel K st a w p) {st2 : St} {a2 : Act} {w2 : World} {p2 : Pl} (R2 : Rel (K.here st w p) st2 a2 w2 p2) (hio : ∀ i, st2.lb (InO i) = true → st.lb (InO i) = true) : Rel K st2 a2 w2 p2 := by
  have hin : ∀ {b : Nat}, (∃ n, p.lb n ∧ p.bx n = b) → b ∈ K.ios → b ∈ iosHere K w p := fun {b} hx hb => by
    simp only [iosHere, List.mem_map]
    exact ⟨b, hb, if_pos hx⟩
  have hblk : ∀ {b : Nat}, b ∈ (K.here st w p).ivs → K.w0.heap.size ≤ b ∨ b ∈ K.ivs := fun {b} h1 => by
    simp only [Ctx.here, List.mem_append, List.mem_filter, List.mem_map, List.mem_filterMap] at h1
    rcases h1 with ⟨⟨q, hq, e⟩, hn⟩ | ⟨q, hq, e⟩
    · obtain ⟨cs, hcs⟩ := Option.isSome_iff_exists.1 (mem_get hq)
      subst e
      rcases (R.box q.1 cs hcs).mine with h | h | h
      · exact .inl h
      · have := hin ⟨q.1, (R.lbi _).2 (mem_get hq), rfl⟩ h
        simp [this] at hn
      · exact .inr h
    · obtain ⟨s, hs⟩ := Option.isSome_iff_exists.1 (mem_get hq)
      exact (R.vec q.1 s hs).mine b e
  have hios : ∀ {b : Nat}, b ∈ (K.here st w p).ios → b ∈ K.ios ∨ w.heap.size ≤ b := fun {b} h1 => by
    simp only [Ctx.here, iosHere, List.mem_map] at h1
    obtain ⟨c, hc, e⟩ := h1
    split at e
    · exact .inl (e ▸ hc)
    · exact .inr (by omega)
  have hbk : ∀ {b : Nat}, okc (K.here st w p) w2 p2 b → okc K w2 p2 b := fun {b} h => ⟨h.1, by
    rcases h.2.1 with h1 | h1 | h1
    · exact h1.2.1
    · exact .inr (.inl (Nat.le_trans R.size h1))
    · exact .inr (hblk h1), h.2.2.1, h.2.2.2⟩
  have hm : ∀ {b : Nat}, (w.heap.size ≤ b ∨ (K.here st w p).io b) → K.w0.heap.size ≤ b ∨ K.io b := fun {b} h => by
    rcases h with h | h | h
    · exact .inl (Nat.le_trans R.size h)
    · rcases hios h with h | h
      · exact .inr (.inl h)
      · exact .inl (Nat.le_trans R.size h)
    · exact (hblk h).imp id .inr
  exact {
    lb := R2.lb
    lv := R2.lv
    dfr := R2.dfr
    nt := R2.nt
    ntl := R2.ntl
    ion := fun i hi => by
      have h1 := R2.ion i hi
      have h2 := R.ion i ((R.lbi _).2 (hio i ((R2.lbi _).1 hi)))
      have hs : ∃ n, p.lb n ∧ p.bx n = p.bx (InO i) := ⟨_, (R.lbi _).2 (hio i ((R2.lbi _).1 hi)), rfl⟩
      simp only [Ctx.here, iosHere, List.getElem?_map, h2, Option.map_some, if_pos hs] at h1
      rw [h2, h1]
    size := Nat.le_trans R.size R2.size
    os := R2.os.trans R.os
    tape := R2.tape.trans R.tape
    output := R2.output.trans R.output
    old := fun b hb hn => by
      refine (R2.old b (Nat.lt_of_lt_of_le hb R.size) (fun h => ?_)).trans (R.old b hb hn)
      rcases hm (.inr h) with h | h
      · omega
      · exact hn h
    env := fun t x h => (R2.env t x h).mono (fun _ _ => rfl) (fun _ h => hbk h) (fun _ h => ⟨h, rfl⟩) (fun _ h => ⟨h, rfl⟩)
    box := fun n cs h => by
      obtain ⟨⟨vs, ty, h1, h2, h3, h4⟩, h5⟩ := R2.box n cs h
      exact ⟨⟨vs, ty, h1, h2, fun i c v hc hv => (h3 i c v hc hv).mono (fun _ _ => rfl) (fun _ h => hbk h) (fun _ h => ⟨h, rfl⟩) (fun _ h => ⟨h, rfl⟩), h4⟩, hm h5⟩
    vec := fun n s h => by
      obtain ⟨⟨xs, h1, h2⟩, h3, h4⟩ := R2.vec n s h
      refine ⟨⟨xs, h1, fun j d v hd hv => (h2 j d v hd hv).mono (fun _ _ => rfl) (fun _ h => hbk h)⟩, h3, fun g hg => ?_⟩
      rcases h4 g hg with h | h
      · exact .inl (Nat.le_trans R.size h)
      · exact hblk h
    dbb := R2.dbb
    dbv := R2.dbv
    dvv := R2.dvv }

theorem here_agree' (R : Rel K st a w p) {st2 : St} {a2 : Act} {w2 : World} {p2 : Pl} (R2 : Rel (K.here st w p) st2 a2 w2 p2) : Agree (K.here st w p) p w w2 := fun q hq => by
  refine World.cell?_of_block (R2.old q.block hq.1 fun h => ?_)
  rcases here_io R hq.1 h with ⟨n, h1, h2⟩ | ⟨n, h1, h2⟩
  · exact hq.2.2.1 n h1 h2.symm
  · exact hq.2.2.2 n h1 h2

theorem a_nil {S : World → Prop} {F : Exit → Act → World → Prop} {fuel : Nat} {listed : Array Bool} (hr : Region.ready .any ops listed = []) (h : ∀ a w p, Rel K st a w p → F .normal a w) : AOps P K ops S F fuel listed st :=
  fun a w p R => wpAnyH_done hr (h a w p R) fuel
theorem a_alt {S : World → Prop} {F : Exit → Act → World → Prop} {fuel : Nat} {listed : Array Bool} {rs : List Nat} (hr : Region.ready .any ops listed = rs) (hne : rs ≠ []) (hS : ∀ st a w p, Rel K st a w p → S w)
    (h : ∀ i ∈ rs, ∃ o st', ops[i]? = some o ∧ OpR P K ops o st st' ∧ AOps P K ops S F fuel (listed.setIfInBounds i true) st') : AOps P K ops S F (fuel + 1) listed st :=
  fun a w p R => wpAnyH_all hr hne fun i hi => by
    obtain ⟨o, st', h1, h2, h3⟩ := h i hi
    exact h2.wpOp h1 R fun a' w' p' R' => ⟨hS _ _ _ _ R', h3 a' w' p' R'⟩

/-- A REGION THAT DRAWS ITS ORDER: still operations first, then every order of the others. -/
theorem tr_alts {id : Nat} {l : List Oper} {st1 : St} (is : List Nat) (fuel : Nat) (hm : P.follows .mixedOrders = true) (hB : (Region.noSelect l.toArray && decide (is.length + fuel = l.toArray.size) && takeB l.toArray is (Array.replicate l.toArray.size false)) = true) (hQ : NoPanic Q)
    {ol : List (Option Oper)} (hol : is.map (l.toArray[·]?) = ol) {os : List Oper} (hoo : ol.filterMap (fun x => x) = os) (hos : ol = os.map some) (h' : stillsL P l.toArray os st = some st1)
    (H : ∀ (K' : Ctx) (S : World → Prop) (F : Exit → Act → World → Prop), (∀ st a w p, Rel K' st a w p → S w) → (∀ st2, (∀ i, st2.lb (InO i) = true → st.lb (InO i) = true) → Q .normal st2 → ∀ a w p, Rel K' st2 a w p → F .normal a w) →
      AOps P K' l.toArray S F fuel (listAll is (Array.replicate l.toArray.size false)) st1) : Tr P K (.region id l.toArray true) st Q := by
  have h : stills P l.toArray is st = some st1 := (stills_of (hol.trans hos)).symm.trans h'
  intro a w p R
  simp only [Bool.and_eq_true, decide_eq_true_eq] at hB
  obtain ⟨⟨hs, hn⟩, ht⟩ := hB
  have R1 := R.drew
  have := stills_alt (F := Pst K Q) (fuel := fuel) hs (fun c a w ⟨s, _, _, q⟩ => hQ c s q) is (Array.replicate l.toArray.size false) st a ht R1.here h
    (H _ _ _ (fun st a w p R2 => here_agree' R1 R2) (fun st2 hio q a w p R2 => ⟨st2, p, here_back R1 R2 hio, q⟩))
  rw [hn] at this
  exact wp_region_held hm this
end
end Go.Vl
