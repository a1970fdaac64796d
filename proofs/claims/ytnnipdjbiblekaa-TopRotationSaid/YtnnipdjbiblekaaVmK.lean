/- The value logic, part 11: triples over the code of a function, and its contract. Conditions: none. -/
import Derived.Test.YtnnipdjbiblekaaVmJ
import Derived.Deep.LoopGhost
set_option linter.unusedSimpArgs false
set_option linter.unusedVariables false
namespace Go.Vl
open Go Go.RowKit

/-! Guards, and several steps -/
def gdA (ops : Array Oper) (st : St) (o : Oper) : Option Bool :=
  match o.guard with
  | none => some true
  | some (j, want) => match (ops[j]?).bind (·.dst) with
    | some t => match st.look t with
      | .d (.bool b) => some (b == want)
      | .tup [] => some false
      | _ => none
    | none => none
def runs (P : Program) (ops : Array Oper) : List Oper → St → Option St
  | [], st => some st
  | o :: l, st => match gdA ops st o with
    | some true => (step P st o).bind (runs P ops l)
    | some false => match o.dst with
      | some d => if d < st.nt then runs P ops l (st.put d (.tup [])) else none
      | none => runs P ops l st
    | none => none
/-- as 'runs', for operations that write nothing -/
def vruns (P : Program) (ops : Array Oper) : List Oper → St → Option St
  | [], st => some st
  | o :: l, st => match gdA ops st o with
    | some true => (vput P st o).bind (vruns P ops l)
    | some false => match o.dst with
      | some d => if d < st.nt then vruns P ops l (st.put d (.tup [])) else none
      | none => vruns P ops l st
    | none => none

def Pst (K : Ctx) (Q : Exit → St → Prop) (e : Exit) (a : Act) (w : World) : Prop := ∃ st p, Rel K st a w p ∧ Q e st
def TOps (P : Program) (K : Ctx) (ops : Array Oper) (l : List Oper) (st : St) (Q : Exit → St → Prop) : Prop := ∀ a w p, Rel K st a w p → wpList P ops (Pst K Q) l a w
def Tr (P : Program) (K : Ctx) (c : Code) (st : St) (Q : Exit → St → Prop) : Prop := ∀ a w p, Rel K st a w p → c.wp P (Pst K Q) a w

section
variable {P : Program} {K : Ctx} {st : St} {a : Act} {w : World} {p : Pl} {ops : Array Oper} {Q : Exit → St → Prop}

theorem gd_sound (R : Rel K st a w p) {o : Oper} {b : Bool} (h : gdA ops st o = some b) : Region.wanted o (yielded ops a.tmps) = b := by
  unfold gdA at h
  unfold Region.wanted
  split at h
  · rename_i hg; simp only [hg]; simpa using h
  · rename_i j want hg
    simp only [hg]
    split at h
    · rename_i t ht
      split at h
      · rename_i b' hl
        cases h
        have := R.opd (.tmp t)
        simp only [Vl.opd, hl, Act.eval] at this
        have hv : a.tmps[t]? = some (.bool b') := by
          cases hq : a.tmps[t]? with
          | none =>
            simp only [Array.getD_eq_getD_getElem?, hq, Option.getD_none] at this
            cases this with | d hd => cases hd
          | some v =>
            simp only [Array.getD_eq_getD_getElem?, hq, Option.getD_some] at this
            cases this with | d hd => cases hd with | bool => rfl
        simp only [yielded, ht, Option.bind_some, hv]
        cases b' <;> cases want <;> rfl
      · rename_i hl
        cases h
        have := R.opd (.tmp t)
        simp only [Vl.opd, hl, Act.eval] at this
        have hv : yielded ops a.tmps j = none := by
          simp only [yielded, ht, Option.bind_some]
          cases hq : a.tmps[t]? with
          | none => rfl
          | some v =>
            simp only [Array.getD_eq_getD_getElem?, hq, Option.getD_some] at this
            cases this; rfl
        rw [hv]; rfl
      · cases h
    · cases h

theorem skip_put (R : Rel K st a w p) {o : Oper} {l : List Oper} {st' : St} {f : List Oper → St → Option St} (h : (match o.dst with | some d => if d < st.nt then f l (st.put d (.tup [])) else none | none => f l st) = some st') :
    ∃ st1, Rel K st1 (a.put o.dst undef) w p ∧ f l st1 = some st' := by
  cases hd : o.dst with
  | none => simp only [hd] at h; exact ⟨st, by simpa [Act.put] using R, h⟩
  | some d =>
    simp only [hd] at h
    split at h
    · exact ⟨_, R.put (RA.tup (l := []) (cs := #[]) rfl (fun i a v ha => by simp at ha)) ‹_›, h⟩
    · cases h

theorem tops_nil (h : Q .normal st) : TOps P K ops [] st Q := fun _ _ p R => ⟨st, p, R, h⟩

theorem tops_runs {l : List Oper} (k : Nat) : ∀ {st st1 : St}, runs P ops (l.take k) st = some st1 → TOps P K ops (l.drop k) st1 Q → TOps P K ops l st Q := by
  induction k generalizing l with
  | zero => intro st st1 h H; simp [runs] at h; subst h; simpa using H
  | succ k ih =>
    intro st st1 h H
    cases l with
    | nil => simp [runs] at h; subst h; simpa using H
    | cons o l =>
      simp only [List.take_succ_cons, runs, List.drop_succ_cons] at h H
      intro a w p R
      unfold wpList
      cases hg : gdA ops st o with
      | none => simp [hg] at h
      | some b =>
        rw [gd_sound R hg]
        simp only [hg] at h
        cases b with
        | true =>
          simp only at h
          cases hs : step P st o with
          | none => simp [hs] at h
          | some st2 =>
            simp only [hs, Option.bind_some] at h
            rw [if_pos rfl]
            refine .inl ?_
            obtain ⟨w', p', ⟨v, hr, R'⟩ | ⟨hr, R'⟩⟩ := step_sound R hs
            · unfold Oper.wp; rw [hr]; exact ih h H _ _ _ R'
            · unfold Oper.wp; rw [hr]; exact ih h H _ _ _ R'
        | false =>
          simp only [Bool.false_eq_true, if_false]
          obtain ⟨st2, R2, h2⟩ := skip_put (f := runs P ops) R h
          exact ih h2 H _ _ _ R2

theorem still_vruns : ∀ {l : List Oper} {st st1 : St} {a : Act}, Rel K st a w p → vruns P ops l st = some st1 → wpStill P ops w (fun a' => Rel K st1 a' w p) l a
  | [], st, st1, a, R, h => by simp [vruns] at h; subst h; exact R
  | o :: l, st, st1, a, R, h => by
    simp only [vruns] at h
    unfold wpStill
    cases hg : gdA ops st o with
    | none => simp [hg] at h
    | some b =>
      rw [gd_sound R hg]
      simp only [hg] at h
      cases b with
      | true =>
        simp only at h
        cases hs : vput P st o with
        | none => simp [hs] at h
        | some st2 =>
          simp only [hs, Option.bind_some] at h
          rw [if_pos rfl]
          unfold vput at hs
          cases hv : vstep P st o with
          | none => simp [hv] at hs
          | some x =>
            simp only [hv, Option.bind_some] at hs
            obtain ⟨v, h1, h2⟩ := vstep_sound R hv
            unfold Oper.still
            rw [h1]
            exact ⟨rfl, still_vruns (R.puto h2 hs) h⟩
      | false =>
        simp only [Bool.false_eq_true, if_false]
        obtain ⟨st2, R2, h2⟩ := skip_put (f := vruns P ops) R h
        exact still_vruns R2 h2

/-! Regions -/
theorem tr_region {id : Nat} {l : List Oper} (h : TOps P K l.toArray l st Q) : Tr P K (.region id l.toArray false) st Q := fun a w p R => wp_region_lit (h a w p R)

/-- a region that draws its order and only reads -/
theorem tr_still {id : Nat} {l : List Oper} {st1 : St} (hm : P.follows .mixedOrders = true) (hB : Region.lexB .any l.toArray = true) (h : vruns P l.toArray l st = some st1) (hq : Q .normal st1) : Tr P K (.region id l.toArray true) st Q := by
  intro a w p R
  refine wp_region_still_lit hm hB ?_
  refine wpStill_mono ?_ _ _ (still_vruns R.drew h)
  exact fun a' R' => ⟨st1, p, R', hq⟩
where
  wpStill_mono {ops : Array Oper} {w : World} {Q Q' : Act → Prop} (h : ∀ a, Q a → Q' a) : ∀ (l : List Oper) (a : Act), wpStill P ops w Q l a → wpStill P ops w Q' l a
    | [], a, hh => h a hh
    | o :: l, a, hh => by
      unfold wpStill at hh ⊢
      split
      · rename_i hw; rw [if_pos hw] at hh; exact Oper.still_mono (fun a => wpStill_mono h l a) hh
      · rename_i hw; rw [if_neg hw] at hh; exact wpStill_mono h l _ hh

/-- a region that draws its order: n operations that only read, the others behind them in the text's order -/
theorem tr_tail {id : Nat} {l : List Oper} {st1 : St} (n : Nat) (hm : P.follows .mixedOrders = true) (hB : Region.lexTailB .any l.toArray n = true) (h : vruns P l.toArray (l.take n) st = some st1) (hq : TOps P K l.toArray (l.drop n) st1 Q) :
    Tr P K (.region id l.toArray true) st Q := by
  intro a w p R
  refine wp_region_still_tail n hm hB ?_
  exact tr_still.wpStill_mono (P := P) (fun a' R' => hq a' _ p R') _ _ (still_vruns R.drew h)

/-! Control -/
def thenQ (H : St → Prop) (Q : Exit → St → Prop) : Exit → St → Prop
  | .normal, s => H s
  | e, s => Q e s
def blockQ (id : Nat) (Q : Exit → St → Prop) : Exit → St → Prop
  | .exit id', s => if id' = id then Q .normal s else Q (.exit id') s
  | e, s => Q e s

theorem tr_mono {c : Code} {Q' : Exit → St → Prop} (h : Tr P K c st Q) (hq : ∀ e s, Q e s → Q' e s) : Tr P K c st Q' := fun a w p R => wp_mono (h a w p R) fun e a w ⟨s, p, R, q⟩ => ⟨s, p, R, hq e s q⟩
theorem tops_mono {l : List Oper} {Q' : Exit → St → Prop} (h : TOps P K ops l st Q) (hq : ∀ e s, Q e s → Q' e s) : TOps P K ops l st Q' := by
  intro a w p R
  have := h a w p R
  clear h
  have key : ∀ (l : List Oper) (a : Act) (w : World), wpList P ops (Pst K Q) l a w → wpList P ops (Pst K Q') l a w := by
    intro l
    induction l with
    | nil => exact fun a w ⟨s, p, R, q⟩ => ⟨s, p, R, hq _ s q⟩
    | cons o l ih =>
      intro a w hh
      unfold wpList at hh ⊢
      split
      · rename_i hw
        rw [if_pos hw] at hh
        rcases hh with hh | ⟨h1, a0, w0, s, p, R, q⟩
        · left
          unfold Oper.wp at hh ⊢
          generalize (execOp a.eval o).run P w = r at hh ⊢
          cases r with
          | ok n w' =>
            cases n <;> simp only [Oper.upon] at hh ⊢
            case value v => exact ih _ _ hh
            case skip => exact ih _ _ hh
            case defer d => exact ih _ _ hh
            case enter f args =>
              refine Calls.mono hh fun e w'' he => ?_
              cases e with
              | returned v => exact ih _ _ he
              | panicked c => obtain ⟨s, p, R, q⟩ := he; exact ⟨s, p, R, hq _ s q⟩
              | outgrown => obtain ⟨a0, w0, s, p, R, q⟩ := he; exact ⟨a0, w0, s, p, R, hq _ s q⟩
            case row row args => exact Rows.mono hh fun v w'' he => ih _ _ he
          | halt x w' =>
            cases x <;> simp only [Oper.upon] at hh ⊢
            case panic v => obtain ⟨s, p, R, q⟩ := hh; exact ⟨s, p, R, hq _ s q⟩
        · exact .inr ⟨h1, a0, w0, s, p, R, hq _ s q⟩
      · rename_i hw
        rw [if_neg hw] at hh
        exact ih _ _ hh
  exact key l a w this

theorem tr_seq {x y : Code} (h : Tr P K x st (thenQ (fun s => Tr P K y s Q) Q)) : Tr P K (.seq x y) st Q := fun a w p R =>
  wp_seq (wp_mono (h a w p R) fun e a' w' ⟨s, p', R', q⟩ => by
    cases e with
    | normal => exact q a' w' p' R'
    | _ => exact ⟨s, p', R', q⟩)
theorem tr_skip (h : Q .normal st) : Tr P K .skip st Q := fun _ _ p R => wp_skip ⟨st, p, R, h⟩
theorem tr_ret (h : Q .ret st) : Tr P K .ret st Q := fun _ _ p R => wp_ret ⟨st, p, R, h⟩
theorem tr_exit {id : Nat} (h : Q (.exit id) st) : Tr P K (.exit id) st Q := fun _ _ p R => wp_exit ⟨st, p, R, h⟩
theorem tr_label {l : Nat} (h : Q .normal st) : Tr P K (.label l) st Q := fun _ _ p R => wp_label ⟨st, p, R, h⟩
theorem tr_block {id : Nat} {c : Code} (h : Tr P K c st (blockQ id Q)) : Tr P K (.block id c) st Q := fun a w p R =>
  wp_block (wp_mono (h a w p R) fun e a' w' ⟨s, p', R', q⟩ => by
    cases e with
    | exit id' =>
      unfold blockQ at q
      unfold Exit.inBlock
      by_cases e : id' = id
      · simp only [e, if_true] at q ⊢; exact ⟨s, p', R', q⟩
      · simp only [e, if_false] at q ⊢; exact ⟨s, p', R', q⟩
    | _ => exact ⟨s, p', R', q⟩)
theorem tr_cond {c : Operand} {x y : Code} {b : Bool} (hc : opd st c = .d (.bool b)) (ht : b = true → Tr P K x st Q) (hf : b = false → Tr P K y st Q) : Tr P K (.cond c x y) st Q := fun a w p R => by
  have := R.opd c
  rw [hc] at this
  generalize hv : a.eval c = v at this
  cases this with | d hd => cases hd with | bool =>
  exact wp_cond_split hv (fun h => ht h a w p R) (fun h => hf h a w p R)

theorem tr_weak {c : Code} {st1 : St} (W : Weak st st1) (h : Tr P K c st1 Q) : Tr P K c st Q := fun a w _ R => h a w _ (R.weak W)
theorem tops_weak {l : List Oper} {st1 : St} (W : Weak st st1) (h : TOps P K ops l st1 Q) : TOps P K ops l st Q := fun a w _ R => h a w _ (R.weak W)
theorem tr_frz {c : Code} (n : Nat) (h : Tr P K c (st.frz n) Q) : Tr P K c st Q := fun a w _ R => by obtain ⟨p', R', _⟩ := R.frz n; exact h a w p' R'
theorem tops_frz {l : List Oper} (n : Nat) (h : TOps P K ops l (st.frz n) Q) : TOps P K ops l st Q := fun a w _ R => by obtain ⟨p', R', _⟩ := R.frz n; exact h a w p' R'

/-- A nil slice taken as an owned row. -/
theorem Rel.own (R : Rel K st a w p) {t n : Nat} (ht : st.look t = .nilS) (hn : get st.vec n = none) (e : TypeId) (z : Nat) (he : e < 1000000 := by decide) : ∃ p', Rel K ({ st with vec := (n, ⟨e, z, []⟩) :: st.vec }.put t (.vec n)) a w p' := by
  have hx := R.opd (.tmp t)
  simp only [Vl.opd, ht, Act.eval] at hx
  have hlt : t < st.nt := by
    rw [← R.nt]
    rcases Nat.lt_or_ge t a.tmps.size with h | h
    · exact h
    · simp only [Array.getD_eq_getD_getElem?, Array.getElem?_eq_none h, Option.getD_none] at hx
      cases hx
  have R' := R.newVec (d := n) (w' := w) (v' := .slice none 0 0) (s := ⟨e, z, []⟩) (xs := []) (isM_lt he) hn (World.grownBy.refl w _) (World.ownsRow_nil w _ _ _) (fun r hr => by simp at hr) (fun j x v h => by simp at h) (.inl rfl)
  have hv : a.tmps.getD t undef = .slice none 0 0 := by
    generalize a.tmps.getD t undef = v at hx
    cases hx; rfl
  have hp : a.put (some t) (.slice none 0 0) = a := by
    have hs : t < a.tmps.size := by rw [R.nt]; exact hlt
    cases a with
    | mk tmps defers =>
      simp only [Act.put, Act.mk.injEq, and_true]
      apply Array.ext
      · simp
      · intro i h1 h2
        rw [Array.getElem_setIfInBounds]
        split
        · rename_i e; subst e
          simp only [Array.getD_eq_getD_getElem?, Array.getElem?_eq_getElem h2, Option.getD_some] at hv
          exact hv.symm
        · rfl
  have R2 := R'.put (d := t) (RA.vec_at (n := n) (Or.inl rfl) (upd_same _ _ _)) hlt
  rw [hp] at R2
  exact ⟨_, R2⟩
theorem tr_own {c : Code} (t n : Nat) (e : TypeId) (z : Nat) (ht : st.look t = .nilS) (hn : get st.vec n = none) (h : Tr P K c ({ st with vec := (n, ⟨e, z, []⟩) :: st.vec }.put t (.vec n)) Q) (he : e < 1000000 := by decide) : Tr P K c st Q := fun a w _ R => by
  obtain ⟨p', R'⟩ := R.own ht hn e z he; exact h a w p' R'

/-- A loop, by states that are numbered: from each the body comes to one with a smaller measure, or leaves. -/
theorem tr_loop {c : Code} {ι : Type} (S : ι → St) (μ : ι → Nat) (i0 : ι) (W : Weak st (S i0)) (round : ∀ i, Tr P K c (S i) (thenQ (fun s => ∃ j, μ j < μ i ∧ Weak s (S j)) Q)) : Tr P K (.loop c) st Q := fun a w p R =>
  wp_loop_ghost (fun n a' w' => ∃ i p', μ i = n ∧ Rel K (S i) a' w' p') (μ i0) ⟨i0, _, rfl, R.weak W⟩ (fun n a' w' ⟨i, p', hn, R'⟩ => wp_mono (round i a' w' p' R') fun e a2 w2 ⟨s, p2, R2, q⟩ => by
    cases e with
    | normal => obtain ⟨j, hj, W2⟩ := q; exact ⟨μ j, hn ▸ hj, j, _, rfl, R2.weak W2⟩
    | _ => exact ⟨s, p2, R2, q⟩)
end
end Go.Vl
