/- The value logic, drawn regions with calls: operations that only look at what nobody writes are taken first. Conditions: none. -/
import Derived.Test.YtclmnpkhopioiaaVlO
import Derived.OrdersHeld
set_option linter.unusedSimpArgs false
set_option linter.unusedVariables false
namespace Go.Vl
open Go Go.RowKit

section
variable {K : Ctx} {st : St} {a : Act} {w : World} {p : Pl} {P : Program} {ops : Array Oper} {Q : Exit → St → Prop}

def loadVal (P : Program) (t : TypeId) (vs : Nat → Value) (o : Nat) : Value :=
  if isAggB P t then .agg ((List.range ((szOf P t).getD 0)).map fun j => vs (o + j)).toArray else vs o
theorem load_run {t : TypeId} {cs : List AV} {o : Nat} {x : AV} (h : partA P t cs o = some x) {w : World} {b : Addr} (vs : Nat → Value)
    (hcell : ∀ j, j < cs.length → w.cell? (b.add j) = some (vs j)) : (loadVar t (b.add o)).run P w = .ok (loadVal P t vs o) w := by
  unfold partA at h
  split at h
  case isFalse => cases h
  rename_i hu
  simp only [loadVar, Sem.run_bind, run_isAggB hu, Result.andThen]
  split at h
  · rename_i hg
    cases hk : szOf P t with
    | none => simp [hk] at h
    | some k =>
      simp only [hk, Option.bind_some] at h
      split at h
      case isFalse => cases h
      rename_i hle
      simp only [hg, if_true, Sem.run_bind, run_szOf hk, Result.andThen]
      rw [run_loadCells (P := P) w (b.add o) k (fun j => vs (o + j)) (fun j hj => by rw [add_add]; exact hcell _ (by omega))]
      simp [loadVal, hg, hk]
  · rename_i hg
    have hlt : o < cs.length := (List.getElem?_eq_some_iff.1 h).1
    simp only [hg, Bool.false_eq_true, if_false]
    simp [hcell o hlt, loadVal, hg]

theorem row_ptr_all {ok : Nat → Prop} {t e : TypeId} (hs : P.underlying t = some (.slice e)) {rows : List (List D)} {row : List D} {k : IntKind} {i : Int} (h0 : 0 ≤ i) (hrow : rows[i.toNat]? = some row)
    (hz : szOf P e = some row.length) {u : Value} (h : RD w ok (.slice rows) u) : ∃ v, (∀ w', (Instr.indexAt t u (.int k i)).run P w' = .ok v w') ∧ RA w ok p (.cptr row 0) v := by
  have hi : i.toNat < rows.length := (List.getElem?_eq_some_iff.1 hrow).1
  obtain ⟨v, h1, h2⟩ := row_ptr (p := p) (k := k) hs h0 hrow hz h
  refine ⟨v, fun w' => ?_, h2⟩
  cases h with
  | snil => simp at hi
  | slice z vs hzs hok hc hcell hd =>
    rename_i b c
    have h3 : i < (rows.length : Int) := by omega
    simp [Instr.indexAt, run_underlying hs, asIntOf, h0, h3, run_szOf hz] at h1 ⊢
    exact h1

/-- what an operation may look at that is taken first: slots and data -/
def stillB (st : St) (o : Oper) : Bool :=
  pureB o || match o.op with
  | .load _ x => match opd st x with | .cptr _ _ => true | _ => false
  | .indexAddr _ x _ => match opd st x with | .d (.slice _) => true | _ => false
  | _ => false

/-- the cells that may be read are as they were -/
def Agree (K : Ctx) (p : Pl) (w w' : World) : Prop := ∀ q : Addr, okc K w p q.block → w'.cell? q = w.cell? q

theorem still_sound (R : Rel K st a w p) {o : Oper} {x : AV} (hp : stillB st o = true) (h : vstep P st o = some x) :
    ∃ v, (∀ w', Agree K p w w' → (execOp a.eval o).run P w' = .ok (.value v) w') ∧ RA w (okc K w p) p x v := by
  unfold stillB at hp
  cases hq : pureB o with
  | true => obtain ⟨v, h1, h2⟩ := pure_sound R hq h; exact ⟨v, fun w' _ => h1 w', h2⟩
  | false =>
    rw [hq, Bool.false_or] at hp
    split at hp
    · rename_i t y ho
      split at hp
      · rename_i row off hy
        simp only [vstep, ho] at h
        have hr := R.opd y
        rw [hy] at h hr
        obtain ⟨v, h1, h2⟩ := loadA_sound R h hr
        generalize hu : a.eval y = u at *
        cases hr with | cptr vs hok hcell hd =>
        rename_i b
        simp only [loadA] at h
        refine ⟨v, fun w' ag => ?_, h2⟩
        have r1 := load_run h (w := w) (b := b) vs (fun j hj => hcell j (by simpa using hj))
        have r2 := load_run h (w := w') (b := b) vs (fun j hj => by rw [ag _ (by rw [block_add]; exact hok)]; exact hcell j (by simpa using hj))
        simp only [Instr.loadAt, Instr.sureAddr, Sem.run_bind, Sem.run_pure, Result.andThen, r1] at h1
        cases h1
        simp [execOp, ho, hu, Instr.loadAt, Instr.sureAddr, r2]
      · cases hp
    · rename_i t y i ho
      split at hp
      · rename_i rows hy
        simp only [vstep, ho] at h
        have hr := R.opd y
        rw [hy] at h hr
        cases hi : intOfA (opd st i) with
        | none => rw [hi] at h; cases h
        | some n =>
          simp only [hi, Option.bind_some] at h
          obtain ⟨k, hk⟩ := intOfA_some hi (R.opd i)
          unfold indexPA at h
          split at h
          · rename_i e hs
            split at h
            case isFalse => cases h
            rename_i h0
            simp only at h
            cases hrow : rows[n.toNat]? with
            | none => simp [hrow] at h
            | some row =>
              simp only [hrow, Option.bind_some] at h
              split at h
              case isFalse => cases h
              rename_i hz
              cases h
              cases hr with | d hd =>
              obtain ⟨v, h1, h2⟩ := row_ptr_all (p := p) (k := k) hs h0 hrow hz hd
              exact ⟨v, fun w' _ => by simp [execOp, ho, hk, h1 w'], h2⟩
          · simp [offA] at h
          · cases h
      · cases hp
    · cases hp

/-- the operations 'is' may be taken first, in this order -/
def takeB (ops : Array Oper) : List Nat → Array Bool → Bool
  | [], _ => true
  | i :: is, l => (Region.ready .any ops l).contains i && Region.free .any ops l i && takeB ops is (l.setIfInBounds i true)
def listAll (is : List Nat) (l : Array Bool) : Array Bool := is.foldl (fun l i => l.setIfInBounds i true) l
/-- the operations 'js' come up in this order and in no other -/
def orderB (ops : Array Oper) : List Nat → Array Bool → Bool
  | [], l => Region.ready .any ops l == []
  | j :: js, l => (Region.ready .any ops l == [j]) && orderB ops js (l.setIfInBounds j true)
def heldOk (ops : Array Oper) (is js : List Nat) : Bool :=
  Region.noSelect ops && decide (is.length + js.length = ops.size) && takeB ops is (Array.replicate ops.size false) && orderB ops js (listAll is (Array.replicate ops.size false))

/-- the values of the still operations -/
def stills (P : Program) (ops : Array Oper) : List Nat → St → Option St
  | [], st => some st
  | i :: is, st => (ops[i]?).bind fun o => match gdA ops st o with
    | none => none
    | some true => if stillB st o then (vput P st o).bind (stills P ops is) else none
    | some false => match o.dst with
      | some d => if d < st.nt then stills P ops is (st.put d (.tup [])) else none
      | none => stills P ops is st

def HOps (P : Program) (K : Ctx) (ops : Array Oper) (js : List Nat) (st : St) (Q : Exit → St → Prop) : Prop :=
  ∀ (listed : Array Bool), orderB ops js listed = true → ∀ (w0 : World) (p0 : Pl) (a : Act) (w : World) (p : Pl), Rel K st a w p → Agree K p0 w0 w → (∀ b, okc K w0 p0 b → okc K w p b) →
    wpAnyH P .any ops (Pst K Q) (Agree K p0 w0) js.length listed a w

theorem hops_nil (h : Q .normal st) : HOps P K ops [] st Q := fun listed ho w0 p0 a w p R _ _ => by
  simp only [orderB, beq_iff_eq] at ho
  exact wpAnyH_done ho ⟨st, p, R, h⟩ 0

theorem stills_run (hs : Region.noSelect ops = true) (hQ : ∀ c s, ¬ Q (.panic c) s) {js : List Nat} {st1 : St} (H : HOps P K ops js st1 Q) : ∀ (is : List Nat) (listed : Array Bool) (st : St) (a : Act), takeB ops is listed = true →
    orderB ops js (listAll is listed) = true → Rel K st a w p → stills P ops is st = some st1 → wpAnyH P .any ops (Pst K Q) (Agree K p w) (is.length + js.length) listed a w
  | [], listed, st, a, _, ho, R, h => by
    simp [stills] at h; subst h
    simpa using H listed ho w p a w p R (fun _ _ => rfl) (fun _ h => h)
  | i :: is, listed, st, a, ht, ho, R, h => by
    simp only [takeB, Bool.and_eq_true] at ht
    obtain ⟨⟨hr, hf⟩, ht'⟩ := ht
    simp only [stills] at h
    cases h0 : ops[i]? with
    | none => simp [h0] at h
    | some o =>
      simp only [h0, Option.bind_some] at h
      have hQ' : ∀ (d : Option Tmp) (v : Value) c a w, Pst K Q (.panic c) (a.put d v) w → Pst K Q (.panic c) a w := fun _ _ c a w ⟨s, _, _, q⟩ => absurd q (hQ c s)
      have go : ∀ {st2 : St} {v : Value}, YieldsIf P ops (Agree K p w) o v a → Rel K st2 (a.put o.dst v) w p → stills P ops is st2 = some st1 → wpAnyH P .any ops (Pst K Q) (Agree K p w) ((i :: is).length + js.length) listed a w := fun {st2 v} hy R2 h2 => by
        rw [List.length_cons, show is.length + 1 + js.length = (is.length + js.length) + 1 by omega]
        exact wpAnyH_take h0 hs hf hr (fun c a w => hQ' o.dst v c a w) hy (fun _ _ => rfl) (stills_run hs hQ H is _ st2 _ ht' ho R2 h2)
      cases hg : gdA ops st o with
      | none => simp [hg] at h
      | some b =>
        simp only [hg] at h
        have hwt := gd_sound R hg
        cases b with
        | true =>
          simp only at h
          split at h
          case isFalse => cases h
          rename_i hst
          cases hv : vput P st o with
          | none => simp [hv] at h
          | some st2 =>
            simp only [hv, Option.bind_some] at h
            unfold vput at hv
            cases hx : vstep P st o with
            | none => simp [hx] at hv
            | some x =>
              simp only [hx, Option.bind_some] at hv
              obtain ⟨v, g1, g2⟩ := still_sound R hst hx
              exact go (.inl ⟨hwt, g1⟩) (R.puto g2 hv) h
        | false =>
          simp only at h
          obtain ⟨st2, R2, h2⟩ := skip_put (f := fun (_ : List Oper) => stills P ops is) (l := []) R h
          exact go (.inr ⟨hwt, rfl⟩) R2 h2

/-- the same, the operations themselves listed -/
def stillsL (P : Program) (ops : Array Oper) : List Oper → St → Option St
  | [], st => some st
  | o :: os, st => match gdA ops st o with
    | none => none
    | some true => if stillB st o then (vput P st o).bind (stillsL P ops os) else none
    | some false => match o.dst with
      | some d => if d < st.nt then stillsL P ops os (st.put d (.tup [])) else none
      | none => stillsL P ops os st
theorem stills_of : ∀ {is : List Nat} {os : List Oper} {st : St}, is.map (ops[·]?) = os.map some → stillsL P ops os st = stills P ops is st
  | [], [], _, _ => rfl
  | [], _ :: _, _, h => by simp at h
  | _ :: _, [], _, h => by simp at h
  | i :: is, o :: os, st, h => by
    simp only [List.map_cons, List.cons.injEq] at h
    simp only [stillsL, stills, h.1, Option.bind_some]
    have ih : ∀ s, stillsL P ops os s = stills P ops is s := fun s => stills_of h.2
    have e : stillsL P ops os = stills P ops is := funext ih
    rw [e]
theorem tr_held {id : Nat} {l : List Oper} {st1 : St} (is js : List Nat) (hm : P.follows .mixedOrders = true) (hB : heldOk l.toArray is js = true) (hQ : NoPanic Q) {ol : List (Option Oper)} (hol : is.map (l.toArray[·]?) = ol) {os : List Oper} (hoo : ol.filterMap (fun x => x) = os) (hos : ol = os.map some) (h' : stillsL P l.toArray os st = some st1) (H : HOps P K l.toArray js st1 Q) :
    Tr P K (.region id l.toArray true) st Q := by
  have h : stills P l.toArray is st = some st1 := (stills_of (hol.trans hos)).symm.trans h'
  intro a w p R
  simp only [heldOk, Bool.and_eq_true, decide_eq_true_eq] at hB
  obtain ⟨⟨⟨hs, hn⟩, ht⟩, ho⟩ := hB
  have := stills_run (w := { w with drawn := w.drawn + 1 }) hs hQ H is _ st a ht ho R.drew h
  rw [hn] at this
  exact wp_region_held hm this
theorem hops_vput {o : Oper} {js : List Nat} {j : Nat} {st2 : St} (h0 : ops[j]? = some o) (hg : gdA ops st o = some true) (hv : vput P st o = some st2) (h : HOps P K ops js st2 Q) : HOps P K ops (j :: js) st Q := by
  intro listed hor w0 p0 a w p R hag hok0
  simp only [orderB, Bool.and_eq_true, beq_iff_eq] at hor
  refine wpAnyH_all hor.1 (by simp) fun i hi => ?_
  rw [List.mem_singleton] at hi
  subst hi
  unfold wpOp
  simp only [h0]
  rw [gd_sound R hg, if_pos rfl]
  refine .inl ?_
  unfold vput at hv
  cases hx : vstep P st o with
  | none => simp [hx] at hv
  | some x =>
    simp only [hx, Option.bind_some] at hv
    obtain ⟨v, g1, g2⟩ := vstep_sound R hx
    unfold Oper.wp
    rw [g1]
    exact ⟨hag, h _ hor.2 _ _ _ _ _ (R.puto g2 hv) hag hok0⟩
/-- from the state st, whatever order is drawn -/
def AOps (P : Program) (K : Ctx) (ops : Array Oper) (S : World → Prop) (F : Exit → Act → World → Prop) (fuel : Nat) (listed : Array Bool) (st : St) : Prop :=
  ∀ (a : Act) (w : World) (p : Pl), Rel K st a w p → wpAnyH P .any ops F S fuel listed a w
theorem stills_alt {F : Exit → Act → World → Prop} {fuel : Nat} (hs : Region.noSelect ops = true) (hF : ∀ c a w, ¬ F (.panic c) a w) {st1 : St} : ∀ (is : List Nat) (listed : Array Bool) (st : St) (a : Act), takeB ops is listed = true →
    Rel K st a w p → stills P ops is st = some st1 → AOps P K ops (Agree K p w) F fuel (listAll is listed) st1 → wpAnyH P .any ops F (Agree K p w) (is.length + fuel) listed a w
  | [], listed, st, a, _, R, h, H => by
    simp [stills] at h; subst h
    have h1 := H a w p R
    simpa [listAll] using h1
  | i :: is, listed, st, a, ht, R, h, H => by
    simp only [takeB, Bool.and_eq_true] at ht
    obtain ⟨⟨hr, hf⟩, ht'⟩ := ht
    simp only [stills] at h
    cases h0 : ops[i]? with
    | none => simp [h0] at h
    | some o =>
      simp only [h0, Option.bind_some] at h
      have go : ∀ {st2 : St} {v : Value}, YieldsIf P ops (Agree K p w) o v a → Rel K st2 (a.put o.dst v) w p → stills P ops is st2 = some st1 → wpAnyH P .any ops F (Agree K p w) ((i :: is).length + fuel) listed a w := fun {st2 v} hy R2 h2 => by
        rw [List.length_cons, show is.length + 1 + fuel = (is.length + fuel) + 1 by omega]
        exact wpAnyH_take h0 hs hf hr (fun c a w q => absurd q (hF c _ _)) hy (fun _ _ => rfl) (stills_alt hs hF is _ st2 _ ht' R2 h2 H)
      cases hg : gdA ops st o with
      | none => simp [hg] at h
      | some b =>
        simp only [hg] at h
        have hwt := gd_sound R hg
        cases b with
        | true =>
          simp only at h
          split at h
          case isFalse => cases h
          rename_i hst
          cases hv : vput P st o with
          | none => simp [hv] at h
          | some st2 =>
            simp only [hv, Option.bind_some] at h
            unfold vput at hv
            cases hx : vstep P st o with
            | none => simp [hx] at hv
            | some x =>
              simp only [hx, Option.bind_some] at hv
              obtain ⟨v, g1, g2⟩ := still_sound R hst hx
              exact go (.inl ⟨hwt, g1⟩) (R.puto g2 hv) h
        | false =>
          simp only at h
          obtain ⟨st2, R2, h2⟩ := skip_put (f := fun (_ : List Oper) => stills P ops is) (l := []) R h
          exact go (.inr ⟨hwt, rfl⟩) R2 h2

end
end Go.Vl
