/- The value logic: slices.SortFunc at an owned row of structs of plain cells, put in order. Conditions: none. -/
import Derived.Test.YtjnflahicimmlaaDoorVmZr
import Derived.Shelf.SlSortCmp.NoneTotal
set_option linter.unusedSimpArgs false
set_option linter.unusedVariables false
namespace Go.Vl
open Go Go.RowKit Go.Sort Go.Proofs Go.Shelf

section
variable {P : Program} {ρ : Ren} {e k g : Nat} {T : Type} {row : T → List D}
theorem glob_grown {w : World} {blk : Nat} {d : Array Value} {m : Nat} {os : Array Obj} (h : ∃ ok : Nat → Prop, GlobAt P w ok ∧ ¬ ok blk ∧ ∀ b, ok b → b < w.heap.size) :
    ∃ ok : Nat → Prop, GlobAt P (grow (putRow id (Sort.ahead w m) blk 0 d) os) ok ∧ ∀ b, ok b → b < (grow (putRow id (Sort.ahead w m) blk 0 d) os).heap.size := by
  obtain ⟨ok, h1, h2, h3⟩ := h
  obtain ⟨_, _, _, g4, g5⟩ := grownBy_id (w := w) (g := blk) (n := m) (os := os) d
  refine ⟨ok, fun b i x hx => ?_, fun b hb => Nat.lt_of_lt_of_le (h3 b hb) g4⟩
  obtain ⟨k1, k2, k3⟩ := h1 b i x hx
  refine ⟨k1, ?_, ?_⟩
  · rw [← k2]
    exact World.cell?_of_block (g5 b (h3 b k1) fun e => h2 (Option.some.inj e ▸ k1))
  · rw [← k3]
    exact World.cell?_of_block (g5 b (h3 b k1) fun e => h2 (Option.some.inj e ▸ k1))
/-- a contract of a comparing function at these structs -/
def CmpAt (P : Program) (g : Nat) (row : T → List D) (cf : T → T → Int) (x y : T) : Prop :=
  ∀ W : World, (∃ ok : Nat → Prop, GlobAt P W ok ∧ ∀ b, ok b → b < W.heap.size) → Calls P g #[.agg ((row x).map dval).toArray, .agg ((row y).map dval).toArray] W fun e w' => e = .returned (.int .i64 (cf x y)) ∧ ∃ q os', w' = grow (W.drewN q) os'

/-- 'hd': the call draws no less than before (to be had where the comparing function is walked by itself) -/
theorem cmp_of {cf : T → T → Int} {x y : T} (hd : ∀ (vs : Array Value) (W : World) (R : Ending → World → Prop), Calls P g vs W R → Calls P g vs W fun e w' => R e w' ∧ W.drawn ≤ w'.drawn) (hp : ∀ x, ∀ d ∈ row x, plainD d = true) (h : FnOK P g [] [.agg ((row x).map .d), .agg ((row y).map .d)] (.d (.int .i64 (cf x y))) []) : CmpAt P g row cf x y := by
  intro W ⟨ok, hg, hb⟩
  have one : ∀ z : T, RA W ok (ioPl [] []) (.agg ((row z).map .d)) (.agg ((row z).map dval).toArray) := fun z => by
    refine .agg (by simp) (fun i a v ha hv => ?_) (fun i v hv => ?_)
    · rw [List.getElem?_map] at ha
      rw [List.getElem?_toArray, List.getElem?_map] at hv
      cases hz : (row z)[i]? with
      | none => rw [hz] at ha; cases ha
      | some d =>
        rw [hz] at ha hv
        cases ha; cases hv
        exact .d (rd_dval (hp z d (List.mem_of_getElem? hz)))
    · rw [List.getElem?_toArray, List.getElem?_map] at hv
      cases hz : (row z)[i]? with
      | none => rw [hz] at hv; cases hv
      | some d =>
        rw [hz] at hv
        cases hv
        exact dval_one (hp z d (List.mem_of_getElem? hz))
  refine (hd _ _ _ (h W ok [] [] _ ⟨rfl, List.nodup_nil, fun b h => ⟨hb b h, by simp, by simp⟩, fun i b cs h => by simp at h, rfl, fun i v s h => by simp at h, fun i j v u h => by simp at h, fun v h => by simp at h⟩ rfl (fun i a v ha hv => ?_) hg)).mono fun en w' ⟨⟨v, iv', he, hv, _, _, hf⟩, hdw⟩ => ?_
  · match i with
    | 0 => simp at ha hv; subst ha; subst hv; exact one x
    | 1 => simp at ha hv; subst ha; subst hv; exact one y
    | i + 2 => simp at ha
  · cases hv with
    | d hd =>
      cases hd
      refine ⟨he, w'.drawn - W.drawn, w'.heap.extract W.heap.size w'.heap.size, ?_⟩
      obtain ⟨f1, f2, f3, f4, f5, f6⟩ := hf
      have hh : w'.heap = W.heap ++ w'.heap.extract W.heap.size w'.heap.size := by
        refine Array.ext_getElem? fun i => ?_
        by_cases hi : i < W.heap.size
        · rw [Array.getElem?_append_left hi]
          exact f6 i hi (by simp) (by simp)
        · rw [Array.getElem?_append_right (by omega), Array.getElem?_extract]
          by_cases h2 : i < w'.heap.size
          · rw [if_pos (by omega)]; congr 1; omega
          · rw [if_neg (by omega), Array.getElem?_eq_none (by omega)]
      have hd : w'.drawn = W.drawn + (w'.drawn - W.drawn) := by omega
      cases w' with
      | mk a1 a2 a3 a4 a5 =>
        unfold grow World.drewN
        simp only at hh hd f2 f3 f5 ⊢
        rw [← hh, ← hd, f2, f3, f5]
theorem merge_val {l : List T} (le : T → T → Bool) : ((l.attach).mergeSort fun x y => le x.1 y.1).map (·.1) = l.mergeSort le := by
  have h := List.map_mergeSort (r := fun x y : {x // x ∈ l} => le x.1 y.1) (s := le) (f := fun x : {x // x ∈ l} => x.1) (l := l.attach) (fun _ _ _ _ => rfl)
  rw [List.attach_map_subtype_val] at h
  exact h
theorem sortF_row (L : SlLaysF0.n6 P ρ) (aE : ∀ w, (isAgg (ρ.t 24)).run P w = .ok true w) (zE : ∀ w, (Go.sizeOf (ρ.t 24)).run P w = .ok k w) (hp : ∀ x, ∀ d ∈ row x, plainD d = true) (hk : ∀ x, (row x).length = k)
    (cf : T → T → Int) (l : List T) (hO : SWO (ltOf fun x y : {x // x ∈ l} => cf x.1 y.1)) (hT : ∀ x ∈ l, ∀ y ∈ l, ¬ cf x y < 0 → ¬ cf y x < 0 → x = y)
    (eg : ∀ args w, (callFunc g args).run P w = .ok (.enter g args) w) (hcmp : ∀ x ∈ l, ∀ y ∈ l, CmpAt P g row cf x y) (hlen : l.length ≤ 268435456) (he : e < 1000000 := by decide) :
    FnOKh P (ρ.f 6) [] [⟨e, k, rowsF row l⟩] [.vec (InV 0), .fn g []] (.tup []) [] [⟨e, k, rowsF row (l.mergeSort fun x y => !decide (cf y x < 0))⟩] := by
  have hN : ∀ (p : Option Addr) (cap : Nat) (w : World), Calls P (ρ.f 6) (#[.slice p 0 cap] ++ [Value.func (.func g) #[] #[]].toArray) w fun en w' => en = .returned (.tuple #[]) ∧ w' = w := fun p cap w => AnyF.slices_SortFunc_none L p cap _ w
  cases hl : l with
  | nil =>
    have : Inhabited Unit := ⟨()⟩
    have hrow0 : ∀ x : Unit, ((fun _ : Unit => List.replicate k (D.bool true)) x).length = k := fun _ => by simp
    have := turn_row (P := P) (f := ρ.f 6) (e := e) (k := k) (row := fun _ : Unit => List.replicate k (D.bool true)) (fun l => l) (fun _ => rfl) (fun _ d hd => by rw [List.eq_of_mem_replicate hd]; rfl) hrow0 [.fn g []] [Value.func (.func g) #[] #[]] (more_fn g) [] (fun g' cap w _ hH hb => by
      refine (hN _ cap w).mono fun en w' ⟨h1, h2⟩ => ⟨h1, 0, #[], ?_⟩
      rw [h2, grow_empty]
      show w = putRow id (Sort.ahead w 0) g' 0 (flatK (encR fun _ : Unit => List.replicate k (D.bool true)) k ([] : List Unit).toArray)
      have hz : flatK (encR fun _ : Unit => List.replicate k (D.bool true)) k ([] : List Unit).toArray = #[] := Array.eq_empty_of_size_eq_zero (by simp)
      rw [hz]
      exact (putRow_self id w g' 0 #[] (fun j hj => by simp at hj)).symm) hN he
    simpa [rowsF] using this
  | cons x0 l0 =>
    rw [← hl]
    have : Inhabited {x // x ∈ l} := ⟨⟨x0, by rw [hl]; simp⟩⟩
    have hrow : rowsF row l = rowsF (fun x : {x // x ∈ l} => row x.1) l.attach := by
      unfold rowsF
      rw [show (fun x : {x // x ∈ l} => row x.1) = row ∘ (fun x : {x // x ∈ l} => x.1) from rfl, ← List.map_map, List.attach_map_subtype_val]
    have hrow2 : rowsF row (l.mergeSort fun x y => !decide (cf y x < 0)) = rowsF (fun x : {x // x ∈ l} => row x.1) (l.attach.mergeSort fun x y => !(ltOf fun x y : {x // x ∈ l} => cf x.1 y.1) y x) := by
      have := merge_val (l := l) (fun x y => !decide (cf y x < 0))
      unfold rowsF
      rw [show (fun x : {x // x ∈ l} => row x.1) = row ∘ (fun x : {x // x ∈ l} => x.1) from rfl, ← List.map_map, ← this]
      rfl
    rw [hrow, hrow2]
    refine turn_row (P := P) (f := ρ.f 6) (e := e) (k := k) (row := fun x : {x // x ∈ l} => row x.1) (fun m => m.mergeSort fun x y => !(ltOf fun x y : {x // x ∈ l} => cf x.1 y.1) y x) (fun m => List.length_mergeSort _) (fun x => hp x.1) (fun x => hk x.1) [.fn g []] [Value.func (.func g) #[] #[]] (more_fn g) l.attach (fun g' cap w hG hH hb => ?_) hN he
    have hsz : l.attach.toArray.size < 4611686018427387904 := by simp; omega
    refine (AnyQ.slices_SortFunc_total L k aE zE (encR fun x : {x // x ∈ l} => row x.1) (encR_len fun x => hk x.1) (encR_one fun x => hp x.1) (fun x y : {x // x ∈ l} => cf x.1 y.1) hO g #[] g' 0 cap l.attach.toArray w eg (fun m os dk hs x y => hcmp x.1 x.2 y.1 y.2 _ (glob_grown hG)) hH hb hsz (fun x y h1 h2 => Subtype.ext (hT x.1 x.2 y.1 y.2 (by simpa [ltOf] using h1) (by simpa [ltOf] using h2)))).mono fun en w' ⟨h1, n, os, h2⟩ => ⟨h1, n, os, h2⟩
end
theorem sort_key {T : Type} {l : List T} {cf : T → T → Int} {key : T → Int} (h : ∀ x ∈ l, ∀ y ∈ l, (cf x y < 0 ↔ key x < key y)) : (l.mergeSort fun x y => !decide (cf y x < 0)) = l.mergeSort fun x y => decide (key x ≤ key y) := by
  rw [← merge_val (fun x y => !decide (cf y x < 0)), ← merge_val (fun x y => decide (key x ≤ key y))]
  congr 2
  funext x y
  have := h y.1 y.2 x.1 x.2
  by_cases hc : cf y.1 x.1 < 0
  · rw [decide_eq_true hc, decide_eq_false (by have := this.1 hc; omega)]; rfl
  · rw [decide_eq_false hc, decide_eq_true (by have := fun q => hc (this.2 q); omega)]; rfl
/-- an order by a number -/
theorem swo_key {T : Type} {cf : T → T → Int} (key : T → Int) (h : ∀ x y, cf x y < 0 ↔ key x < key y) : SWO (ltOf cf) := by
  constructor <;> (intros; simp only [ltOf, h, decide_eq_true_eq, decide_eq_false_iff_not] at *; omega)
end Go.Vl
