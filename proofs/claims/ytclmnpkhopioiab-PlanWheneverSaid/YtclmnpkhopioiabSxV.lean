/- Plain laws of steps: who is served, safe steps, choices and runs in the document's answer; all pools that served go on serving. Conditions: none. -/
import Derived.Test.YtclmnpkhopioiabSxU
set_option linter.unusedSimpArgs false
set_option linter.unusedVariables false
namespace Go.Vl
open Go

theorem iter_find {α ε : Type} {body : Int → Option (Lp Int ε)} (l : List α) (p : α → Bool) (A B : ε)
    (hgo : ∀ (i : Nat) (h : i < l.length), body (i : Int) = some (if p l[i] = true then .out A else .go (((i + 1 : Nat) : Int))))
    (hend : body (l.length : Int) = some (.out B)) : iter body 0 = some (if l.any p = true then A else B) := by
  have key : ∀ (m i : Nat), i + m = l.length → iter body (i : Int) = some (if (l.drop i).any p = true then A else B) := fun m => by
    induction m with
    | zero =>
      intro i h
      have : i = l.length := by omega
      subst this
      rw [List.drop_length]
      exact iter_out hend
    | succ m ih =>
      intro i h
      have hi : i < l.length := by omega
      rw [List.drop_eq_getElem_cons hi, List.any_cons]
      cases hp : p l[i] with
      | true =>
        have := hgo i hi
        rw [hp] at this
        exact iter_out this
      | false =>
        have := hgo i hi
        rw [hp] at this
        rw [iter_go this, ih (i + 1) (by omega)]; rfl
  simpa using key l.length 0 (by omega)
theorem sorted_ext : ∀ (a b : List Int), a.Pairwise (· < ·) → b.Pairwise (· < ·) → (∀ x, x ∈ a ↔ x ∈ b) → a = b := fun a => by
  induction a with
  | nil =>
    intro b _ _ h
    cases b with
    | nil => rfl
    | cons y b => have := (h y).2 (List.mem_cons_self ..); cases this
  | cons x a ih =>
    intro b ha hb h
    cases b with
    | nil => have := (h x).1 (List.mem_cons_self ..); cases this
    | cons y b =>
      rw [List.pairwise_cons] at ha hb
      have e : x = y := by
        rcases List.mem_cons.1 ((h x).1 (List.mem_cons_self ..)) with e | h1
        · exact e
        · rcases List.mem_cons.1 ((h y).2 (List.mem_cons_self ..)) with e | h2
          · exact e.symm
          · have := hb.1 x h1; have := ha.1 y h2; omega
      subst e
      rw [ih b ha.2 hb.2 fun z => ?_]
      constructor
      · intro hz
        rcases List.mem_cons.1 ((h z).1 (List.mem_cons_of_mem _ hz)) with e | h1
        · subst e; exact absurd (ha.1 z hz) (by omega)
        · exact h1
      · intro hz
        rcases List.mem_cons.1 ((h z).2 (List.mem_cons_of_mem _ hz)) with e | h1
        · subst e; exact absurd (hb.1 z hz) (by omega)
        · exact h1
theorem range_sorted (n : Nat) (p : Nat → Bool) : (((List.range n).filter p).map fun (j : Nat) => (j : Int)).Pairwise (· < ·) := by
  rw [List.pairwise_map]
  exact (List.Pairwise.filter _ List.pairwise_lt_range).imp fun h => by omega

/-! Units and pools -/
def unitsP (f : api_Fleet) (p : Int) : List Int := if FleetOk f then ((List.range f.Consumers.length).filter fun i => (f.Consumers.getD i default).Pool == p).map fun (i : Nat) => (i : Int) else []
theorem unitsP_len (f : api_Fleet) (p : Int) : (unitsP f p).length ≤ 8 := by
  unfold unitsP
  split
  · rename_i h
    rw [List.length_map]
    refine Nat.le_trans (List.length_filter_le _ _) ?_
    have := h.2.2.1
    simpa using this
  · simp
theorem mem_unitsP {f : api_Fleet} {p x : Int} : x ∈ unitsP f p ↔ FleetOk f ∧ ∃ i : Nat, x = (i : Int) ∧ ∃ h : i < f.Consumers.length, f.Consumers[i].Pool = p := by
  unfold unitsP
  split
  · rename_i hf
    simp only [List.mem_map, List.mem_filter, List.mem_range, beq_iff_eq]
    constructor
    · rintro ⟨i, ⟨h1, h2⟩, rfl⟩
      exact ⟨hf, i, rfl, h1, by simpa [List.getD, h1] using h2⟩
    · rintro ⟨_, i, rfl, h1, h2⟩
      exact ⟨i, ⟨h1, by simpa [List.getD, h1] using h2⟩, rfl⟩
  · rename_i hf
    refine Iff.intro (fun h => ?_) (fun h => absurd h.1 hf)
    cases h
theorem units_sp (f : api_Fleet) (p : Int) : ref32_Units f p = some (unitsP f p) := by
  unfold ref32_Units unitsP
  rw [valid_sp]
  by_cases hf : FleetOk f
  case neg => simp [hf]
  simp only [hf, decide_true, Option.bind_some]
  rw [if_neg (by simp)]
  have h8 := hf.2.2.1
  have := iter_foldl2 (body := ref32_Units_l0 f p) (List.range f.Consumers.length) (fun i a => ((i : Int), a)) (fun (a : List Int) (i : Nat) => if ((f.Consumers.getD i default).Pool == p) = true then a ++ [(i : Int)] else a) id (fun i a => a.length ≤ i) (fun i hi a ha => ?_) (fun a ha => ?_) [] (by simp)
  · rw [fold_filter (fun i : Nat => (f.Consumers.getD i default).Pool == p) (fun i : Nat => (i : Int))] at this
    rw [show ((0 : Int), ([] : List Int)) = (((0 : Nat) : Int), []) from rfl, this]; simp
  · have hi' : i < f.Consumers.length := by simpa using hi
    have e1 : f.Consumers.getD i default = f.Consumers[i] := by simp [List.getD, hi']
    unfold ref32_Units_l0
    simp only [List.getElem_range]
    rw [if_pos (by simp; omega), idx_lt hi', w64 (by omega) (by omega), e1]
    simp only [Option.bind_some]
    by_cases hp : (f.Consumers[i].Pool == p) = true
    · rw [if_pos hp, if_pos hp, ck_t (by simp; omega)]; exact ⟨rfl, by simp; omega⟩
    · rw [if_neg hp, if_neg hp]; exact ⟨rfl, by omega⟩
  · unfold ref32_Units_l0
    simp only [List.length_range]
    rw [if_neg (by simp)]; rfl
def poolsP (f : api_Fleet) : List Int := ((List.range 8).filter fun (j : Nat) => decide (0 < ((unitsP f (j : Int)).length : Int))).map fun (j : Nat) => (j : Int)
theorem poolsP_len (f : api_Fleet) : (poolsP f).length ≤ 8 := by
  unfold poolsP
  rw [List.length_map]
  exact Nat.le_trans (List.length_filter_le _ _) (by simp)
theorem mem_poolsP {f : api_Fleet} {p : Int} : p ∈ poolsP f ↔ FleetOk f ∧ ∃ i, ∃ h : i < f.Consumers.length, f.Consumers[i].Pool = p := by
  unfold poolsP
  simp only [List.mem_map, List.mem_filter, List.mem_range, decide_eq_true_eq]
  constructor
  · rintro ⟨j, ⟨h1, h2⟩, rfl⟩
    obtain ⟨x, hx⟩ : ∃ x, x ∈ unitsP f (j : Int) := by
      cases h : unitsP f (j : Int) with
      | nil => rw [h] at h2; simp at h2
      | cons x l => exact ⟨x, List.mem_cons_self ..⟩
    obtain ⟨hf, i, _, hi⟩ := mem_unitsP.1 hx
    exact ⟨hf, i, hi⟩
  · rintro ⟨hf, i, hi, e⟩
    have hp := hf.2.2.2 i hi
    unfold poolP at hp
    simp only [Bool.and_eq_true, decide_eq_true_eq] at hp
    refine ⟨p.toNat, ⟨by omega, ?_⟩, by omega⟩
    have : (i : Int) ∈ unitsP f ((p.toNat : Nat) : Int) := mem_unitsP.2 ⟨hf, i, rfl, hi, by omega⟩
    have := List.length_pos_of_mem this
    omega
theorem pools_sp (f : api_Fleet) : ref32_Pools f = some (poolsP f) := by
  unfold ref32_Pools poolsP
  have := iter_foldl2 (body := ref32_Pools_l0 f) (List.range 8) (fun i a => ((i : Int), a)) (fun (a : List Int) (i : Nat) => if decide (0 < ((unitsP f (i : Int)).length : Int)) = true then a ++ [(i : Int)] else a) id (fun i a => a.length ≤ i) (fun i hi a ha => ?_) (fun a ha => ?_) [] (by simp)
  · rw [fold_filter (fun i : Nat => decide (0 < ((unitsP f (i : Int)).length : Int))) (fun i : Nat => (i : Int))] at this
    rw [show ((0 : Int), ([] : List Int)) = (((0 : Nat) : Int), []) from rfl, this]; simp
  · have hi' : i < 8 := by simpa using hi
    unfold ref32_Pools_l0
    simp only [List.getElem_range, units_sp, Option.bind_some]
    rw [if_pos (by simp; omega), w64 (by omega) (by omega)]
    by_cases hp : decide (0 < ((unitsP f (i : Int)).length : Int)) = true
    · rw [if_pos hp, if_pos hp, ck_t (by simp; omega)]; exact ⟨rfl, by simp; omega⟩
    · rw [if_neg hp, if_neg hp]; exact ⟨rfl, by omega⟩
  · unfold ref32_Pools_l0
    simp only [List.length_range]
    rw [if_neg (by simp)]; rfl

/-! Who is served -/
def servesI (f : api_Fleet) (s : api_Rotation) (i : Int) : Bool := decide (RightOk f s) && (decide (0 ≤ i) && (decide (i < s.Units.length) && ((s.Units.getD i.toNat default).Up && servesU s (s.Units.getD i.toNat default))))
theorem serves_sp (f : api_Fleet) (s : api_Rotation) (i : Int) : ref32_Serves f s i = some (servesI f s i) := by
  unfold ref32_Serves servesI
  rw [rright_sp]
  by_cases hr : RightOk f s
  case neg => simp [hr]
  obtain ⟨l0, l8⟩ := hr.len
  simp only [hr, decide_true, Option.bind_some, if_true, in_sp]
  rw [w64 (by omega) (by omega)]
  by_cases hi : 0 ≤ i ∧ i < s.Units.length
  · rw [if_pos (by simp; omega), idx_toNat hi.1 (by omega)]
    have e : s.Units.getD i.toNat default = s.Units[i.toNat]'(by omega) := by simp [List.getD, show i.toNat < s.Units.length by omega]
    simp only [Option.bind_some, e, servesU, hi.1, hi.2, decide_true, Bool.true_and]
    cases (s.Units[i.toNat]'(by omega)).Up <;> simp
  · rw [if_neg (by simp; omega)]
    simp only [Option.bind_some]
    by_cases h1 : 0 ≤ i
    · have : ¬ i < s.Units.length := fun h => hi ⟨h1, h⟩
      simp [this]
    · simp [h1]
def rservedP (f : api_Fleet) (s : api_Rotation) : List Int := (poolsP f).filter fun p => (unitsP f p).any (servesI f s)
theorem rserved_raw (f : api_Fleet) (s : api_Rotation) : ref32_Served f s = some (rservedP f s) := by
  unfold ref32_Served rservedP
  rw [pools_sp]
  simp only [Option.bind_some]
  have l8 := poolsP_len f
  have := iter_foldl2 (body := ref32_Served_l0 (poolsP f) f s) (poolsP f) (fun i a => ((i : Int), a)) (fun (a : List Int) (p : Int) => if (unitsP f p).any (servesI f s) = true then a ++ [p] else a) id (fun i a => a.length ≤ i) (fun i hi a ha => ?_) (fun a ha => ?_) [] (by simp)
  · rw [fold_filter (fun p : Int => (unitsP f p).any (servesI f s)) (fun p : Int => p)] at this
    rw [show ((0 : Int), ([] : List Int)) = (((0 : Nat) : Int), []) from rfl, this]; simp
  · unfold ref32_Served_l0
    simp only
    rw [if_pos (by simp; omega), idx_lt hi, w64 (by omega) (by omega)]
    simp only [Option.bind_some, units_sp]
    have u8 := unitsP_len f (poolsP f)[i]
    rw [iter_find (unitsP f (poolsP f)[i]) (servesI f s) (a ++ [(poolsP f)[i]]) a (fun j hj => ?_) ?_]
    · simp only [Option.bind_some]
      refine ⟨rfl, ?_⟩
      split
      · simp; omega
      · omega
    · unfold ref32_Served_l1
      simp only
      rw [if_neg (by simp)]
    · unfold ref32_Served_l1
      simp only
      rw [if_pos (by simp; omega), idx_lt hj, w64 (by omega) (by omega)]
      simp only [Option.bind_some, serves_sp]
      cases servesI f s (unitsP f (poolsP f)[i])[j] with
      | true => rw [if_pos rfl, if_pos rfl, ck_t (by simp; omega)]; rfl
      | false => rw [if_neg (by simp), if_neg (by simp)]; rfl
  · unfold ref32_Served_l0
    simp only
    rw [if_neg (by simp)]; rfl
theorem and_0 (v : Int) : bAnd .i64 0 v = 0 := by
  simp [bAnd]; decide
theorem rserved_eq (f : api_Fleet) (s : api_Rotation) : rservedP f s = servedP f s := by
  by_cases hr : RightOk f s
  case neg =>
    unfold servedP rservedP
    rw [if_neg hr, List.filter_eq_nil_iff]
    intro p _
    simp [servesI, hr]
  obtain ⟨h1, h2⟩ := servedP_ok hr
  have hl := hr.2.2.2.1
  refine sorted_ext _ _ ?_ h1 fun p => ?_
  · unfold rservedP poolsP
    exact List.Pairwise.filter _ (range_sorted _ _)
  · rw [h2]
    unfold rservedP servedRaw
    simp only [List.mem_filter, List.mem_map, List.any_eq_true]
    constructor
    · rintro ⟨_, x, hx, hs⟩
      obtain ⟨_, i, rfl, hi, e⟩ := mem_unitsP.1 hx
      have hi2 : i < s.Units.length := by omega
      unfold servesI at hs
      have e2 : s.Units.getD (Int.toNat (i : Int)) default = s.Units[i] := by simp [List.getD, hi2]
      simp only [e2, Bool.and_eq_true] at hs
      refine ⟨(f.Consumers[i], s.Units[i]), ⟨?_, hs.2.2.2.2⟩, e⟩
      have hz : i < (f.Consumers.zip s.Units).length := by simp; omega
      have := List.getElem_mem hz
      rw [List.getElem_zip] at this
      exact this
    · rintro ⟨⟨c, u⟩, ⟨hm, hs⟩, rfl⟩
      obtain ⟨i, hi, e⟩ := List.getElem_of_mem hm
      have hi1 : i < f.Consumers.length := by simp at hi; omega
      have hi2 : i < s.Units.length := by omega
      rw [List.getElem_zip, Prod.mk.injEq] at e
      obtain ⟨rfl, rfl⟩ := e
      refine ⟨mem_poolsP.2 ⟨hr.1, i, hi1, rfl⟩, (i : Int), mem_unitsP.2 ⟨hr.1, i, rfl, hi1, rfl⟩, ?_⟩
      unfold servesI
      have e2 : s.Units.getD (Int.toNat (i : Int)) default = s.Units[i] := by simp [List.getD, hi2]
      have hup : s.Units[i].Up = true := by
        rcases (unitP_iff.1 (hr.unit hi2 hi1)).2 with h | h
        · exact h.1
        · simp only [servesU, h.2, and_0] at hs; simp at hs
      simp only [e2, hr, hup, hs]
      simp; omega
theorem rserved_sp (f : api_Fleet) (s : api_Rotation) : ref32_Served f s = some (servedP f s) := by rw [rserved_raw, rserved_eq]
theorem any_not {l b : List Int} : (l.any fun x => !decide (x ∈ b)) = decide (¬ ∀ p ∈ l, p ∈ b) := by
  rw [Bool.eq_iff_iff, List.any_eq_true]
  simp
theorem rsafe0_sp (f : api_Fleet) (a b : api_Rotation) : ref33_safe f a b = some (decide (holdsP f a b)) := by
  unfold ref33_safe
  simp only [rserved_sp, Option.bind_some]
  have la := servedP_len f a
  have lb := servedP_len f b
  have inner : ∀ x, iter (ref33_safe_l1 (servedP f b) x) (false, 0) = some (decide (x ∈ servedP f b)) := fun x => by
    have := iter_foldl2 (body := ref33_safe_l1 (servedP f b) x) (servedP f b) (fun i (a : Bool) => (a, (i : Int))) (fun (a : Bool) (y : Int) => a || (x == y)) id (fun _ _ => True) (fun i hi a _ => ?_) (fun a _ => ?_) false trivial
    · have hf : ∀ (l : List Int) (a : Bool), l.foldl (fun (a : Bool) (y : Int) => a || (x == y)) a = (a || decide (x ∈ l)) := fun l => by
        induction l with
        | nil => intro a; simp
        | cons y l ih =>
          intro a
          rw [List.foldl_cons, ih]
          by_cases h1 : x = y <;> by_cases h2 : x ∈ l <;> simp [h1, h2] <;> simp_all
      rw [hf] at this
      rw [show ((false, (0 : Int)) : Bool × Int) = (false, ((0 : Nat) : Int)) from rfl, this]
      simp
    · unfold ref33_safe_l1
      simp only
      rw [if_pos (by simp; omega), idx_lt hi]
      simp only [Option.bind_some]
      rw [w64 (by omega) (by omega)]
      exact ⟨rfl, trivial⟩
    · unfold ref33_safe_l1
      simp only
      rw [if_neg (by simp)]; rfl
  rw [iter_find (servedP f a) (fun x => !decide (x ∈ servedP f b)) (Sum.inr false) (Sum.inl ()) (fun i hi => ?_) ?_]
  · simp only [Option.bind_some, any_not]
    by_cases h : holdsP f a b
    · have h' : ∀ p ∈ servedP f a, p ∈ servedP f b := h
      rw [decide_eq_false (not_not_intro h'), decide_eq_true h]; rfl
    · have h' : ¬ ∀ p ∈ servedP f a, p ∈ servedP f b := h
      rw [decide_eq_true h', decide_eq_false h]; rfl
  · unfold ref33_safe_l0
    rw [if_neg (by simp)]
  · unfold ref33_safe_l0
    rw [if_pos (by simp; omega), idx_lt hi, w64 (by omega) (by omega)]
    simp only [Option.bind_some, inner]
    cases (decide ((servedP f a)[i] ∈ servedP f b)) <;> rfl
theorem rsafe_sp (f : api_Fleet) (s : api_Rotation) (x : api_Step) : ref33_Safe f s x = some (safeP f s x) := by
  unfold ref33_Safe safeP
  simp only [rapply_sp, Option.bind_some, rsafe0_sp]
  cases ((applyP f s x).2 == 0) <;> simp
theorem rchoices_sp {f : api_Fleet} {s : api_Rotation} (h8 : f.Consumers.length ≤ 100) : ref33_Choices f s = some (choicesC (safeP f s) f.Consumers.length) := by
  have h1 : ∀ (k : Int) (acc : List api_Step), acc.length ≤ 1000 → iter (ref33_Choices_l1 f s (k, acc)) (0, acc) = some (acc ++ rowC (safeP f s) f.Consumers.length k) := fun k acc hacc => by
    have := iter_foldl2 (body := ref33_Choices_l1 f s (k, acc)) (List.range f.Consumers.length) (fun i a => ((i : Int), a)) (fun (a : List api_Step) (i : Nat) => if safeP f s ⟨k, (i : Int)⟩ = true then a ++ [⟨k, (i : Int)⟩] else a) id (fun i a => a.length ≤ 1000 + i) (fun i hi a ha => ?_) (fun a ha => ?_) acc (by simpa using hacc)
    · rw [fold_filter (fun i : Nat => safeP f s ⟨k, (i : Int)⟩) (fun i : Nat => (⟨k, (i : Int)⟩ : api_Step))] at this
      exact this
    · have hi' : i < f.Consumers.length := by simpa using hi
      unfold ref33_Choices_l1
      simp only [rsafe_sp, List.getElem_range, Option.bind_some]
      rw [if_pos (by simp; omega), w64 (by omega) (by omega)]
      by_cases hp : safeP f s ⟨k, (i : Int)⟩ = true
      · rw [if_pos hp, if_pos hp, ck_t (by simp; omega)]; exact ⟨rfl, by simp; omega⟩
      · rw [if_neg hp, if_neg hp]; exact ⟨rfl, by omega⟩
    · unfold ref33_Choices_l1
      simp only [List.length_range]
      rw [if_neg (by simp)]; rfl
  unfold ref33_Choices
  have := iter_foldl2 (body := ref33_Choices_l0 f s) (List.range 8) (fun i a => (((i + 1 : Nat) : Int), a)) (fun (a : List api_Step) (j : Nat) => a ++ rowC (safeP f s) f.Consumers.length ((j + 1 : Nat) : Int)) id (fun i a => a.length ≤ 100 * i) (fun i hi a ha => ?_) (fun a ha => ?_) [] (by simp)
  · rw [fold_flat (fun j : Nat => rowC (safeP f s) f.Consumers.length ((j + 1 : Nat) : Int))] at this
    simp only [List.nil_append, id] at this
    rw [show ((1 : Int), ([] : List api_Step)) = (((0 + 1 : Nat) : Int), []) from rfl, this]; rfl
  · have hi' : i < 8 := by simpa using hi
    have := rowC_len (safeP f s) f.Consumers.length ((i + 1 : Nat) : Int)
    unfold ref33_Choices_l0
    simp only [List.getElem_range]
    rw [if_pos (by simp; omega), h1 _ _ (by omega)]
    simp only [Option.bind_some]
    rw [w64 (by omega) (by omega)]
    exact ⟨rfl, by simp only [List.length_append]; omega⟩
  · unfold ref33_Choices_l0
    simp only [List.length_range]
    rw [if_neg (by simp)]; rfl
end Go.Vl
