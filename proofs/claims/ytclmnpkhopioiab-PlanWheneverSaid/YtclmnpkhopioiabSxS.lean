/- Plain laws of steps: equal states, which pools are served, which steps are safe; the first laws of chapter 33. Conditions: none. -/
import Derived.Test.YtclmnpkhopioiabSxR
set_option linter.unusedSimpArgs false
set_option linter.unusedVariables false
namespace Go.Vl
open Go

/-! What is sorted and compact -/
theorem compact_ok {zs : List Int} (hs : zs.Pairwise (· ≤ ·)) : (Lib.compact zs).Pairwise (· < ·) ∧ ∀ x, x ∈ Lib.compact zs ↔ x ∈ zs := by
  have key : ∀ m, m ≤ zs.length → (Lib.compactUpTo zs.toArray m).Pairwise (· < ·) ∧ (∀ x, x ∈ Lib.compactUpTo zs.toArray m ↔ x ∈ zs.take m) ∧ ∀ x ∈ Lib.compactUpTo zs.toArray m, ∀ y, zs[m - 1]? = some y → x ≤ y := fun m => by
    induction m with
    | zero => intro _; refine ⟨by simp [Lib.compactUpTo], by simp [Lib.compactUpTo], by simp [Lib.compactUpTo]⟩
    | succ m ih =>
      intro hm
      obtain ⟨i1, i2, i3⟩ := ih (by omega)
      have hmz : m < zs.length := by omega
      have ed : zs.toArray[m]! = zs[m] := by simp [hmz]
      rw [Lib.compactUpTo_succ, ed]
      have htake : ∀ x, x ∈ zs.take (m + 1) ↔ x ∈ zs.take m ∨ x = zs[m] := fun x => by rw [List.take_add_one, List.getElem?_eq_getElem hmz, Option.toList_some, List.mem_append, List.mem_singleton]
      have hle : ∀ x ∈ Lib.compactUpTo zs.toArray m, x ≤ zs[m] := fun x hx => by
        have := (i2 x).1 hx
        obtain ⟨j, hj, e⟩ := List.mem_take_iff_getElem.1 this
        rw [← e]
        exact List.pairwise_iff_getElem.1 hs j m (by omega) hmz (by omega)
      have hy : ∀ y, zs[m + 1 - 1]? = some y → y = zs[m] := fun y h => by simp [hmz] at h; exact h.symm
      cases hk : Lib.keeps zs.toArray m with
      | true =>
        simp only [if_true]
        have hlt : ∀ x ∈ Lib.compactUpTo zs.toArray m, x < zs[m] := fun x hx => by
          simp only [Lib.keeps, decide_eq_true_eq] at hk
          rcases hk with hk | hk
          · subst hk; simp [Lib.compactUpTo] at hx
          · have hm0 : m ≠ 0 := fun e => by subst e; simp [Lib.compactUpTo] at hx
            have hp : m - 1 < zs.length := by omega
            have e1 : zs.toArray[m - 1]! = zs[m - 1] := by simp [hp]
            rw [ed, e1] at hk
            have h1 := i3 x hx zs[m - 1] (List.getElem?_eq_getElem hp)
            have h2 : zs[m - 1] ≤ zs[m] := List.pairwise_iff_getElem.1 hs (m - 1) m hp hmz (by omega)
            omega
        refine ⟨List.pairwise_append.2 ⟨i1, by simp, fun x hx y hy => by simp at hy; subst hy; exact hlt x hx⟩, fun x => ?_, fun x hx y hy' => ?_⟩
        · rw [htake, List.mem_append, i2]; simp
        · rw [hy y hy']
          rw [List.mem_append] at hx
          rcases hx with hx | hx
          · exact hle x hx
          · simp at hx; omega
      | false =>
        simp only [Bool.false_eq_true, if_false, List.append_nil]
        have hm0 : m ≠ 0 := fun e => by subst e; simp [Lib.keeps] at hk
        have hp : m - 1 < zs.length := by omega
        have e0 : zs[m] = zs[m - 1] := by
          simp only [Lib.keeps, decide_eq_false_iff_not, not_or, ne_eq, Decidable.not_not] at hk
          have e1 : zs.toArray[m - 1]! = zs[m - 1] := by simp [hp]
          rw [← ed, ← e1]; exact hk.2
        refine ⟨i1, fun x => ?_, fun x hx y hy' => by rw [hy y hy']; exact hle x hx⟩
        rw [htake, i2]
        constructor
        · exact .inl
        · rintro (h | h)
          · exact h
          · rw [h, e0]; exact List.mem_take_iff_getElem.2 ⟨m - 1, by omega, rfl⟩
  have h := key zs.length (Nat.le_refl _)
  rw [List.take_length] at h
  exact ⟨by simpa [Lib.compact] using h.1, fun x => by simpa [Lib.compact] using h.2.1 x⟩
theorem sorted_merge (l : List Int) : (l.mergeSort fun x y => decide (x ≤ y)).Pairwise (· ≤ ·) := by
  have := List.pairwise_mergeSort (le := fun x y : Int => decide (x ≤ y)) (fun a b c h1 h2 => by simp at h1 h2 ⊢; omega) (fun a b => by simp; omega) l
  exact this.imp fun h => by simpa using h
theorem mem_merge (l : List Int) (x : Int) : x ∈ (l.mergeSort fun x y => decide (x ≤ y)) ↔ x ∈ l := List.mem_mergeSort

/-! Who is served -/
def servesU (s : api_Rotation) (u : api_Unit) : Bool := bAnd .i64 u.Used s.Valid != 0
def servedRaw (f : api_Fleet) (s : api_Rotation) : List Int := ((f.Consumers.zip s.Units).filter fun q => servesU s q.2).map fun q => q.1.Pool
def servedP (f : api_Fleet) (s : api_Rotation) : List Int := if RightOk f s then Lib.compact ((servedRaw f s).mergeSort fun x y => decide (x ≤ y)) else []
theorem servedP_ok {f : api_Fleet} {s : api_Rotation} (hr : RightOk f s) : (servedP f s).Pairwise (· < ·) ∧ ∀ p, p ∈ servedP f s ↔ p ∈ servedRaw f s := by
  unfold servedP
  rw [if_pos hr]
  obtain ⟨h1, h2⟩ := compact_ok (sorted_merge (servedRaw f s))
  exact ⟨h1, fun p => by rw [h2, mem_merge]⟩
theorem served_sp (f : api_Fleet) (s : api_Rotation) : fleet_Served f s = some (servedP f s) := by
  unfold fleet_Served servedP
  rw [right_sp]
  by_cases hr : RightOk f s
  case neg => simp [hr]
  simp only [hr, decide_true, Option.bind_some, if_true]
  rw [if_neg (by simp)]
  obtain ⟨l0, l8⟩ := hr.len
  have hlen := hr.2.2.2.1
  have hz : (f.Consumers.zip s.Units).length = f.Consumers.length := by simp; omega
  have hloop : iter (fleet_Served_l0 f s) (0, []) = some ((f.Consumers.zip s.Units).foldl (fun (a : List Int) q => if servesU s q.2 = true then a ++ [q.1.Pool] else a) []) := by
    refine iter_foldl (f.Consumers.zip s.Units) (fun (a : List Int) q => if servesU s q.2 = true then a ++ [q.1.Pool] else a) id (fun i a => a.length ≤ i) (fun i hi a ha => ?_) (fun a ha => ?_) [] (Nat.le_refl 0)
    · have hi1 : i < f.Consumers.length := by omega
      have hi2 : i < s.Units.length := by omega
      unfold fleet_Served_l0
      simp only
      rw [if_pos (by simp; omega), idx_lt hi1, idx_lt hi2]
      simp only [Option.bind_some, List.getElem_zip, servesU]
      rw [w64 (by omega) (by omega)]
      by_cases hu : (bAnd .i64 s.Units[i].Used s.Valid != 0) = true
      · rw [if_pos hu, if_pos hu, ck_t (by simp; omega)]
        exact ⟨rfl, by simp; omega⟩
      · rw [if_neg hu, if_neg hu]
        exact ⟨rfl, by omega⟩
    · unfold fleet_Served_l0
      simp only
      rw [hz, if_neg (by simp)]; rfl
  have hfold : ∀ (l : List (api_Consumer × api_Unit)) (a : List Int), l.foldl (fun (a : List Int) q => if servesU s q.2 = true then a ++ [q.1.Pool] else a) a = a ++ (l.filter fun q => servesU s q.2).map fun q => q.1.Pool := fun l => by
    induction l with
    | nil => intro a; simp
    | cons q l ih =>
      intro a
      simp only [List.foldl_cons, ih, List.filter_cons]
      split <;> simp
  rw [hloop, hfold]
  simp only [Option.bind_some, List.nil_append]
  have hraw : (servedRaw f s).length ≤ 8 := by
    unfold servedRaw
    rw [List.length_map]
    exact Nat.le_trans (List.length_filter_le _ _) (by omega)
  show (slices_Sort_int_vec0 (servedRaw f s)).bind _ = _
  unfold slices_Sort_int_vec0 slices_Compact_int_eat0_own0
  rw [ck_t (by omega)]
  simp only [Option.bind_some]
  rw [ck_t (by simp; omega)]
  simp only [Option.bind_some]

theorem index_sp {l : List Int} (hl : l.length ≤ 1000000) (x : Int) : slices_Contains_int l x = some (decide (x ∈ l)) := by
  have key : ∀ (m i : Nat), i + m = l.length → ∃ e, iter (slices_Index_int_l0 l x) (i : Int) = some e ∧ ((e = .inl () ∧ ∀ j, i ≤ j → (h : j < l.length) → l[j] ≠ x) ∨ (∃ j : Nat, e = .inr (j : Int) ∧ ∃ h : j < l.length, l[j] = x)) := fun m => by
    induction m with
    | zero =>
      intro i h
      refine ⟨.inl (), iter_out ?_, .inl ⟨rfl, fun j h1 h2 => by omega⟩⟩
      unfold slices_Index_int_l0
      rw [if_neg (by simp; omega)]
    | succ m ih =>
      intro i h
      have hi : i < l.length := by omega
      by_cases hp : l[i] = x
      · refine ⟨.inr (i : Int), iter_out ?_, .inr ⟨i, rfl, hi, hp⟩⟩
        unfold slices_Index_int_l0
        rw [if_pos (by simp; omega), idx_lt hi]
        simp only [Option.bind_some]
        rw [if_pos (by simp [hp])]
      · obtain ⟨e, h1, h2⟩ := ih (i + 1) (by omega)
        refine ⟨e, ?_, ?_⟩
        · rw [← h1]
          refine iter_go ?_
          unfold slices_Index_int_l0
          rw [if_pos (by simp; omega), idx_lt hi]
          simp only [Option.bind_some]
          rw [if_neg (by simpa using fun e => hp e.symm), w64 (by omega) (by omega)]; rfl
        · rcases h2 with ⟨h3, h4⟩ | h3
          · exact .inl ⟨h3, fun j h5 h6 => by
              rcases Nat.lt_or_eq_of_le h5 with h7 | h7
              · exact h4 j h7 h6
              · subst h7; exact hp⟩
          · exact .inr h3
  obtain ⟨e, h1, h2⟩ := key l.length 0 (by omega)
  unfold slices_Contains_int slices_Index_int
  rw [show (0 : Int) = ((0 : Nat) : Int) from rfl, h1]
  rcases h2 with ⟨rfl, h3⟩ | ⟨j, rfl, h4, h5⟩
  · simp only [Option.bind_some]
    have : ¬ x ∈ l := fun h => by obtain ⟨j, hj, e⟩ := List.getElem_of_mem h; exact h3 j (Nat.zero_le j) hj e
    simp [this]
  · simp only [Option.bind_some]
    have : x ∈ l := h5 ▸ List.getElem_mem h4
    simp [this]
theorem holds_loop {l b : List Int} (hl : l.length ≤ 1000000) (hb : b.length ≤ 1000000) : slices_ContainsFunc_int_at_steps_holds_1_b l b = some (decide (¬ ∀ p ∈ l, p ∈ b), b) := by
  have key : ∀ (m i : Nat), i + m = l.length → ∃ e, iter (slices_IndexFunc_int_at_steps_holds_1_b_l0 l) ((i : Int), b) = some e ∧ ((e = .inl b ∧ ∀ j, i ≤ j → (h : j < l.length) → l[j] ∈ b) ∨ (∃ j : Nat, e = .inr ((j : Int), b) ∧ ∃ h : j < l.length, ¬ l[j] ∈ b)) := fun m => by
    induction m with
    | zero =>
      intro i h
      refine ⟨.inl b, iter_out ?_, .inl ⟨rfl, fun j h1 h2 => by omega⟩⟩
      unfold slices_IndexFunc_int_at_steps_holds_1_b_l0
      simp only
      rw [if_neg (by simp; omega)]
    | succ m ih =>
      intro i h
      have hi : i < l.length := by omega
      by_cases hp : l[i] ∈ b
      · obtain ⟨e, h1, h2⟩ := ih (i + 1) (by omega)
        refine ⟨e, ?_, ?_⟩
        · rw [← h1]
          refine iter_go ?_
          unfold slices_IndexFunc_int_at_steps_holds_1_b_l0
          simp only
          rw [if_pos (by simp; omega), idx_lt hi]
          simp only [Option.bind_some, steps_holds_1_cb, index_sp hb]
          rw [if_neg (by simp [hp]), w64 (by omega) (by omega)]; rfl
        · rcases h2 with ⟨h3, h4⟩ | h3
          · exact .inl ⟨h3, fun j h5 h6 => by
              rcases Nat.lt_or_eq_of_le h5 with h7 | h7
              · exact h4 j h7 h6
              · subst h7; exact hp⟩
          · exact .inr h3
      · refine ⟨.inr ((i : Int), b), iter_out ?_, .inr ⟨i, rfl, hi, hp⟩⟩
        unfold slices_IndexFunc_int_at_steps_holds_1_b_l0
        simp only
        rw [if_pos (by simp; omega), idx_lt hi]
        simp only [Option.bind_some, steps_holds_1_cb, index_sp hb]
        rw [if_pos (by simp [hp])]
  obtain ⟨e, h1, h2⟩ := key l.length 0 (by omega)
  unfold slices_ContainsFunc_int_at_steps_holds_1_b slices_IndexFunc_int_at_steps_holds_1_b
  rw [show ((0 : Int), b) = (((0 : Nat) : Int), b) from rfl, h1]
  rcases h2 with ⟨rfl, h3⟩ | ⟨j, rfl, h4, h5⟩
  · simp only [Option.bind_some]
    have : ∀ p ∈ l, p ∈ b := fun p hp => by obtain ⟨j, hj, e⟩ := List.getElem_of_mem hp; exact e ▸ h3 j (Nat.zero_le j) hj
    simp
    exact this
  · simp only [Option.bind_some]
    have : ¬ ∀ p ∈ l, p ∈ b := fun h => h5 (h _ (List.getElem_mem h4))
    simp [this]
theorem servedP_len (f : api_Fleet) (s : api_Rotation) : (servedP f s).length ≤ 8 := by
  unfold servedP
  split
  · rename_i hr
    obtain ⟨l0, l8⟩ := hr.len
    refine Nat.le_trans (compact_len _) ?_
    rw [List.length_mergeSort]
    unfold servedRaw
    rw [List.length_map]
    refine Nat.le_trans (List.length_filter_le _ _) ?_
    simp; omega
  · simp
def holdsP (f : api_Fleet) (a b : api_Rotation) : Prop := ∀ p ∈ servedP f a, p ∈ servedP f b
instance (f : api_Fleet) (a b : api_Rotation) : Decidable (holdsP f a b) := by unfold holdsP; infer_instance
theorem holds_sp (f : api_Fleet) (a b : api_Rotation) : steps_holds f a b = some (decide (holdsP f a b)) := by
  unfold steps_holds
  simp only [served_sp, Option.bind_some]
  rw [holds_loop (by have := servedP_len f a; omega) (by have := servedP_len f b; omega)]
  simp only [Option.bind_some, holdsP]
  congr 1
  by_cases h : ∀ p ∈ servedP f a, p ∈ servedP f b
  · rw [decide_eq_false (not_not_intro h), decide_eq_true h]; rfl
  · rw [decide_eq_true h, decide_eq_false h]; rfl
def safeP (f : api_Fleet) (s : api_Rotation) (x : api_Step) : Bool := (applyP f s x).2 == 0 && decide (holdsP f s (applyP f s x).1)
theorem safe_sp (f : api_Fleet) (s : api_Rotation) (x : api_Step) : steps_Safe f s x = some (safeP f s x) := by
  unfold steps_Safe safeP
  simp only [apply_sp, Option.bind_some, holds_sp]
  cases ((applyP f s x).2 == 0) <;> simp
end Go.Vl
