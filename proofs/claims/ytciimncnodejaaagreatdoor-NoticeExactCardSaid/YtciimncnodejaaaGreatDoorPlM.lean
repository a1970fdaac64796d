/- Plain laws: maps as lists of pairs. Conditions: none. -/
import Derived.Test.YtciimncnodejaaaGreatDoorPlC
set_option linter.unusedSimpArgs false
set_option linter.unusedVariables false
namespace Go.Vl
open Go

section
variable {κ ν : Type} {e : κ → κ → Bool}
theorem mget_cons (q : κ × ν) (l : List (κ × ν)) (x : κ) : mget e (q :: l) x = if e x q.1 = true then some q.2 else mget e l x := by
  unfold mget
  rw [mfind]
  split
  · rfl
  · cases mfind e x l <;> rfl
theorem mset_cons (q : κ × ν) (l : List (κ × ν)) (x : κ) (v : ν) : mset e (q :: l) x v = if e x q.1 = true then (x, v) :: l else q :: mset e l x v := by
  unfold mset
  rw [mfind]
  by_cases h : e x q.1 = true
  · rw [if_pos h, if_pos h]; rfl
  · rw [if_neg h, if_neg h]
    cases mfind e x l <;> rfl
theorem mdel_cons (q : κ × ν) (l : List (κ × ν)) (x : κ) : mdel e (q :: l) x = if e x q.1 = true then l else q :: mdel e l x := by
  unfold mdel
  rw [mfind]
  by_cases h : e x q.1 = true
  · rw [if_pos h, if_pos h]; rfl
  · rw [if_neg h, if_neg h]
    cases mfind e x l <;> rfl
variable (he : ∀ a b, e a b = true ↔ a = b)
include he
theorem mget_mset : ∀ (l : List (κ × ν)) (x : κ) (v : ν) (c : κ), (c = x → mget e (mset e l x v) c = some v) ∧ (c ≠ x → mget e (mset e l x v) c = mget e l c)
  | [], x, v, c => by
    rw [mset_nil, mget_cons]
    refine ⟨fun h => by rw [if_pos ((he c x).2 h)], fun h => by rw [if_neg fun h2 => h ((he c x).1 h2)]⟩
  | q :: l, x, v, c => by
    rw [mset_cons]
    obtain ⟨i1, i2⟩ := mget_mset l x v c
    by_cases h : e x q.1 = true
    · rw [if_pos h]
      have := (he x q.1).1 h
      refine ⟨fun h2 => ?_, fun h2 => ?_⟩
      · rw [mget_cons, if_pos ((he c x).2 h2)]
      · rw [mget_cons, mget_cons, if_neg fun h3 => h2 ((he c x).1 h3), if_neg fun h3 => h2 (((he c q.1).1 h3).trans this.symm)]
    · rw [if_neg h]
      refine ⟨fun h2 => ?_, fun h2 => ?_⟩
      · subst h2
        rw [mget_cons, if_neg h]; exact i1 rfl
      · rw [mget_cons, mget_cons, i2 h2]
theorem mget_mem : ∀ {l : List (κ × ν)} {x : κ}, (mget e l x).isSome = true ↔ x ∈ l.map (·.1)
  | [], x => by simp [mget_nil]
  | q :: l, x => by
    rw [mget_cons, List.map_cons, List.mem_cons, ← mget_mem]
    by_cases h : e x q.1 = true
    · rw [if_pos h]; simp [(he x q.1).1 h]
    · rw [if_neg h]
      have : x ≠ q.1 := fun h2 => h ((he x q.1).2 h2)
      simp [this]
theorem mget_some {l : List (κ × ν)} {x : κ} {v : ν} (h : mget e l x = some v) : (x, v) ∈ l := by
  induction l with
  | nil => cases h
  | cons q l ih =>
    rw [mget_cons] at h
    split at h
    · rename_i h2
      have := (he x q.1).1 h2
      cases h
      subst this
      exact List.mem_cons_self ..
    · exact List.mem_cons_of_mem _ (ih h)
theorem mget_of {l : List (κ × ν)} (hn : (l.map (·.1)).Nodup) {x : κ} {v : ν} (h : (x, v) ∈ l) : mget e l x = some v := by
  induction l with
  | nil => cases h
  | cons q l ih =>
    rw [List.map_cons, List.nodup_cons] at hn
    rw [mget_cons]
    rcases List.mem_cons.1 h with rfl | h
    · rw [if_pos ((he x x).2 rfl)]
    · rw [if_neg fun h2 => hn.1 ((he x q.1).1 h2 ▸ List.mem_map.2 ⟨_, h, rfl⟩)]
      exact ih hn.2 h
theorem mset_keys : ∀ (l : List (κ × ν)) (x : κ) (v : ν), (x ∈ l.map (·.1) → (mset e l x v).map (·.1) = l.map (·.1)) ∧ (x ∉ l.map (·.1) → mset e l x v = l ++ [(x, v)])
  | [], x, v => ⟨fun h => by simp at h, fun _ => rfl⟩
  | q :: l, x, v => by
    rw [mset_cons]
    obtain ⟨i1, i2⟩ := mset_keys l x v
    by_cases h : e x q.1 = true
    · rw [if_pos h]
      have := (he x q.1).1 h
      exact ⟨fun _ => by simp [this], fun h2 => absurd (by simp [this]) h2⟩
    · rw [if_neg h]
      have hne : x ≠ q.1 := fun h2 => h ((he x q.1).2 h2)
      refine ⟨fun h2 => ?_, fun h2 => ?_⟩
      · rw [List.map_cons, List.map_cons, i1 (by simpa [hne] using h2)]
      · rw [List.cons_append, i2 (by simpa [hne] using h2)]
theorem mset_mem {l : List (κ × ν)} {x : κ} {v : ν} {c : κ} : c ∈ (mset e l x v).map (·.1) ↔ c = x ∨ c ∈ l.map (·.1) := by
  rw [← mget_mem he, ← mget_mem he]
  obtain ⟨h1, h2⟩ := mget_mset he l x v c
  by_cases h : c = x
  · rw [h1 h]; simp [h]
  · rw [h2 h]; simp [h]
theorem mset_nodup {l : List (κ × ν)} (hn : (l.map (·.1)).Nodup) (x : κ) (v : ν) : ((mset e l x v).map (·.1)).Nodup := by
  obtain ⟨h1, h2⟩ := mset_keys he l x v
  by_cases h : x ∈ l.map (·.1)
  · rw [h1 h]; exact hn
  · rw [h2 h, List.map_append, List.nodup_append]
    exact ⟨hn, by simp, fun a ha b hb => by simp at hb; subst hb; exact fun e => h (e ▸ ha)⟩
omit he in
theorem mdel_sub : ∀ (l : List (κ × ν)) (x : κ), (mdel e l x).Sublist l
  | [], x => List.Sublist.refl _
  | q :: l, x => by
    rw [mdel_cons]
    split
    · exact List.sublist_cons_self _ _
    · exact (mdel_sub l x).cons_cons _
omit he in
theorem mdel_nodup {l : List (κ × ν)} (hn : (l.map (·.1)).Nodup) (x : κ) : ((mdel e l x).map (·.1)).Nodup := hn.sublist ((mdel_sub l x).map _)
theorem mget_mdel : ∀ {l : List (κ × ν)}, (l.map (·.1)).Nodup → ∀ (x c : κ), (c = x → mget e (mdel e l x) c = none) ∧ (c ≠ x → mget e (mdel e l x) c = mget e l c)
  | [], _, x, c => by rw [mdel_nil]; exact ⟨fun _ => rfl, fun _ => rfl⟩
  | q :: l, hn, x, c => by
    rw [List.map_cons, List.nodup_cons] at hn
    rw [mdel_cons]
    obtain ⟨i1, i2⟩ := mget_mdel hn.2 x c
    by_cases h : e x q.1 = true
    · rw [if_pos h]
      have hx := (he x q.1).1 h
      refine ⟨fun h2 => ?_, fun h2 => ?_⟩
      · subst h2
        cases hg : mget e l c with
        | none => rfl
        | some v => exact absurd ((mget_mem he).1 (by rw [hg]; rfl)) (hx ▸ hn.1)
      · rw [mget_cons, if_neg fun h3 => h2 (((he c q.1).1 h3).trans hx.symm)]
    · rw [if_neg h]
      refine ⟨fun h2 => ?_, fun h2 => ?_⟩
      · subst h2
        rw [mget_cons, if_neg h]; exact i1 rfl
      · rw [mget_cons, mget_cons, i2 h2]
theorem mdel_mem {l : List (κ × ν)} (hn : (l.map (·.1)).Nodup) {x c : κ} : c ∈ (mdel e l x).map (·.1) ↔ c ≠ x ∧ c ∈ l.map (·.1) := by
  rw [← mget_mem he, ← mget_mem he]
  obtain ⟨h1, h2⟩ := mget_mdel he hn x c
  by_cases h : c = x
  · rw [h1 h]; simp [h]
  · rw [h2 h]; simp [h]
end
theorem inE_eq (a b : Int) : inE a b = true ↔ a = b := by unfold inE; exact beq_iff_eq
end Go.Vl
