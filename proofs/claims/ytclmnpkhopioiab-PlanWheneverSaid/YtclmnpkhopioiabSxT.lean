/- Plain laws of steps: the state behind a step is right and another one; what a step leaves alone. Conditions: none. -/
import Derived.Test.YtclmnpkhopioiabSxS
set_option linter.unusedSimpArgs false
set_option linter.unusedVariables false
namespace Go.Vl
open Go

/-! awake -/
def fA : api_Fleet := ⟨2, [⟨0, false, false⟩]⟩
def sA : api_Rotation := ⟨1, 1, [⟨true, 1, 1⟩]⟩
theorem fA_ok : FleetOk fA := by
  refine ⟨.inr rfl, by decide, by decide, fun i h => ?_⟩
  have : i = 0 := by simp [fA] at h; omega
  subst this; rfl
theorem sA_right : RightOk fA sA := start_right fA_ok
theorem apply_eq {f : api_Fleet} {s : api_Rotation} {x : api_Step} (hr : RightOk f s) (hk : kindOk f x) (ho : okStep f s x = true) : applyP f s x = (nextS f s x, 0) := by
  unfold applyP
  rw [if_neg (not_not_intro hr), if_neg (not_not_intro hk), if_neg (by rw [ho]; simp)]
theorem kA1 : kindOk fA ⟨1, 0⟩ := by unfold kindOk; decide
theorem kA5 : kindOk fA ⟨5, 0⟩ := by unfold kindOk; decide
theorem aA1 : applyP fA sA ⟨1, 0⟩ = (⟨3, 1, [⟨true, 1, 1⟩]⟩, 0) := apply_eq sA_right kA1 (by decide)
theorem aA5 : applyP fA sA ⟨5, 0⟩ = (⟨1, 1, [⟨false, 1, 0⟩]⟩, 0) := apply_eq sA_right kA5 (by decide)
theorem rA1 : RightOk fA ⟨3, 1, [⟨true, 1, 1⟩]⟩ := by have := (apply_right sA_right (x := ⟨1, 0⟩) (by rw [aA1])).1; rwa [aA1] at this
theorem rA5 : RightOk fA ⟨1, 1, [⟨false, 1, 0⟩]⟩ := by have := (apply_right sA_right (x := ⟨5, 0⟩) (by rw [aA5])).1; rwa [aA5] at this
theorem wA0 : servedRaw fA sA = [0] := by decide
theorem wA1 : servedRaw fA ⟨3, 1, [⟨true, 1, 1⟩]⟩ = [0] := by decide
theorem wA5 : servedRaw fA ⟨1, 1, [⟨false, 1, 0⟩]⟩ = [] := by decide
theorem safeA1 : safeP fA sA ⟨1, 0⟩ = true := by
  unfold safeP
  rw [aA1]
  have : holdsP fA sA ⟨3, 1, [⟨true, 1, 1⟩]⟩ := fun p hp => by
    rw [(servedP_ok sA_right).2, wA0] at hp
    rw [(servedP_ok rA1).2, wA1]; exact hp
  simp [this]
theorem safeA5 : safeP fA sA ⟨5, 0⟩ = false := by
  unfold safeP
  rw [aA5]
  have : ¬ holdsP fA sA ⟨1, 1, [⟨false, 1, 0⟩]⟩ := fun h => by
    have := h 0 (by rw [(servedP_ok sA_right).2, wA0]; simp)
    rw [(servedP_ok rA5).2, wA5] at this; cases this
  simp [this]
/-! A step leads elsewhere -/
theorem unit_ne {c : api_Consumer} {u : api_Unit} {k : Int} {b : Bool} (hs : u.Stored = 1 ∨ u.Stored = 2 ∨ u.Stored = 3) (h : (unitStep c u k b).1 = true) : (unitStep c u k b).2 ≠ u := by
  obtain ⟨u1, u2, u3⟩ := u
  have fx : ∀ v : api_Unit, (fixU c v).Stored = v.Stored ∧ (fixU c v).Up = v.Up := fun v => by unfold fixU; cases (c.Live && v.Up) <;> simp
  intro he
  have h1 : (unitStep c ⟨u1, u2, u3⟩ k b).2.Stored = u2 := by rw [he]
  have h2 : (unitStep c ⟨u1, u2, u3⟩ k b).2.Up = u1 := by rw [he]
  unfold unitStep at h h1 h2
  split at h
  · rename_i hk; rw [if_pos hk] at h1
    simp only [(fx _).1, Bool.and_eq_true, beq_iff_eq] at h h1
    cases hd : c.Dual <;> rw [hd] at h1 <;> simp at h1 <;> omega
  · rename_i hk; rw [if_neg hk] at h1 h2
    split at h
    · rename_i hk; rw [if_pos hk] at h1
      simp only [(fx _).1, beq_iff_eq] at h h1; omega
    · rename_i hk; rw [if_neg hk] at h1 h2
      split at h
      · rename_i hk; rw [if_pos hk] at h2; simp at h h2; rw [h] at h2; cases h2
      · rename_i hk; rw [if_neg hk] at h1 h2
        split at h
        · rename_i hk; rw [if_pos hk] at h2; simp at h h2; rw [h] at h2; cases h2
        · cases h
theorem next_ne {f : api_Fleet} {s : api_Rotation} {x : api_Step} (hr : RightOk f s) (hk : kindOk f x) (ho : okStep f s x = true) : s ≠ nextS f s x := by
  obtain ⟨k, v, us⟩ := s
  intro he
  obtain ⟨hf, hkn, hb, hl, hu⟩ := hr
  obtain ⟨k1, k2, k3, k4, k5⟩ := hk
  unfold okStep at ho
  unfold nextS at he
  simp only at hkn hb hl hu ho he
  split at ho
  · rename_i h1; rw [if_pos h1] at he
    simp only [api_Rotation.mk.injEq, beq_iff_eq] at he ho; omega
  · rename_i h1; rw [if_neg h1] at he
    split at ho
    · rename_i h1; rw [if_pos h1] at he
      simp only [api_Rotation.mk.injEq, beq_iff_eq, Bool.and_eq_true] at he ho; omega
    · rename_i h1; rw [if_neg h1] at he
      split at ho
      · rename_i h1; rw [if_pos h1] at he
        simp only [api_Rotation.mk.injEq, beq_iff_eq, Bool.and_eq_true] at he ho; omega
      · rename_i h1; rw [if_neg h1] at he
        split at ho
        · rename_i h1; rw [if_pos h1] at he
          simp only [api_Rotation.mk.injEq, beq_iff_eq] at he ho; omega
        · rename_i h1; rw [if_neg h1] at he
          simp only [api_Rotation.mk.injEq, true_and] at he
          have hi : x.Unit.toNat < us.length := by omega
          have h' : x.Unit.toNat < f.Consumers.length := by omega
          have e1 : f.Consumers.getD x.Unit.toNat default = f.Consumers[x.Unit.toNat] := by simp [List.getD, h']
          have e2 : us.getD x.Unit.toNat default = us[x.Unit.toNat] := by simp [List.getD, hi]
          rw [e1, e2] at ho he
          have := congrArg (fun l => l[x.Unit.toNat]?) he
          simp [hi] at this
          exact unit_ne (unitP_stored (hu _ hi h')) ho this.symm
theorem next_known {f : api_Fleet} {s : api_Rotation} {x : api_Step} (hr : RightOk f s) (ho : okStep f s x = true) : ((nextS f s x).Known = s.Known ∨ (nextS f s x).Known = 3) ∧ ((nextS f s x).Valid = s.Valid ∨ ((nextS f s x).Valid = 3 ∧ s.Valid = 1) ∨ (nextS f s x).Valid = 2) := by
  unfold okStep at ho
  unfold nextS
  split at ho
  · rename_i h1; rw [if_pos h1]; exact ⟨.inr rfl, .inl rfl⟩
  · rename_i h1; rw [if_neg h1]
    split at ho
    · rename_i h1; rw [if_pos h1]
      simp only [beq_iff_eq, Bool.and_eq_true] at ho; exact ⟨.inl rfl, .inr (.inl ⟨rfl, ho.2.1⟩)⟩
    · rename_i h1; rw [if_neg h1]
      split at ho
      · rename_i h1; rw [if_pos h1]; exact ⟨.inl rfl, .inr (.inr rfl)⟩
      · rename_i h1; rw [if_neg h1]
        split at ho
        · rename_i h1; rw [if_pos h1]; exact ⟨.inl rfl, .inr (.inr rfl)⟩
        · rename_i h1; rw [if_neg h1]; exact ⟨.inl rfl, .inl rfl⟩
theorem apply_err {f : api_Fleet} {s : api_Rotation} {x : api_Step} (hr : RightOk f s) (hk : kindOk f x) (h : (applyP f s x).2 ≠ 0) : (applyP f s x).2 = 37 := by
  unfold applyP at h ⊢
  rw [if_neg (not_not_intro hr), if_neg (not_not_intro hk)] at h ⊢
  split at h
  · rename_i h1; rw [if_pos h1]
  · simp at h
theorem bx13 : bAnd .i64 1 1 = 1 := by decide
theorem bx21 : bAnd .i64 2 1 = 0 := by decide
theorem bx31 : bAnd .i64 3 1 = 1 := by decide
theorem bx12 : bAnd .i64 1 2 = 0 := by decide
theorem bx22 : bAnd .i64 2 2 = 2 := by decide
theorem bx32 : bAnd .i64 3 2 = 2 := by decide
theorem bn11 : bAndNot .i64 1 1 = 0 := by decide
theorem bn13 : bAndNot .i64 1 3 = 0 := by decide
theorem bn33 : bAndNot .i64 3 3 = 0 := by decide

theorem bits_go {k v nk nv : Int} (hk : k = 1 ∨ k = 3) (hv : v = 1 ∨ v = 2 ∨ v = 3) (h1 : nk = k ∨ nk = 3) (h2 : nv = v ∨ (nv = 3 ∧ v = 1) ∨ nv = 2) :
    (if ((bAnd .i64 nv 1) != 0) = true then
        if ((bAnd .i64 v 1) == 0) = true then
          some true
        else
        if ((bAndNot .i64 k nk) != 0) = true then
          some true
        else
        if ((bAnd .i64 v 2) != 0) = true then
          some ((bAnd .i64 nv 2) == 0)
        else
          some false
      else
      if ((bAndNot .i64 k nk) != 0) = true then
        some true
      else
      if ((bAnd .i64 v 2) != 0) = true then
        some ((bAnd .i64 nv 2) == 0)
      else
        some false) = some false := by
  have h3 : bAndNot .i64 k nk = 0 := by
    rcases hk with rfl | rfl <;> rcases h1 with rfl | rfl <;> first | exact bn11 | exact bn13 | exact bn33
  rw [h3]
  rcases hv with rfl | rfl | rfl <;> rcases h2 with rfl | ⟨rfl, h2⟩ | rfl <;> simp [bx13, bx21, bx31, bx12, bx22, bx32] <;> omega
abbrev SR : Type := Int × (List Int) × Int × Int × Int × (List api_Unit)
def invR (f : api_Fleet) (n : Int) (s : SR) : Prop := 0 ≤ s.1 ∧ s.1 ≤ n ∧ TOk ⟨s.2.1, s.2.2.1⟩ ∧ RightOk f ⟨s.2.2.2.1, s.2.2.2.2.1, s.2.2.2.2.2⟩
theorem tape0 {a : List Int} (h : ¬ 300 < (a.length : Int)) : TOk ⟨a, 0⟩ := ⟨by simp, by simp, by simp; omega⟩
/-! What a step leaves alone -/
theorem next_apart {f : api_Fleet} {s : api_Rotation} {x : api_Step} (hk : kindOk f x) (hl : s.Units.length = f.Consumers.length) : (nextS f s x).Units.length = s.Units.length ∧ ((4 ≤ x.Kind ∧ x.Kind ≤ 7) → (nextS f s x).Known = s.Known ∧ (nextS f s x).Valid = s.Valid) ∧
    ∀ (i : Nat), (¬ (4 ≤ x.Kind ∧ x.Kind ≤ 7) ∨ (i : Int) ≠ x.Unit) → (nextS f s x).Units[i]? = s.Units[i]? := by
  obtain ⟨k1, k2, k3, k4, k5⟩ := hk
  unfold nextS
  split
  · exact ⟨rfl, fun h => by omega, fun i h => rfl⟩
  · split
    · exact ⟨rfl, fun h => by omega, fun i h => rfl⟩
    · split
      · exact ⟨rfl, fun h => by omega, fun i h => rfl⟩
      · split
        · exact ⟨rfl, fun h => by omega, fun i h => rfl⟩
        · refine ⟨by simp, fun _ => ⟨rfl, rfl⟩, fun i h => ?_⟩
          simp only [List.getElem?_set]
          rw [if_neg (by omega)]
end Go.Vl
