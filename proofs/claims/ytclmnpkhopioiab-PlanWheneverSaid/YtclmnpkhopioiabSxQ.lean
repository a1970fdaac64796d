/- Plain laws of steps: what a step leads to. Conditions: none. -/
import Derived.Test.YtclmnpkhopioiabSxP
set_option linter.unusedSimpArgs false
set_option linter.unusedVariables false
namespace Go.Vl
open Go

def fixU (c : api_Consumer) (u : api_Unit) : api_Unit := bif c.Live && u.Up then ⟨u.Up, u.Stored, u.Stored⟩ else u
def unitStep (c : api_Consumer) (u : api_Unit) (kind : Int) (issued : Bool) : Bool × api_Unit :=
  if kind = 4 then (issued && u.Stored == 1, fixU c ⟨u.Up, bif c.Dual then 3 else 2, u.Used⟩)
  else if kind = 7 then (u.Stored == 3, fixU c ⟨u.Up, 2, u.Used⟩)
  else if kind = 5 then (u.Up, ⟨false, u.Stored, 0⟩)
  else if kind = 6 then (!u.Up, ⟨true, u.Stored, u.Stored⟩)
  else (false, fixU c u)
def issuerB (k : Int) : Bool := k == 1 || k == 2 || k == 3 || k == 8
def kindOk (f : api_Fleet) (x : api_Step) : Prop := 1 ≤ x.Kind ∧ x.Kind ≤ 8 ∧ 0 ≤ x.Unit ∧ x.Unit < f.Consumers.length ∧ (issuerB x.Kind = true → x.Unit = 0)
instance (f : api_Fleet) (x : api_Step) : Decidable (kindOk f x) := by unfold kindOk; infer_instance
def okStep (f : api_Fleet) (s : api_Rotation) (x : api_Step) : Bool :=
  if x.Kind = 1 then s.Known == 1 else if x.Kind = 2 then s.Known == 3 && (s.Valid == 1 && f.Slots == 2) else if x.Kind = 3 then s.Known == 3 && s.Valid == 1 else if x.Kind = 8 then s.Valid == 3
  else (unitStep (f.Consumers.getD x.Unit.toNat default) (s.Units.getD x.Unit.toNat default) x.Kind (s.Known == 3)).1
def nextS (f : api_Fleet) (s : api_Rotation) (x : api_Step) : api_Rotation :=
  if x.Kind = 1 then ⟨3, s.Valid, s.Units⟩ else if x.Kind = 2 then ⟨s.Known, 3, s.Units⟩ else if x.Kind = 3 then ⟨s.Known, 2, s.Units⟩ else if x.Kind = 8 then ⟨s.Known, 2, s.Units⟩
  else ⟨s.Known, s.Valid, s.Units.set x.Unit.toNat (unitStep (f.Consumers.getD x.Unit.toNat default) (s.Units.getD x.Unit.toNat default) x.Kind (s.Known == 3)).2⟩
def zeroR : api_Rotation := ⟨0, 0, []⟩
def applyP (f : api_Fleet) (s : api_Rotation) (x : api_Step) : api_Rotation × Int :=
  if ¬ RightOk f s then (zeroR, 36) else if ¬ kindOk f x then (zeroR, 2) else if okStep f s x = false then (zeroR, 37) else (nextS f s x, 0)

theorem and1_2 : bAnd .i64 1 2 = 0 := by decide
theorem and3_2 : bAnd .i64 3 2 = 2 := by decide
theorem or1_2 : bOr .i64 1 2 = 3 := by decide
theorem or3_2 : bOr .i64 3 2 = 3 := by decide
theorem knownB {k : Int} (h : k = 1 ∨ k = 3) : (bAnd .i64 k 2 != 0) = (k == 3) ∧ (bAnd .i64 k 2 == 0) = (k == 1) ∧ bOr .i64 k 2 = 3 := by
  rcases h with rfl | rfl
  · rw [and1_2, or1_2]; decide
  · rw [and3_2, or3_2]; decide
theorem copy_sp {s : api_Rotation} (h0 : 0 < s.Units.length) (h8 : s.Units.length ≤ 1000) : fleet_Copy_own2 s = some s := by
  unfold fleet_Copy_own2 slices_Clone_api_Unit_own0
  rw [ck_t ⟨by omega, h0⟩]; rfl
theorem rcopy_sp {s : api_Rotation} (h8 : s.Units.length ≤ 1000) : ref32_Copy_own2 s = some s := by
  unfold ref32_Copy_own2
  rw [ck_t (by omega)]; rfl
theorem RightOk.len {f : api_Fleet} {s : api_Rotation} (h : RightOk f s) : 0 < s.Units.length ∧ s.Units.length ≤ 8 := by
  have h1 := h.1.2.1; have h2 := h.1.2.2.1; have h3 := h.2.2.2.1; omega
theorem RightOk.unit {f : api_Fleet} {s : api_Rotation} (h : RightOk f s) {i : Nat} (hi : i < s.Units.length) (hi' : i < f.Consumers.length) : unitP f.Consumers[i] s.Units[i] s.Known = true := h.2.2.2.2 i hi hi'
theorem bitsP_val {x k : Int} {t : Bool} (h : bitsP x k t = true) : (x = 1 ∨ x = 2 ∨ x = 3) ∧ (bAndNot .i64 x k = 0) ∧ (t = true ∨ x ≠ 3) := by
  simp only [bitsP, Bool.and_eq_true, decide_eq_true_eq, beq_iff_eq, Bool.or_eq_true, bne_iff_ne] at h
  exact ⟨by omega, h.2.2.1, h.2.2.2⟩
theorem unitP_stored {c : api_Consumer} {u : api_Unit} {k : Int} (h : unitP c u k = true) : (u.Stored = 1 ∨ u.Stored = 2 ∨ u.Stored = 3) := by
  simp only [unitP, Bool.and_eq_true] at h
  exact (bitsP_val h.1).1

theorem change_sp {f : api_Fleet} {s : api_Rotation} {x : api_Step} {i : Nat} (hx : x.Unit = (i : Int)) (hi : i < s.Units.length) (hi' : i < f.Consumers.length) (b : Bool) :
    steps_change_el1_2 f.Consumers[i] s x.Unit x.Kind b = some ((unitStep f.Consumers[i] s.Units[i] x.Kind b).1, ⟨s.Known, s.Valid, s.Units.set i (unitStep f.Consumers[i] s.Units[i] x.Kind b).2⟩) := by
  have hset : ∀ u : api_Unit, idx (s.Units.set i u) (i : Int) = some u := fun u => by rw [idx_lt (by simpa using hi)]; simp
  have hself : s.Units.set i s.Units[i] = s.Units := List.set_getElem_self hi
  have j0 : ∀ (b : Bool) (u : api_Unit), steps_change_el1_2_j0 f.Consumers[i] x.Unit s (b, s.Units.set i u) = some (b, ⟨s.Known, s.Valid, s.Units.set i (fixU f.Consumers[i] u)⟩) := fun b u => by
    unfold steps_change_el1_2_j0 fixU
    rw [hx]
    simp only [hset, Option.bind_some, Int.toNat_natCast, List.set_set]
    cases hL : f.Consumers[i].Live with
    | false => simp
    | true => cases hU : u.Up <;> simp [hU]
  unfold steps_change_el1_2 unitStep
  rw [hx] at j0 ⊢
  simp only [idx_lt hi, Option.bind_some, Int.toNat_natCast]
  by_cases h4 : x.Kind = 4
  · simp only [h4]
    cases hD : f.Consumers[i].Dual <;> cases b <;> simp [j0]
  · by_cases h7 : x.Kind = 7
    · simp [h7, j0]
    · by_cases h5 : x.Kind = 5
      · simp [h5]
      · by_cases h6 : x.Kind = 6
        · simp [h6]
        · have := j0 false s.Units[i]
          rw [hself] at this
          simp [h4, h5, h6, h7, this]

theorem apply_sp (f : api_Fleet) (s : api_Rotation) (x : api_Step) : steps_Apply f s x = some (applyP f s x) := by
  unfold steps_Apply applyP
  simp only [Option.bind_some, right_sp]
  by_cases hr : RightOk f s
  case neg => simp [hr, zeroR]
  obtain ⟨l0, l8⟩ := hr.len
  have hlen := hr.2.2.2.1
  simp only [hr, decide_true, not_true, if_false]
  have hv : ((decide (x.Kind < 1)) || ((decide (8 < x.Kind)) || ((decide (x.Unit < 0)) || ((decide (((s.Units).length : Int) ≤ x.Unit)) || ((bif (decide (1 ≤ x.Kind)) then ((decide (x.Kind ≤ 3)) || (x.Kind == 8)) else (x.Kind == 8)) && (x.Unit != 0)))))) = decide (¬ kindOk f x) := by
    rw [Bool.eq_iff_iff, decide_eq_true_eq]
    simp only [kindOk, issuerB, Bool.or_eq_true, Bool.and_eq_true, decide_eq_true_eq, beq_iff_eq, bne_iff_ne, cond_eq_ite]
    constructor
    · intro h hk
      obtain ⟨k1, k2, k3, k4, k5⟩ := hk
      rcases h with h | h | h | h | ⟨h, h'⟩
      · omega
      · omega
      · omega
      · omega
      · rw [if_pos k1] at h
        simp only [Bool.or_eq_true, decide_eq_true_eq, beq_iff_eq] at h
        exact h' (k5 (by omega))
    · intro h
      refine Classical.byContradiction fun hn => h ?_
      simp only [not_or, not_and, Int.not_lt, Int.not_le] at hn
      refine ⟨by omega, by omega, by omega, by omega, fun hk => Classical.byContradiction fun hu => ?_⟩
      have := hn.2.2.2.2
      rw [if_pos (by omega)] at this
      simp only [Bool.or_eq_true, decide_eq_true_eq, beq_iff_eq] at this
      exact this (by omega) hu
  rw [hv]
  by_cases hk : kindOk f x
  case neg => simp [hk, zeroR]
  simp only [hk, not_true, decide_false, if_false]
  rw [if_neg (by simp), if_neg (by simp), copy_sp l0 (by omega)]
  obtain ⟨k1, k2, k3, k4, k5⟩ := hk
  obtain ⟨i, hi⟩ : ∃ i : Nat, x.Unit = (i : Int) := ⟨x.Unit.toNat, by omega⟩
  have hi1 : i < s.Units.length := by omega
  have hi2 : i < f.Consumers.length := by omega
  obtain ⟨b1, b2, b3⟩ := knownB hr.2.1
  have hstep : steps_step_o1_2 f s x = some (okStep f s x, nextS f s x) := by
    unfold steps_step_o1_2 okStep nextS
    simp only [b1, b3, Option.bind_some]
    by_cases h1 : x.Kind = 1
    · simp only [h1]
      rcases hr.2.1 with hk | hk <;> simp [hk]
    · by_cases h2 : x.Kind = 2
      · simp [h2]
      · by_cases h3 : x.Kind = 3
        · simp [h3]
        · by_cases h8 : x.Kind = 8
          · simp [h8]
          · have e1 : f.Consumers.getD x.Unit.toNat default = f.Consumers[i] := by rw [hi]; simp [List.getD, hi2]
            have e2 : s.Units.getD x.Unit.toNat default = s.Units[i] := by rw [hi]; simp [List.getD, hi1]
            simp only [h1, h2, h3, h8, if_false, e1, e2]
            rw [if_neg (by simpa using h1), if_neg (by simpa using h2), if_neg (by simpa using h3), if_neg (by simpa using h8)]
            have e3 : idx f.Consumers x.Unit = some f.Consumers[i] := by rw [hi]; exact idx_lt hi2
            rw [e3]
            simp only [Option.bind_some]
            rw [ck_t (by rw [hi]; simp; omega), Option.bind_some, change_sp hi hi1 hi2]
            simp only [Option.bind_some]
            rw [hi]; rfl
  simp only [Option.bind_some, hstep]
  cases okStep f s x <;> simp [zeroR]

theorem rkind_sp (f : api_Fleet) (x : api_Step) (h1 : 1 ≤ f.Consumers.length) : ref33_kind f x = some (decide (kindOk f x)) := by
  have j1 : ∀ v, ref33_kind_j1 x f v = some (v && (decide (0 ≤ x.Unit) && decide (x.Unit < (f.Consumers.length : Int)))) := fun v => by
    unfold ref33_kind_j1; cases v <;> simp
  have key : ∀ b : Bool, (b = true ↔ kindOk f x) → b = decide (kindOk f x) := fun b h => by rw [Bool.eq_iff_iff, decide_eq_true_eq]; exact h
  unfold ref33_kind ref33_kind_j0
  simp only [j1]
  by_cases a1 : x.Kind = 1
  · simp [a1, kindOk, issuerB]; rw [Bool.eq_iff_iff]; simp; omega
  by_cases a2 : x.Kind = 2
  · simp [a2, kindOk, issuerB]; rw [Bool.eq_iff_iff]; simp; omega
  by_cases a3 : x.Kind = 3
  · simp [a3, kindOk, issuerB]; rw [Bool.eq_iff_iff]; simp; omega
  by_cases a8 : x.Kind = 8
  · simp [a8, kindOk, issuerB]; rw [Bool.eq_iff_iff]; simp; omega
  have hi : issuerB x.Kind = false := by simp [issuerB, a1, a2, a3, a8]
  by_cases a4 : x.Kind = 4
  · simp [a4, kindOk, issuerB, Bool.decide_and]
  by_cases a5 : x.Kind = 5
  · simp [a5, kindOk, issuerB, Bool.decide_and]
  by_cases a6 : x.Kind = 6
  · simp [a6, kindOk, issuerB, Bool.decide_and]
  by_cases a7 : x.Kind = 7
  · simp [a7, kindOk, issuerB, Bool.decide_and]
  have : ¬ kindOk f x := fun h => by have := h.1; have := h.2.1; omega
  simp [a1, a2, a3, a4, a5, a6, a7, a8, this]

theorem st2 {u : api_Unit} (h : u.Stored = 1 ∨ u.Stored = 2 ∨ u.Stored = 3) : (bAnd .i64 u.Stored 2 == 0) = (u.Stored == 1) := by
  rcases h with h | h | h <;> rw [h] <;> decide
theorem rapply_sp (f : api_Fleet) (s : api_Rotation) (x : api_Step) : ref33_Apply f s x = some (applyP f s x) := by
  unfold ref33_Apply applyP
  simp only [rright_sp, Option.bind_some]
  by_cases hr : RightOk f s
  case neg => simp [hr, zeroR]
  obtain ⟨l0, l8⟩ := hr.len
  have hlen := hr.2.2.2.1
  simp only [hr, decide_true, not_true, if_false]
  rw [rkind_sp f x (by omega)]
  by_cases hk : kindOk f x
  case neg => simp [hk, zeroR]
  simp only [hk, decide_true, not_true, if_false, Option.bind_some]
  rw [if_neg (by simp), if_neg (by simp)]
  obtain ⟨k1, k2, k3, k4, k5⟩ := hk
  obtain ⟨i, hi⟩ : ∃ i : Nat, x.Unit = (i : Int) := ⟨x.Unit.toNat, by omega⟩
  have hi1 : i < s.Units.length := by omega
  have hi2 : i < f.Consumers.length := by omega
  obtain ⟨b1, b2, b3⟩ := knownB hr.2.1
  have hst := unitP_stored (hr.unit hi1 hi2)
  have hdo : ∃ t, ref33_do f s x = some (t, okStep f s x) ∧ (okStep f s x = true → t = nextS f s x) := by
    unfold ref33_do okStep nextS
    have e1 : f.Consumers.getD x.Unit.toNat default = f.Consumers[i] := by rw [hi]; simp [List.getD, hi2]
    have e2 : s.Units.getD x.Unit.toNat default = s.Units[i] := by rw [hi]; simp [List.getD, hi1]
    have e3 : idx f.Consumers x.Unit = some f.Consumers[i] := by rw [hi]; exact idx_lt hi2
    have e4 : idx s.Units x.Unit = some s.Units[i] := by rw [hi]; exact idx_lt hi1
    have e5 : x.Unit.toNat = i := by omega
    rw [rcopy_sp (by omega)]
    simp only [Option.bind_some]
    rw [ck_t (by rw [hi]; simp; omega), Option.bind_some, e4, Option.bind_some, e3, Option.bind_some]
    simp only [b1, b2, b3, e1, e2]
    have j0 : ∀ (v up : Bool) (st us : Int), ref33_do_j0 f.Consumers[i] x s (v, up, st, us) = some (⟨s.Known, s.Valid, s.Units.set i (fixU f.Consumers[i] ⟨up, st, us⟩)⟩, v) := fun v up st us => by
      unfold ref33_do_j0 ref33_do_j1 fixU
      rw [ck_t (by rw [hi]; simp; omega), e5]
      cases hL : f.Consumers[i].Live <;> cases up <;> simp
    by_cases h1 : x.Kind = 1
    · exact ⟨⟨3, s.Valid, s.Units⟩, by rcases hr.2.1 with hk | hk <;> simp [h1, hk], fun _ => by simp [h1]⟩
    by_cases h2 : x.Kind = 2
    · exact ⟨⟨s.Known, bOr .i64 s.Valid 2, s.Units⟩, by simp [h2], fun h => by
        simp [h2] at h
        simp [h2, h.2.1]; exact or1_2⟩
    by_cases h3 : x.Kind = 3
    · exact ⟨⟨s.Known, 2, s.Units⟩, by simp [h3], fun _ => by simp [h3]⟩
    by_cases h8 : x.Kind = 8
    · exact ⟨⟨s.Known, 2, s.Units⟩, by simp [h8], fun _ => by simp [h8]⟩
    simp only [h1, h2, h3, h8, if_false, j0, st2 hst]
    rw [if_neg (by simpa using h1), if_neg (by simpa using h2), if_neg (by simpa using h3), if_neg (by simpa using h8), e5]
    unfold unitStep
    by_cases h4 : x.Kind = 4
    · exact ⟨⟨s.Known, s.Valid, s.Units.set i (fixU f.Consumers[i] ⟨s.Units[i].Up, bif f.Consumers[i].Dual then 3 else 2, s.Units[i].Used⟩)⟩, by cases hD : f.Consumers[i].Dual <;> simp [h4, hD], fun _ => by simp [h4]⟩
    by_cases h7 : x.Kind = 7
    · exact ⟨⟨s.Known, s.Valid, s.Units.set i (fixU f.Consumers[i] ⟨s.Units[i].Up, 2, s.Units[i].Used⟩)⟩, by simp [h7], fun _ => by simp [h7]⟩
    by_cases h5 : x.Kind = 5
    · exact ⟨⟨s.Known, s.Valid, s.Units.set i (fixU f.Consumers[i] ⟨false, s.Units[i].Stored, 0⟩)⟩, by simp [h5], fun _ => by simp [h5, fixU]⟩
    by_cases h6 : x.Kind = 6
    · exact ⟨⟨s.Known, s.Valid, s.Units.set i (fixU f.Consumers[i] ⟨true, s.Units[i].Stored, s.Units[i].Stored⟩)⟩, by simp [h6], fun _ => by simp [h6, fixU]⟩
    exact ⟨⟨s.Known, s.Valid, s.Units.set i (fixU f.Consumers[i] ⟨s.Units[i].Up, s.Units[i].Stored, s.Units[i].Used⟩)⟩, by simp [h4, h5, h6, h7], fun h => by simp [h4, h5, h6, h7] at h⟩
  obtain ⟨t, ht, hn⟩ := hdo
  rw [ht]
  simp only [Option.bind_some]
  cases ho : okStep f s x with
  | false => simp [zeroR]
  | true => simp [hn ho]
end Go.Vl
